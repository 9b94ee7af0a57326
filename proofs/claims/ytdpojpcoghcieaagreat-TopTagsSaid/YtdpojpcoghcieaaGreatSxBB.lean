/- A part of the proof of TopTags: Sync. Conditions: none. -/
import Derived.Test.YtdpojpcoghcieaaGreatSxAX
set_option maxHeartbeats 8000000
set_option linter.all false
namespace Go.Proofs.YtdpojpcoghcieaaGreat
open Go.RowKit
open Nat renaming mod_eq_of_lt → Acm, mod_lt → Acn, not_lt_zero → Acp, add_mod_right → Acq, le_max_right → Acz, mul_le_mul_right → Ac3
open List renaming range → Aco, take_append → Acr, length_append → Acs, take_of_length_le → Acu, getElem?_append_left → Acv, getElem?_append_right → Acw, mem_cons_self → Acx, mem_cons_of_mem → Acy, getElem?_eq_none → Ac0, range_succ → Ac1, flatMap_append → Ac2
section
def sndT (l:List It):List Tg:=(l.filter fun x=>x.kind == 3).map fun x=>tgOf x.a
def rcvT (l:List It):List Tg:=(l.filter fun x=>x.kind == 4).map fun x=>tgOf x.a
theorem D7 (a b:List It):sndT (a++b)=sndT a++sndT b:=by simp [sndT]
theorem D8 (a b:List It):rcvT (a++b)=rcvT a++rcvT b:=by simp [rcvT]
theorem Gy {x:It} (h:x.kind=3):sndT [x]=[tgOf x.a]:=by simp [sndT,h]
theorem F3 {x:It} (h:x.kind=4):rcvT [x]=[tgOf x.a]:=by simp [rcvT,h]
theorem ER {x:It} (h:x.kind≠3):sndT [x]=[]:=by simp [sndT,h]
theorem El {x:It} (h:x.kind≠4):rcvT [x]=[]:=by simp [rcvT,h]
theorem Sk:sndT []=[]:=rfl
inductive Sync (k:Nat):(Nat->List It)->Prop
 | nil:Sync k fun _=>[]
 | one {f:Nat->It} (h:∀ u,u<k->(f u).kind≠3/\(f u).kind≠4):Sync k fun u=>[f u]
 | msg {s r:Nat->Option It} (hs:∀ u x,s u=some x->x.kind=3) (hr:∀ u x,r u=some x->x.kind=4)
   (h:∀ u,u<k->(s u).map (fun x=>tgOf x.a)=(r ((u+1) % k)).map fun x=>tgOf x.a):Sync k fun u=>(s u).toList++(r u).toList
 | app {A B:Nat->List It} (ha:Sync k A) (hb:Sync k B):Sync k fun u=>A u++B u
 | same {A B:Nat->List It} (h:∀ u,u<k->A u=B u) (ha:Sync k A):Sync k B
theorem around {k u:Nat} (h:u<k):((u+k-1) % k+1) % k=u/\((u+1) % k+k-1) % k=u:=by
 by_cases e:u=0
 . subst e;rw [Nat.zero_add,Acm (show k-1<k by omega)];refine ⟨by rw [show k-1+1=k by omega,Nat.mod_self],?_⟩
   by_cases e1:k=1
   . subst e1;rfl
   . rw [Acm (show 0+1<k by omega),show 0+1+k-1=0+k by omega,Acq];rfl
 . constructor
   . rw [show u+k-1=u-1+k by omega,Acq,Acm (show u-1<k by omega),show u-1+1=u by omega,Acm h]
   . by_cases e2:u+1=k
     . rw [e2,Nat.mod_self,Nat.zero_add,Acm (show k-1<k by omega)];omega
     . rw [Acm (show u+1<k by omega),show u+1+k-1=u+k by omega,Acq,Acm h]
theorem Sync.tags {k:Nat} {L:Nat->List It} (h:Sync k L):∀ u,u<k->sndT (L u)=rcvT (L ((u+1) % k)):=by
 induction h with
 | nil=>intro u _;rfl
 | one h =>
   intro u hu;have h2:=h ((u+1) % k) (Acn _ (by omega));show sndT [_]=rcvT [_];rw [ER (h u hu).1,El h2.2]
 | @msg s r hs hr h =>
   intro u hu;have e:=h u hu
   have q1:∀ u,sndT ((s u).toList++(r u).toList)=((s u).map fun x=>tgOf x.a).toList:=fun u=>by
    rw [D7]
    cases hsu:s u with
    | none =>
      cases hru:r u with
      | none=>rfl
      | some y=>show []++sndT [y]=_;rw [ER (by rw [hr u y hru];decide)];rfl
    | some x =>
      cases hru:r u with
      | none=>show sndT [x]++[]=_;rw [Gy (hs u x hsu)];rfl
      | some y=>show sndT [x]++sndT [y]=_;rw [Gy (hs u x hsu),ER (by rw [hr u y hru];decide)];rfl
   have q2:∀ u,rcvT ((s u).toList++(r u).toList)=((r u).map fun x=>tgOf x.a).toList:=fun u=>by
    rw [D8]
    cases hsu:s u with
    | none =>
      cases hru:r u with
      | none=>rfl
      | some y=>show []++rcvT [y]=_;rw [F3 (hr u y hru)];rfl
    | some x =>
      cases hru:r u with
      | none=>show rcvT [x]++[]=_;rw [El (by rw [hs u x hsu];decide)];rfl
      | some y=>show rcvT [x]++rcvT [y]=_;rw [El (by rw [hs u x hsu];decide),F3 (hr u y hru)];rfl
   show sndT ((s u).toList++(r u).toList)=rcvT ((s ((u+1) % k)).toList++(r ((u+1) % k)).toList);rw [q1,q2,e]
 | app _ _ ha hb =>
   intro u hu;show sndT (_++_)=rcvT (_++_);rw [D7,D8,ha u hu,hb u hu]
 | same h _ ha =>
   intro u hu;rw [<- h u hu,<- h _ (Acn _ (by omega)),ha u hu]
def sndN (L:Nat->List It) (d:Nat->Nat) (u:Nat):Nat:=(sndT ((L u).take (d u))).length
def rcvN (L:Nat->List It) (d:Nat->Nat) (u:Nat):Nat:=(rcvT ((L u).take (d u))).length
def Jz (k:Nat) (L:Nat->List It) (d:Nat->Nat) (u:Nat):Prop:=∃ x,(L u)[d u]?=some x/\(x.kind=3->sndN L d u<=rcvN L d ((u+1) % k))/\(x.kind=4->rcvN L d u<sndN L d ((u+k-1) % k))
theorem Ij (A B:Nat->List It) (d:Nat->Nat) (u:Nat):sndN (fun u=>A u++B u) d u=sndN A d u+sndN B (fun u=>d u-(A u).length) u:=by
 unfold sndN;rw [Acr,D7,Acs]
theorem Ik (A B:Nat->List It) (d:Nat->Nat) (u:Nat):rcvN (fun u=>A u++B u) d u=rcvN A d u+rcvN B (fun u=>d u-(A u).length) u:=by
 unfold rcvN;rw [Acr,D8,Acs]
theorem Sync.free {k:Nat} {L:Nat->List It} (h:Sync k L):∀ d:Nat->Nat,(∃ u,u<k/\d u<(L u).length)->∃ u,u<k/\Jz k L d u:=by
 induction h with
 | nil=>rintro d ⟨u,_,h⟩;exact absurd h (Acp _)
 | @one f h =>
   rintro d ⟨u,hu,hd⟩
   have hd0:d u=0:=by
    have:d u<1:=hd;omega
   refine ⟨u,hu,f u,by show [f u][d u]?=_;rw [hd0];rfl,fun h3=>absurd h3 (h u hu).1,fun h4=>absurd h4 (h u hu).2⟩
 | @msg s r hs hr h =>
   rintro d ⟨u,hu,hd⟩;replace hd:d u<((s u).toList++(r u).toList).length:=hd
   by_cases hex:∃ v,v<k/\d v=0/\(s v).isSome=true
   . obtain ⟨v,hv,hd0,hsv⟩:=hex;obtain ⟨x,hx⟩:=Option.isSome_iff_exists.1 hsv;refine ⟨v,hv,x,by show ((s v).toList++(r v).toList)[d v]?=_;rw [hd0,hx];rfl,fun _=>?_,fun h4=>absurd (hs v x hx) (by omega)⟩;unfold sndN;rw [hd0];exact Nat.zero_le _
   . have hall:∀ v,v<k->(s v).isSome=true->0<d v:=fun v hv hsv=>by
      rcases Nat.eq_zero_or_pos (d v) with h0 | h0
      . exact absurd ⟨v,hv,h0,hsv⟩ hex
      . exact h0
     have hv:(u+k-1) % k<k:=Acn _ (by omega)
     have key:∀ y,r u=some y->(rcvT (((s u).toList++(r u).toList).take (d u))).length=0->((s u).toList++(r u).toList)[d u]?=some y->∃ u,u<k/\Jz k (fun u=>(s u).toList++(r u).toList) d u:=fun y hy h0 hx=>by
      refine ⟨u,hu,y,hx,fun h3=>absurd (hr u y hy) (by omega),fun _=>?_⟩;have e:=h ((u+k-1) % k) hv;rw [(around hu).1,hy] at e
      cases hsv:s ((u+k-1) % k) with
      | none=>rw [hsv] at e;cases e
      | some z =>
        have h1:=hall _ hv (by rw [hsv];rfl);have hz:=hs _ z hsv;show (rcvT (((s u).toList++(r u).toList).take (d u))).length<(sndT (((s ((u+k-1) % k)).toList++(r ((u+k-1) % k)).toList).take (d ((u+k-1) % k)))).length;rw [h0,hsv]
        obtain ⟨n,hn⟩:∃ n,d ((u+k-1) % k)=n+1:=⟨d ((u+k-1) % k)-1,by omega⟩
        rw [hn];show 0<(sndT ([z]++((r ((u+k-1) % k)).toList).take n)).length;rw [D7,Gy hz];simp
     cases hsu:s u with
     | none =>
       cases hru:r u with
       | none=>rw [hsu,hru] at hd;exact absurd hd (Acp _)
       | some y =>
         rw [hsu,hru] at hd
         have hd0:d u=0:=by
          have:d u<1:=hd;omega
         exact key y hru (by rw [hd0];rfl) (by rw [hsu,hru,hd0];rfl)
     | some x =>
       have h1:=hall u hu (by rw [hsu];rfl)
       cases hru:r u with
       | none =>
         rw [hsu,hru] at hd;have:d u<1:=hd;omega
       | some y =>
         rw [hsu,hru] at hd
         have hd1:d u=1:=by
          have:d u<2:=hd;omega
         refine key y hru ?_ (by rw [hsu,hru,hd1];rfl);rw [hsu,hru,hd1];show (rcvT [x]).length=0;rw [El (by rw [hs u x hsu];decide)];rfl
 | @app A B hA _ ha hb =>
   rintro d ⟨u,hu,hd⟩
   by_cases hex:∃ v,v<k/\d v<(A v).length
   . obtain ⟨v,hv,x,hx,h3,h4⟩:=ha d hex;have hlt:=(List.getElem?_eq_some_iff.1 hx).1;refine ⟨v,hv,x,by show (A v++B v)[d v]?=_;rw [Acv hlt];exact hx,fun e=>?_,fun e=>?_⟩
     . have:=h3 e;rw [Ij,Ik];have h0:sndN B (fun u=>d u-(A u).length) v=0:=by unfold sndN;show (sndT ((B v).take (d v-(A v).length))).length=0;rw [show d v-(A v).length=0 by omega];rfl
       omega
     . have:=h4 e;rw [Ij,Ik];have h0:rcvN B (fun u=>d u-(A u).length) v=0:=by unfold rcvN;show (rcvT ((B v).take (d v-(A v).length))).length=0;rw [show d v-(A v).length=0 by omega];rfl
       omega
   . have hall:∀ v,v<k->(A v).length<=d v:=fun v hv=>by
      rcases Nat.lt_or_ge (d v) (A v).length with h0 | h0
      . exact absurd ⟨v,hv,h0⟩ hex
      . exact h0
     have fullS:∀ v,v<k->sndN A d v=(sndT (A v)).length:=fun v hv=>by unfold sndN;rw [Acu (hall v hv)]
     have fullR:∀ v,v<k->rcvN A d v=(rcvT (A v)).length:=fun v hv=>by unfold rcvN;rw [Acu (hall v hv)]
     have hlu:=hall u hu;have hd2:d u<(A u).length+(B u).length:=by have:=hd;rwa [Acs] at this
     obtain ⟨v,hv,x,hx,h3,h4⟩:=hb (fun u=>d u-(A u).length) ⟨u,hu,by show d u-(A u).length<_;omega⟩;have hlv:=hall v hv;refine ⟨v,hv,x,by show (A v++B v)[d v]?=_;rw [Acw hlv];exact hx,fun e=>?_,fun e=>?_⟩
     . have:=h3 e;have hv1:(v+1) % k<k:=Acn _ (by omega);rw [Ij,Ik,fullS v hv,fullR _ hv1,hA.tags v hv];omega
     . have:=h4 e;have hv1:(v+k-1) % k<k:=Acn _ (by omega);have ht:=hA.tags _ hv1;rw [(around hv).1] at ht;rw [Ij,Ik,fullS _ hv1,fullR v hv,ht];omega
 | @same A B h _ ha =>
   rintro d ⟨u,hu,hd⟩;obtain ⟨v,hv,x,hx,h3,h4⟩:=ha d ⟨u,hu,by rw [h u hu];exact hd⟩;have e1:∀ v,v<k->sndN A d v=sndN B d v:=fun v hv=>by unfold sndN;rw [h v hv]
   have e2:∀ v,v<k->rcvN A d v=rcvN B d v:=fun v hv=>by unfold rcvN;rw [h v hv]
   refine ⟨v,hv,x,by rw [<- h v hv];exact hx,fun e=>?_,fun e=>?_⟩
   . rw [<- e1 v hv,<- e2 _ (Acn _ (by omega))];exact h3 e
   . rw [<- e2 v hv,<- e1 _ (Acn _ (by omega))];exact h4 e
theorem Sync.flat {α:Type} {k:Nat} (F:α->Nat->List It):∀ l:List α,(∀ a∈l,Sync k (F a))->Sync k fun u=>l.flatMap fun a=>F a u
 | [],_=>.nil
 | a::l,h=>Sync.app (h a (Acx ..)) (Sync.flat F l fun b hb=>h b (Acy _ hb))
theorem Sync.plain {k:Nat}:∀ l:List It,(∀ x∈l,x.kind≠3/\x.kind≠4)->Sync k fun _=>l
 | [],_=>.nil
 | a::l,h=>Sync.app (Sync.one fun _ _=>h a (Acx ..)) (Sync.plain l fun b hb=>h b (Acy _ hb))
theorem Sync.fromTo {k kind:Nat} (h:kind≠3/\kind≠4) (t lo n:Nat):Sync k fun _=>fromTo kind t lo n :=
 Sync.plain _ fun x hx=>by
  obtain ⟨i,_,rfl⟩:=List.mem_map.1 hx;exact h
theorem Mw (f:Nat->Nat):∀ k,∃ M,∀ u,u<k->f u<=M
 | 0=>⟨0,fun _ h=>absurd h (Acp _)⟩
 | k+1=>by
   obtain ⟨M,hM⟩:=Mw f k;refine ⟨max M (f k),fun u hu=>?_⟩
   rcases Nat.lt_or_ge u k with h | h
   . exact Nat.le_trans (hM u h) (Nat.le_max_left _ _)
   . rw [show u=k by omega];exact Acz _ _
theorem Mx (j:Jb) (ph r:Nat) (xs ys:List (Nat × Nat)):∀ d,BU j ph r xs ys (max xs.length ys.length+d)=BU j ph r xs ys (max xs.length ys.length)
 | 0=>rfl
 | d+1=>by
   rw [<- Nat.add_assoc,FR,Mx j ph r xs ys d];unfold Dz;rw [Ac0 (by have:=Nat.le_max_left xs.length ys.length;omega),Ac0 (by have:=Acz xs.length ys.length;omega)];simp
def D9 (j:Jb) (u ph r:Nat):List (Nat × Nat):=Bj j.chunk ((B1 j)[segS j.workers u ph r]?.getD (0,0))
def inCh (j:Jb) (u ph r:Nat):List (Nat × Nat):=Bj j.chunk ((B1 j)[segR j.workers u ph r]?.getD (0,0))
theorem Sl {j:Jb} {u:Nat} (ph r:Nat) (hu:u<j.workers):inCh j ((u+1) % j.workers) ph r=D9 j u ph r:=by
 unfold inCh D9 segR;rw [(around hu).2]
theorem Sync.round (j:Jb) (ph r t:Nat):Sync j.workers fun u=>(Ca j u ph r).map (BJ t):=by
 obtain ⟨M,hM⟩:=Mw (fun u=>max (D9 j u ph r).length (inCh j u ph r).length) j.workers;refine Sync.same (A:=fun u=>(Aco M).flatMap fun i=>(((D9 j u ph r)[i]?.map fun p=>BJ t (BS j true ph r i p)).toList++((inCh j u ph r)[i]?.map fun p=>BJ t (BS j false ph r i p)).toList)) (fun u hu=>?_) (Sync.flat (fun i u=>((D9 j u ph r)[i]?.map fun p=>BJ t (BS j true ph r i p)).toList++((inCh j u ph r)[i]?.map fun p=>BJ t (BS j false ph r i p)).toList) _ fun i _=>?_)
 . have h1:=hM u hu;have h2:=Mx j ph r (D9 j u ph r) (inCh j u ph r) (M-max (D9 j u ph r).length (inCh j u ph r).length);rw [Nat.add_sub_cancel' h1] at h2;show _=(BU j ph r (D9 j u ph r) (inCh j u ph r) (max (D9 j u ph r).length (inCh j u ph r).length)).map (BJ t);rw [<- h2];unfold BU;rw [List.map_flatMap]
   congr 1
   funext i
   unfold Dz;rw [List.map_append]
   congr 1
   . cases (D9 j u ph r)[i]? <;> rfl
   . cases (inCh j u ph r)[i]? <;> rfl
 . refine Sync.msg (s:=fun u=>(D9 j u ph r)[i]?.map fun p=>BJ t (BS j true ph r i p)) (r:=fun u=>(inCh j u ph r)[i]?.map fun p=>BJ t (BS j false ph r i p)) (fun u x hx=>?_) (fun u x hx=>?_) (fun u hu=>?_)
   . obtain ⟨p,_,rfl⟩:=Option.map_eq_some_iff.1 hx;rfl
   . obtain ⟨p,_,rfl⟩:=Option.map_eq_some_iff.1 hx;rfl
   . rw [Sl ph r hu]
     cases (D9 j u ph r)[i]? <;> rfl
theorem Sync.items (bs gs:List (Nat × Nat)) (k s mi t:Nat):Sync k fun u=>Cv bs gs k s mi t u:=by
 refine Sync.app (Sync.app (Sync.fromTo (by decide) _ _ _) (Sync.flat (fun g u=>CJ bs k s t u g) gs fun g _=>?_)) (Sync.one fun _ _=>by simp [B8]);refine Sync.app (Sync.app (Sync.fromTo (by decide) _ _ _) ?_) (Sync.fromTo (by decide) _ _ _);refine Sync.flat (fun q u=>BV bs k s t u q g.1 (g.2-g.1)) _ fun q _=>?_;exact Sync.flat (fun i u=>rndB bs k s t u q (g.1+i)) _ fun i _=>Sync.round (EH bs k s t (g.1+i)) _ _ t
def Ak (c:Kf) (p u:Nat):List It:=(Aco c.st).flatMap fun t=>AS c p t u
theorem Sync.all (c:Kf) (p:Nat):Sync c.k (Ak c p):=Sync.flat (fun t u=>AS c p t u) _ fun _ _=>Sync.items _ _ _ _ _ _
theorem Sm {F:Nat->List It} {L:Nat} (hF:∀ t,(F t).length=L) {t i:Nat} (hi:i<=L):∀ n,t<n->((Aco n).flatMap F).take (t*L+i)=(Aco t).flatMap F++(F t).take i
 | 0,h=>absurd h (Acp _)
 | n+1,h=>by
   have hl:((Aco n).flatMap F).length=n*L:=by rw [Fk,DW (g:=fun _=>L) (fun i _=>hF i),Fj]
   rw [Ac1,Ac2,Acr,hl]
   by_cases e:t=n
   . subst e;rw [Acu (by rw [hl];omega),show t*L+i-t*L=i by omega];simp
   . have h1:t*L+L<=n*L:=by rw [<- Nat.succ_mul];exact Ac3 _ (by omega)
     rw [Sm hF hi n (by omega),show t*L+i-n*L=0 by omega];simp
theorem My {F:Nat->List It} {L:Nat} (hF:∀ t,(F t).length=L) {t i:Nat} (hi:i<L):∀ n,t<n->((Aco n).flatMap F)[t*L+i]?=(F t)[i]?
 | 0,h=>absurd h (Acp _)
 | n+1,h=>by
   have hl:((Aco n).flatMap F).length=n*L:=by rw [Fk,DW (g:=fun _=>L) (fun i _=>hF i),Fj]
   rw [Ac1,Ac2]
   by_cases e:t=n
   . subst e;rw [Acw (by rw [hl];omega),hl,show t*L+i-t*L=i by omega];simp
   . have h1:t*L+L<=n*L:=by rw [<- Nat.succ_mul];exact Ac3 _ (by omega)
     rw [Acv (by rw [hl];omega)];exact My hF hi n (by omega)
end
end Go.Proofs.YtdpojpcoghcieaaGreat
