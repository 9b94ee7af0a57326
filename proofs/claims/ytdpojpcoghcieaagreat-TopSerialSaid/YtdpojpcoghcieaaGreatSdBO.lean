/- A part of the proof of TopSerial: RefSer, GradEl, Sync, Stat. Conditions: none. -/
import Derived.Test.YtdpojpcoghcieaaGreatSdBG
import Derived.Test.YtdpojpcoghcieaaGreatSdBN
set_option maxHeartbeats 8000000
namespace Go.Proofs.YtdpojpcoghcieaaGreat
open Lib renaming hid → K1
open Go.RowKit
set_option maxRecDepth 100000 in
theorem rnet14_any (w:World) (i:Inp) (A:Option Addr) (p cp:Nat) :
  Calls Tryz.prog 73 #[.agg i.cells.toArray,.slice A p cp] w fun e w'=>e=.returned (.agg #[.slice i.A i.r.ns.length i.cap,.slice A p cp,.int .i64 i.r.c.sh])∧Below w.heap.size w w':=by
 have hm:=((Mem.start w).alloc (.cells i.cells.toArray 29)).alloc (.cells #[.slice i.A i.r.ns.length i.cap,.slice A p cp,.int .i64 i.r.c.sh] 178)
 simp only [World.size_alloc] at hm
 have HM:=K1 hm
 dsimp only [Inp.cells] at *
 clear hm
 go_enter Tryz.func73,Tryz.ntmps73
 go_wp2_with fail
 have c2:=HM.out.cells 2 rfl
 refine bodyPost_ret (v:=.agg #[.slice i.A i.r.ns.length i.cap,.slice A p cp,.int .i64 i.r.c.sh]) ?_ rfl ⟨rfl,HM.out.bel 0 rfl⟩
 simp [results,Tryz.results73,go_sem,c2]
def Inp.conf (i:Inp):List Value:=[.slice i.A i.r.ns.length i.cap,.int .i64 i.r.c.sh,.int .i64 i.r.c.ra,.int .i64 i.r.c.mo,.int .i64 i.r.c.k,.int .i64 i.r.c.ba,.int .i64 i.r.c.mi,.int .i64 i.r.c.st,.int .i64 i.r.c.bu,.int .i64 i.r.c.s,.int .i64 i.r.c.wi,.int .i64 i.r.c.ca]
set_option maxRecDepth 100000 in
theorem rrule14_any (w:World) (i:Inp) :
  Calls Tryz.prog 36 #[.agg i.conf.toArray] w fun e w'=>e=.returned (.agg #[.int .i64 i.r.c.ra,.int .i64 i.r.c.mo,.int .i64 i.r.c.sh])∧Below w.heap.size w w':=by
 have hm:=((Mem.start w).alloc (.cells i.conf.toArray 24)).alloc (.cells #[.int .i64 i.r.c.ra,.int .i64 i.r.c.mo,.int .i64 i.r.c.sh] 111)
 simp only [World.size_alloc] at hm
 have HM:=K1 hm
 dsimp only [Inp.conf] at *
 clear hm
 go_enter Tryz.func36,Tryz.ntmps36
 go_wp2_with fail
 have c2:=HM.out.cells 2 rfl
 refine bodyPost_ret (v:=.agg #[.int .i64 i.r.c.ra,.int .i64 i.r.c.mo,.int .i64 i.r.c.sh]) ?_ rfl ⟨rfl,HM.out.bel 0 rfl⟩
 simp [results,Tryz.results36,go_sem,c2]
set_option maxRecDepth 100000 in
theorem rsamp14_any (w:World) (i:Inp) (hi:i.Ok) (ha:i.At w) :
  Calls Tryz.prog 32 #[.agg i.cells.toArray] w fun e w'=>∃ Ao co,e=.returned (.agg (rsC i.r.n i.r.c.ba i.r.c.st Ao co).toArray)∧RSampIn w' w.heap.size w'.heap.size i.r.n i.r.c.ba i.r.c.st Ao i.r.ds∧Below w.heap.size w w':=by
 have hba:=hi.c.ba
 have hk:=hi.c.k
 have hn:=hi.n
 have CN:=K1 (fun W (hb:Below w.heap.size w W)=>rsampNew_any W i.r.n i.r.c.ba i.r.c.st i.rcap i.RA i.r.ds (ha.below hb).ds (by omega) (by omega) hi.c.st hi.ds.1 hi.ds.2)
 have hm:=((Mem.start w).alloc (.cells i.cells.toArray 29)).alloc (.cells #[.int .i64 0,.int .i64 0,.int .i64 0,.slice none 0 0] 103)
 simp only [World.size_alloc] at hm
 have HM:=K1 hm
 dsimp only [Inp.cells,rsC] at *
 clear hm ha hba hk hn
 go_enter Tryz.func32,Tryz.ntmps32
 go_wp2_with fail
 refine (CN.out _ (HM.out.bel 0 rfl)).mono ?_
 rintro e w3 ⟨Ao,co,rfl,_,hs,hb⟩
 have HM4:=K1 ((HM.out.push (c:=rsCh _ _ _ _ _ Ao i.r.ds) hb (rsCh_holds hs (Nat.le_refl _)) (fun g hg=>hg.1)).alloc (.cells #[.int .i64 i.r.n,.int .i64 i.r.c.ba,.int .i64 i.r.c.st,.slice Ao (pcnt i.r.c.st (i.r.n / i.r.c.ba)) co] 103))
 have c2:=HM4.out.cells 2 rfl
 have c4:=HM4.out.cells 4 rfl
 have f2:=fun j=>HM4.out.frozen 2 j rfl
 have hf:=HM4.out.fill (i:=2) rfl [.int .i64 i.r.n,.int .i64 i.r.c.ba,.int .i64 i.r.c.st,.slice Ao (pcnt i.r.c.st (i.r.n / i.r.c.ba)) co] rfl
 simp only [World.setCells,Nat.reduceAdd,Nat.zero_add] at hf
 have HF:=K1 hf
 have HM2:=HM
 clear HM hb hs CN HM4 hf
 go_wp2_with fail
 clear c2 f2 c4
 have c2:=HF.out.cells 2 rfl
 refine bodyPost_ret (v:=.agg #[.int .i64 i.r.n,.int .i64 i.r.c.ba,.int .i64 i.r.c.st,.slice Ao (pcnt i.r.c.st (i.r.n / i.r.c.ba)) co]) ?_ rfl ⟨Ao,co,rfl,RSampIn.more (HF.out.st 3 rfl) (HM2.out.bel 0 rfl).size (Nat.le_of_lt (HF.out.lt 4 rfl)),HF.out.bel 0 rfl⟩
 simp [results,Tryz.results32,go_sem,c2]
theorem ext_getD {a b:List Int} (hl:a.length=b.length) (h:∀ i,i<a.length→a[i]?.getD 0=b[i]?.getD 0):a=b:=by
 refine List.ext_getElem? fun i=>?_
 rcases Nat.lt_or_ge i a.length with hi | hi
 · have:=h i hi
   rw [List.getElem?_eq_getElem hi,List.getElem?_eq_getElem (hl ▸ hi)] at this ⊢
   exact congrArg some this
 · rw [List.getElem?_eq_none hi,List.getElem?_eq_none (hl ▸ hi)]
theorem w64_l (a b:Int):wrap64 (wrap64 a+b)=wrap64 (a+b):=by unfold wrap64;omega
theorem w64_r (a b:Int):wrap64 (a+wrap64 b)=wrap64 (a+b):=by unfold wrap64;omega
theorem w64_id {a:Int} (h:-9223372036854775808≤a∧a≤9223372036854775807):wrap64 a=a:=by unfold wrap64;omega
theorem set_getD (l:List Int) (i j:Nat) (v:Int) (hi:i<l.length):(l.set i v)[j]?.getD 0=if j=i then v else l[j]?.getD 0:=by
 by_cases e:j=i
 · subst e;rw [List.getElem?_set_self hi,if_pos rfl];rfl
 · rw [List.getElem?_set_ne (Ne.symm e),if_neg e]
theorem subL_getD (l:List Int) (a b r:Nat) (h:r<b-a):(subL l a b)[r]?.getD 0=l[a+r]?.getD 0:=by
 unfold subL
 rw [List.getElem?_take_of_lt h,List.getElem?_drop]
theorem map_getD (f:Nat→Int) (n i:Nat) (h:i<n):((List.range n).map f)[i]?.getD 0=f i:=by simp [h]
theorem zero_getD (n i:Nat):(zeroL n)[i]?.getD 0=0:=by
 rcases Nat.lt_or_ge i n with h | h <;> simp [zeroL,h]
theorem addTo_getD (lo:Nat) (ys xs:List Int):∀ k,lo+k≤xs.length→∀ j,(addTo lo ys xs k)[j]?.getD 0=if lo≤j∧j<lo+k then wrap64 (xs[j]?.getD 0+ys[j-lo]?.getD 0) else xs[j]?.getD 0
 | 0,_,j=>by rw [if_neg (by omega)];rfl
 | k+1,h,j=>by
   have e1:=addTo_getD lo ys xs k (by omega) j
   have e2:=addTo_getD lo ys xs k (by omega) (lo+k)
   rw [if_neg (by omega)] at e2
   rw [addTo,set_getD _ _ _ _ (by rw [addTo_len];omega),e2]
   by_cases e:j=lo+k
   · subst e
     rw [if_pos rfl,if_pos (by omega),Nat.add_sub_cancel_left]
   · rw [if_neg e,e1]
     by_cases e2:lo≤j∧j<lo+k
     · rw [if_pos e2,if_pos (by omega)]
     · rw [if_neg e2,if_neg (by omega)]
def sndT (l:List It):List Tg:=(l.filter fun x=>x.kind == 3).map fun x=>tgOf x.a
def rcvT (l:List It):List Tg:=(l.filter fun x=>x.kind == 4).map fun x=>tgOf x.a
theorem sndT_app (a b:List It):sndT (a++b)=sndT a++sndT b:=by simp [sndT]
theorem rcvT_app (a b:List It):rcvT (a++b)=rcvT a++rcvT b:=by simp [rcvT]
theorem sndT_one {x:It} (h:x.kind=3):sndT [x]=[tgOf x.a]:=by simp [sndT,h]
theorem rcvT_one {x:It} (h:x.kind=4):rcvT [x]=[tgOf x.a]:=by simp [rcvT,h]
theorem sndT_no {x:It} (h:x.kind≠3):sndT [x]=[]:=by simp [sndT,h]
theorem rcvT_no {x:It} (h:x.kind≠4):rcvT [x]=[]:=by simp [rcvT,h]
theorem sndT_nil:sndT []=[]:=rfl
inductive Sync (k:Nat):(Nat→List It)→Prop
 | nil:Sync k fun _=>[]
 | one {f:Nat→It} (h:∀ u,u<k→(f u).kind≠3∧(f u).kind≠4):Sync k fun u=>[f u]
 | msg {s r:Nat→Option It} (hs:∀ u x,s u=some x→x.kind=3) (hr:∀ u x,r u=some x→x.kind=4)
   (h:∀ u,u<k→(s u).map (fun x=>tgOf x.a)=(r ((u+1) % k)).map fun x=>tgOf x.a):Sync k fun u=>(s u).toList++(r u).toList
 | app {A B:Nat→List It} (ha:Sync k A) (hb:Sync k B):Sync k fun u=>A u++B u
 | same {A B:Nat→List It} (h:∀ u,u<k→A u=B u) (ha:Sync k A):Sync k B
theorem around {k u:Nat} (h:u<k):((u+k-1) % k+1) % k=u∧((u+1) % k+k-1) % k=u:=by
 by_cases e:u=0
 · subst e
   rw [Nat.zero_add,Nat.mod_eq_of_lt (show k-1<k by omega)]
   refine ⟨by rw [show k-1+1=k by omega,Nat.mod_self],?_⟩
   by_cases e1:k=1
   · subst e1;rfl
   · rw [Nat.mod_eq_of_lt (show 0+1<k by omega),show 0+1+k-1=0+k by omega,Nat.add_mod_right];rfl
 · constructor
   · rw [show u+k-1=u-1+k by omega,Nat.add_mod_right,Nat.mod_eq_of_lt (show u-1<k by omega),show u-1+1=u by omega,Nat.mod_eq_of_lt h]
   · by_cases e2:u+1=k
     · rw [e2,Nat.mod_self,Nat.zero_add,Nat.mod_eq_of_lt (show k-1<k by omega)];omega
     · rw [Nat.mod_eq_of_lt (show u+1<k by omega),show u+1+k-1=u+k by omega,Nat.add_mod_right,Nat.mod_eq_of_lt h]
theorem Sync.tags {k:Nat} {L:Nat→List It} (h:Sync k L):∀ u,u<k→sndT (L u)=rcvT (L ((u+1) % k)):=by
 induction h with
 | nil=>intro u _;rfl
 | one h =>
   intro u hu
   have h2:=h ((u+1) % k) (Nat.mod_lt _ (by omega))
   show sndT [_]=rcvT [_]
   rw [sndT_no (h u hu).1,rcvT_no h2.2]
 | @msg s r hs hr h =>
   intro u hu
   have e:=h u hu
   have q1:∀ u,sndT ((s u).toList++(r u).toList)=((s u).map fun x=>tgOf x.a).toList:=fun u=>by
    rw [sndT_app]
    cases hsu:s u with
    | none =>
      cases hru:r u with
      | none=>rfl
      | some y=>show []++sndT [y]=_;rw [sndT_no (by rw [hr u y hru];decide)];rfl
    | some x =>
      cases hru:r u with
      | none=>show sndT [x]++[]=_;rw [sndT_one (hs u x hsu)];rfl
      | some y=>show sndT [x]++sndT [y]=_;rw [sndT_one (hs u x hsu),sndT_no (by rw [hr u y hru];decide)];rfl
   have q2:∀ u,rcvT ((s u).toList++(r u).toList)=((r u).map fun x=>tgOf x.a).toList:=fun u=>by
    rw [rcvT_app]
    cases hsu:s u with
    | none =>
      cases hru:r u with
      | none=>rfl
      | some y=>show []++rcvT [y]=_;rw [rcvT_one (hr u y hru)];rfl
    | some x =>
      cases hru:r u with
      | none=>show rcvT [x]++[]=_;rw [rcvT_no (by rw [hs u x hsu];decide)];rfl
      | some y=>show rcvT [x]++rcvT [y]=_;rw [rcvT_no (by rw [hs u x hsu];decide),rcvT_one (hr u y hru)];rfl
   show sndT ((s u).toList++(r u).toList)=rcvT ((s ((u+1) % k)).toList++(r ((u+1) % k)).toList)
   rw [q1,q2,e]
 | app _ _ ha hb =>
   intro u hu
   show sndT (_++_)=rcvT (_++_)
   rw [sndT_app,rcvT_app,ha u hu,hb u hu]
 | same h _ ha =>
   intro u hu
   rw [← h u hu,← h _ (Nat.mod_lt _ (by omega)),ha u hu]
def sndN (L:Nat→List It) (d:Nat→Nat) (u:Nat):Nat:=(sndT ((L u).take (d u))).length
def rcvN (L:Nat→List It) (d:Nat→Nat) (u:Nat):Nat:=(rcvT ((L u).take (d u))).length
def FreeAt (k:Nat) (L:Nat→List It) (d:Nat→Nat) (u:Nat):Prop:=∃ x,(L u)[d u]?=some x∧(x.kind=3→sndN L d u≤rcvN L d ((u+1) % k))∧(x.kind=4→rcvN L d u<sndN L d ((u+k-1) % k))
theorem sndN_app (A B:Nat→List It) (d:Nat→Nat) (u:Nat):sndN (fun u=>A u++B u) d u=sndN A d u+sndN B (fun u=>d u-(A u).length) u:=by
 unfold sndN
 rw [List.take_append,sndT_app,List.length_append]
theorem rcvN_app (A B:Nat→List It) (d:Nat→Nat) (u:Nat):rcvN (fun u=>A u++B u) d u=rcvN A d u+rcvN B (fun u=>d u-(A u).length) u:=by
 unfold rcvN
 rw [List.take_append,rcvT_app,List.length_append]
theorem Sync.free {k:Nat} {L:Nat→List It} (h:Sync k L):∀ d:Nat→Nat,(∃ u,u<k∧d u<(L u).length)→∃ u,u<k∧FreeAt k L d u:=by
 induction h with
 | nil=>rintro d ⟨u,_,h⟩;exact absurd h (Nat.not_lt_zero _)
 | @one f h =>
   rintro d ⟨u,hu,hd⟩
   have hd0:d u=0:=by
    have:d u<1:=hd
    omega
   refine ⟨u,hu,f u,by show [f u][d u]?=_;rw [hd0];rfl,fun h3=>absurd h3 (h u hu).1,fun h4=>absurd h4 (h u hu).2⟩
 | @msg s r hs hr h =>
   rintro d ⟨u,hu,hd⟩
   replace hd:d u<((s u).toList++(r u).toList).length:=hd
   by_cases hex:∃ v,v<k∧d v=0∧(s v).isSome=true
   · obtain ⟨v,hv,hd0,hsv⟩:=hex
     obtain ⟨x,hx⟩:=Option.isSome_iff_exists.1 hsv
     refine ⟨v,hv,x,by show ((s v).toList++(r v).toList)[d v]?=_;rw [hd0,hx];rfl,fun _=>?_,fun h4=>absurd (hs v x hx) (by omega)⟩
     unfold sndN
     rw [hd0]
     exact Nat.zero_le _
   · have hall:∀ v,v<k→(s v).isSome=true→0<d v:=fun v hv hsv=>by
      rcases Nat.eq_zero_or_pos (d v) with h0 | h0
      · exact absurd ⟨v,hv,h0,hsv⟩ hex
      · exact h0
     have hv:(u+k-1) % k<k:=Nat.mod_lt _ (by omega)
     have key:∀ y,r u=some y→(rcvT (((s u).toList++(r u).toList).take (d u))).length=0→((s u).toList++(r u).toList)[d u]?=some y→∃ u,u<k∧FreeAt k (fun u=>(s u).toList++(r u).toList) d u:=fun y hy h0 hx=>by
      refine ⟨u,hu,y,hx,fun h3=>absurd (hr u y hy) (by omega),fun _=>?_⟩
      have e:=h ((u+k-1) % k) hv
      rw [(around hu).1,hy] at e
      cases hsv:s ((u+k-1) % k) with
      | none=>rw [hsv] at e;cases e
      | some z =>
        have h1:=hall _ hv (by rw [hsv];rfl)
        have hz:=hs _ z hsv
        show (rcvT (((s u).toList++(r u).toList).take (d u))).length<(sndT (((s ((u+k-1) % k)).toList++(r ((u+k-1) % k)).toList).take (d ((u+k-1) % k)))).length
        rw [h0,hsv]
        obtain ⟨n,hn⟩:∃ n,d ((u+k-1) % k)=n+1:=⟨d ((u+k-1) % k)-1,by omega⟩
        rw [hn]
        show 0<(sndT ([z]++((r ((u+k-1) % k)).toList).take n)).length
        rw [sndT_app,sndT_one hz]
        simp
     cases hsu:s u with
     | none =>
       cases hru:r u with
       | none=>rw [hsu,hru] at hd;exact absurd hd (Nat.not_lt_zero _)
       | some y =>
         rw [hsu,hru] at hd
         have hd0:d u=0:=by
          have:d u<1:=hd
          omega
         exact key y hru (by rw [hd0];rfl) (by rw [hsu,hru,hd0];rfl)
     | some x =>
       have h1:=hall u hu (by rw [hsu];rfl)
       cases hru:r u with
       | none =>
         rw [hsu,hru] at hd
         have:d u<1:=hd
         omega
       | some y =>
         rw [hsu,hru] at hd
         have hd1:d u=1:=by
          have:d u<2:=hd
          omega
         refine key y hru ?_ (by rw [hsu,hru,hd1];rfl)
         rw [hsu,hru,hd1]
         show (rcvT [x]).length=0
         rw [rcvT_no (by rw [hs u x hsu];decide)]
         rfl
 | @app A B hA _ ha hb =>
   rintro d ⟨u,hu,hd⟩
   by_cases hex:∃ v,v<k∧d v<(A v).length
   · obtain ⟨v,hv,x,hx,h3,h4⟩:=ha d hex
     have hlt:=(List.getElem?_eq_some_iff.1 hx).1
     refine ⟨v,hv,x,by show (A v++B v)[d v]?=_;rw [List.getElem?_append_left hlt];exact hx,fun e=>?_,fun e=>?_⟩
     · have:=h3 e
       rw [sndN_app,rcvN_app]
       have h0:sndN B (fun u=>d u-(A u).length) v=0:=by unfold sndN;show (sndT ((B v).take (d v-(A v).length))).length=0;rw [show d v-(A v).length=0 by omega];rfl
       omega
     · have:=h4 e
       rw [sndN_app,rcvN_app]
       have h0:rcvN B (fun u=>d u-(A u).length) v=0:=by unfold rcvN;show (rcvT ((B v).take (d v-(A v).length))).length=0;rw [show d v-(A v).length=0 by omega];rfl
       omega
   · have hall:∀ v,v<k→(A v).length≤d v:=fun v hv=>by
      rcases Nat.lt_or_ge (d v) (A v).length with h0 | h0
      · exact absurd ⟨v,hv,h0⟩ hex
      · exact h0
     have fullS:∀ v,v<k→sndN A d v=(sndT (A v)).length:=fun v hv=>by unfold sndN;rw [List.take_of_length_le (hall v hv)]
     have fullR:∀ v,v<k→rcvN A d v=(rcvT (A v)).length:=fun v hv=>by unfold rcvN;rw [List.take_of_length_le (hall v hv)]
     have hlu:=hall u hu
     have hd2:d u<(A u).length+(B u).length:=by have:=hd;rwa [List.length_append] at this
     obtain ⟨v,hv,x,hx,h3,h4⟩:=hb (fun u=>d u-(A u).length) ⟨u,hu,by show d u-(A u).length<_;omega⟩
     have hlv:=hall v hv
     refine ⟨v,hv,x,by show (A v++B v)[d v]?=_;rw [List.getElem?_append_right hlv];exact hx,fun e=>?_,fun e=>?_⟩
     · have:=h3 e
       have hv1:(v+1) % k<k:=Nat.mod_lt _ (by omega)
       rw [sndN_app,rcvN_app,fullS v hv,fullR _ hv1,hA.tags v hv]
       omega
     · have:=h4 e
       have hv1:(v+k-1) % k<k:=Nat.mod_lt _ (by omega)
       have ht:=hA.tags _ hv1
       rw [(around hv).1] at ht
       rw [sndN_app,rcvN_app,fullS _ hv1,fullR v hv,ht]
       omega
 | @same A B h _ ha =>
   rintro d ⟨u,hu,hd⟩
   obtain ⟨v,hv,x,hx,h3,h4⟩:=ha d ⟨u,hu,by rw [h u hu];exact hd⟩
   have e1:∀ v,v<k→sndN A d v=sndN B d v:=fun v hv=>by unfold sndN;rw [h v hv]
   have e2:∀ v,v<k→rcvN A d v=rcvN B d v:=fun v hv=>by unfold rcvN;rw [h v hv]
   refine ⟨v,hv,x,by rw [← h v hv];exact hx,fun e=>?_,fun e=>?_⟩
   · rw [← e1 v hv,← e2 _ (Nat.mod_lt _ (by omega))];exact h3 e
   · rw [← e2 v hv,← e1 _ (Nat.mod_lt _ (by omega))];exact h4 e
theorem Sync.flat {α:Type} {k:Nat} (F:α→Nat→List It):∀ l:List α,(∀ a∈l,Sync k (F a))→Sync k fun u=>l.flatMap fun a=>F a u
 | [],_=>.nil
 | a::l,h=>Sync.app (h a (List.mem_cons_self ..)) (Sync.flat F l fun b hb=>h b (List.mem_cons_of_mem _ hb))
theorem Sync.plain {k:Nat}:∀ l:List It,(∀ x∈l,x.kind≠3∧x.kind≠4)→Sync k fun _=>l
 | [],_=>.nil
 | a::l,h=>Sync.app (Sync.one fun _ _=>h a (List.mem_cons_self ..)) (Sync.plain l fun b hb=>h b (List.mem_cons_of_mem _ hb))
theorem Sync.fromTo {k kind:Nat} (h:kind≠3∧kind≠4) (t lo n:Nat):Sync k fun _=>fromTo kind t lo n :=
 Sync.plain _ fun x hx=>by
  obtain ⟨i,_,rfl⟩:=List.mem_map.1 hx
  exact h
theorem bound_all (f:Nat→Nat):∀ k,∃ M,∀ u,u<k→f u≤M
 | 0=>⟨0,fun _ h=>absurd h (Nat.not_lt_zero _)⟩
 | k+1=>by
   obtain ⟨M,hM⟩:=bound_all f k
   refine ⟨max M (f k),fun u hu=>?_⟩
   rcases Nat.lt_or_ge u k with h | h
   · exact Nat.le_trans (hM u h) (Nat.le_max_left _ _)
   · rw [show u=k by omega];exact Nat.le_max_right _ _
theorem addsTo_more (j:Jb) (ph r:Nat) (xs ys:List (Nat × Nat)):∀ d,addsTo j ph r xs ys (max xs.length ys.length+d)=addsTo j ph r xs ys (max xs.length ys.length)
 | 0=>rfl
 | d+1=>by
   rw [← Nat.add_assoc,addsTo_succ,addsTo_more j ph r xs ys d]
   unfold addsAt
   rw [List.getElem?_eq_none (by have:=Nat.le_max_left xs.length ys.length;omega),List.getElem?_eq_none (by have:=Nat.le_max_right xs.length ys.length;omega)]
   simp
def outCh (j:Jb) (u ph r:Nat):List (Nat × Nat):=segChunks j.chunk ((jobSegs j)[segS j.workers u ph r]?.getD (0,0))
def inCh (j:Jb) (u ph r:Nat):List (Nat × Nat):=segChunks j.chunk ((jobSegs j)[segR j.workers u ph r]?.getD (0,0))
theorem in_out {j:Jb} {u:Nat} (ph r:Nat) (hu:u<j.workers):inCh j ((u+1) % j.workers) ph r=outCh j u ph r:=by
 unfold inCh outCh segR
 rw [(around hu).2]
theorem Sync.round (j:Jb) (ph r t:Nat):Sync j.workers fun u=>(roundL j u ph r).map (actIt t):=by
 obtain ⟨M,hM⟩:=bound_all (fun u=>max (outCh j u ph r).length (inCh j u ph r).length) j.workers
 refine Sync.same (A:=fun u=>(List.range M).flatMap fun i=>(((outCh j u ph r)[i]?.map fun p=>actIt t (addAc j true ph r i p)).toList++((inCh j u ph r)[i]?.map fun p=>actIt t (addAc j false ph r i p)).toList)) (fun u hu=>?_) (Sync.flat (fun i u=>((outCh j u ph r)[i]?.map fun p=>actIt t (addAc j true ph r i p)).toList++((inCh j u ph r)[i]?.map fun p=>actIt t (addAc j false ph r i p)).toList) _ fun i _=>?_)
 · have h1:=hM u hu
   have h2:=addsTo_more j ph r (outCh j u ph r) (inCh j u ph r) (M-max (outCh j u ph r).length (inCh j u ph r).length)
   rw [Nat.add_sub_cancel' h1] at h2
   show _=(addsTo j ph r (outCh j u ph r) (inCh j u ph r) (max (outCh j u ph r).length (inCh j u ph r).length)).map (actIt t)
   rw [← h2]
   unfold addsTo
   rw [List.map_flatMap]
   congr 1
   funext i
   unfold addsAt
   rw [List.map_append]
   congr 1
   · cases (outCh j u ph r)[i]? <;> rfl
   · cases (inCh j u ph r)[i]? <;> rfl
 · refine Sync.msg (s:=fun u=>(outCh j u ph r)[i]?.map fun p=>actIt t (addAc j true ph r i p)) (r:=fun u=>(inCh j u ph r)[i]?.map fun p=>actIt t (addAc j false ph r i p)) (fun u x hx=>?_) (fun u x hx=>?_) (fun u hu=>?_)
   · obtain ⟨p,_,rfl⟩:=Option.map_eq_some_iff.1 hx
     rfl
   · obtain ⟨p,_,rfl⟩:=Option.map_eq_some_iff.1 hx
     rfl
   · rw [in_out ph r hu]
     cases (outCh j u ph r)[i]? <;> rfl
theorem Sync.items (bs gs:List (Nat × Nat)) (k s mi t:Nat):Sync k fun u=>itemsL bs gs k s mi t u:=by
 refine Sync.app (Sync.app (Sync.fromTo (by decide) _ _ _) (Sync.flat (fun g u=>groupL bs k s t u g) gs fun g _=>?_)) (Sync.one fun _ _=>by simp [plainIt])
 refine Sync.app (Sync.app (Sync.fromTo (by decide) _ _ _) ?_) (Sync.fromTo (by decide) _ _ _)
 refine Sync.flat (fun q u=>rndBs bs k s t u q g.1 (g.2-g.1)) _ fun q _=>?_
 exact Sync.flat (fun i u=>rndB bs k s t u q (g.1+i)) _ fun i _=>Sync.round (jobOf bs k s t (g.1+i)) _ _ t
def allIts (c:Kf) (p u:Nat):List It:=(List.range c.st).flatMap fun t=>plIts c p t u
theorem Sync.all (c:Kf) (p:Nat):Sync c.k (allIts c p):=Sync.flat (fun t u=>plIts c p t u) _ fun _ _=>Sync.items _ _ _ _ _ _
theorem flat_take {F:Nat→List It} {L:Nat} (hF:∀ t,(F t).length=L) {t i:Nat} (hi:i≤L):∀ n,t<n→((List.range n).flatMap F).take (t*L+i)=(List.range t).flatMap F++(F t).take i
 | 0,h=>absurd h (Nat.not_lt_zero _)
 | n+1,h=>by
   have hl:((List.range n).flatMap F).length=n*L:=by rw [flat_sum,sumR_congr (g:=fun _=>L) (fun i _=>hF i),sumR_const]
   rw [List.range_succ,List.flatMap_append,List.take_append,hl]
   by_cases e:t=n
   · subst e
     rw [List.take_of_length_le (by rw [hl];omega),show t*L+i-t*L=i by omega]
     simp
   · have h1:t*L+L≤n*L:=by rw [← Nat.succ_mul];exact Nat.mul_le_mul_right _ (by omega)
     rw [flat_take hF hi n (by omega),show t*L+i-n*L=0 by omega]
     simp
theorem flat_get {F:Nat→List It} {L:Nat} (hF:∀ t,(F t).length=L) {t i:Nat} (hi:i<L):∀ n,t<n→((List.range n).flatMap F)[t*L+i]?=(F t)[i]?
 | 0,h=>absurd h (Nat.not_lt_zero _)
 | n+1,h=>by
   have hl:((List.range n).flatMap F).length=n*L:=by rw [flat_sum,sumR_congr (g:=fun _=>L) (fun i _=>hF i),sumR_const]
   rw [List.range_succ,List.flatMap_append]
   by_cases e:t=n
   · subst e
     rw [List.getElem?_append_right (by rw [hl];omega),hl,show t*L+i-t*L=i by omega]
     simp
   · have h1:t*L+L≤n*L:=by rw [← Nat.succ_mul];exact Nat.mul_le_mul_right _ (by omega)
     rw [List.getElem?_append_left (by rw [hl];omega)]
     exact flat_get hF hi n (by omega)
def sumZ (f:Nat→Int):Nat→Int
 | 0=>0
 | n+1=>sumZ f n+f n
theorem sumZ_congr {f g:Nat→Int}:∀ {n:Nat},(∀ i,i<n→f i=g i)→sumZ f n=sumZ g n
 | 0,_=>rfl
 | n+1,h=>by rw [sumZ,sumZ,sumZ_congr (fun i hi=>h i (by omega)),h n (by omega)]
theorem sumZ_front (f:Nat→Int):∀ n,sumZ f (n+1)=f 0+sumZ (fun i=>f (i+1)) n
 | 0=>by simp [sumZ]
 | n+1=>by rw [sumZ,sumZ_front f n,sumZ];omega
theorem sumZ_one (f:Nat→Int) (k:Nat):sumZ (fun w=>f ((w+1) % k)) k=sumZ f k:=by
 cases k with
 | zero=>rfl
 | succ m =>
   rw [sumZ_front f m]
   simp only [sumZ,Nat.mod_self]
   rw [sumZ_congr (g:=fun i=>f (i+1)) (fun i hi=>by rw [Nat.mod_eq_of_lt (by omega)])]
   omega
theorem sumZ_turn (f:Nat→Int) (k:Nat):∀ c,sumZ (fun w=>f ((w+c) % k)) k=sumZ f k
 | 0=>sumZ_congr fun i hi=>by rw [Nat.add_zero,Nat.mod_eq_of_lt hi]
 | c+1=>by
   rw [← sumZ_turn f k c,← sumZ_one (fun w=>f ((w+c) % k)) k]
   refine sumZ_congr fun i _=>?_
   rw [Nat.mod_add_mod,Nat.add_right_comm,Nat.add_assoc]
def cyc (X:Nat→Int) (k s n:Nat):Int:=sumZ (fun w=>X ((w+s) % k)) n
theorem cyc_all (X:Nat→Int) (k s:Nat):cyc X k s k=sumZ X k:=sumZ_turn X k s
theorem mod3 {x k:Nat} (h:x<3*k):x % k=if x<k then x else if x<2*k then x-k else x-2*k:=by
 split
 · rename_i h1;exact Nat.mod_eq_of_lt h1
 · rename_i h1
   split
   · rename_i h2
     rw [Nat.mod_eq_sub_mod (by omega),Nat.mod_eq_of_lt (by omega)]
   · rename_i h2
     rw [Nat.mod_eq_sub_mod (by omega),Nat.mod_eq_sub_mod (by omega),Nat.mod_eq_of_lt (by omega)]
     omega
def dl (k u s:Nat):Nat:=if s≤u then u-s else u+k-s
theorem dl_lt {k u s:Nat} (hu:u<k) (hs:s<k):dl k u s<k:=by unfold dl;split <;> omega
theorem dl_at {k u s:Nat} (hu:u<k) (hs:s<k):(dl k u s+s) % k=u:=by
 unfold dl
 split
 · rw [Nat.sub_add_cancel (by assumption),Nat.mod_eq_of_lt hu]
 · rw [Nat.sub_add_cancel (by omega),Nat.add_mod_right,Nat.mod_eq_of_lt hu]
theorem segS_dl {k u s ph r:Nat} (hu:u<k) (hs:s<k) (hp:ph≤1) (hr:r+1<k):segS k u ph r=s↔dl k u s=if ph=0 then r else if r=0 then k-1 else r-1:=by
 unfold segS dl
 rw [mod3 (by omega)]
 rcases Nat.eq_zero_or_pos ph with h0 | h0
 · subst h0
   simp only [↓reduceIte]
   repeat' split
   all_goals omega
 · have:ph=1:=by omega
   subst this
   simp only [Nat.one_ne_zero,↓reduceIte]
   repeat' split
   all_goals omega
theorem segR_dl {k u s ph r:Nat} (hu:u<k) (hs:s<k) (hp:ph≤1) (hr:r+1<k):segR k u ph r=s↔dl k u s=if ph=0 then r+1 else r:=by
 unfold segR
 obtain ⟨v,hv,hv2⟩:∃ v,(u+k-1) % k=v∧((u=0∧v=k-1)∨(0<u∧v=u-1)):=by
  refine ⟨_,rfl,?_⟩
  rw [mod3 (by omega)]
  repeat' split
  all_goals omega
 rw [hv,segS_dl (by omega) hs hp hr]
 unfold dl
 rcases Nat.eq_zero_or_pos ph with h0 | h0
 · subst h0
   simp only [↓reduceIte]
   repeat' split
   all_goals omega
 · have:ph=1:=by omega
   subst this
   simp only [Nat.one_ne_zero,↓reduceIte]
   repeat' split
   all_goals omega
def valQ (k:Nat) (X:Nat→Int) (u s q:Nat):Int :=
 if q≤k-1 then (if dl k u s≤q then wrap64 (cyc X k s (dl k u s+1)) else wrap64 (X u)) else if dl k u s<q-(k-1) then wrap64 (sumZ X k) else wrap64 (cyc X k s (dl k u s+1))
def valS (k:Nat) (X:Nat→Int) (s ph r:Nat):Int:=if ph=0 then wrap64 (cyc X k s (r+1)) else wrap64 (sumZ X k)
theorem valQ_zero {k u s:Nat} (X:Nat→Int) (hu:u<k) (hs:s<k):valQ k X u s 0=wrap64 (X u):=by
 unfold valQ
 rw [if_pos (by omega)]
 split
 · rename_i h
   have h0:dl k u s=0:=by omega
   have:=dl_at hu hs
   rw [h0] at this ⊢
   show wrap64 (0+X ((0+s) % k))=_
   rw [this,Int.zero_add]
 · rfl
theorem valQ_end {k u s:Nat} (X:Nat→Int) (hu:u<k) (hs:s<k):valQ k X u s (2*(k-1))=wrap64 (sumZ X k):=by
 have hd:=dl_lt hu hs
 unfold valQ
 split
 · rename_i h
   have hk:k=1:=by omega
   subst hk
   rw [if_pos (by omega),show dl 1 u s+1=1 by omega,cyc_all]
 · split
   · rfl
   · rename_i h1 h2
     rw [show dl k u s+1=k by omega,cyc_all]
theorem valQ_send {k u s ph r:Nat} (X:Nat→Int) (hu:u<k) (hs:s<k) (hp:ph≤1) (hr:r+1<k) (h:segS k u ph r=s):valQ k X u s (ph*(k-1)+r)=valS k X s ph r:=by
 have hd:=(segS_dl hu hs hp hr).1 h
 unfold valQ valS
 rcases Nat.eq_zero_or_pos ph with h0 | h0
 · subst h0
   simp only [↓reduceIte] at hd ⊢
   rw [hd,if_pos (by omega),if_pos (by omega)]
 · have:ph=1:=by omega
   subst this
   simp only [Nat.one_ne_zero,↓reduceIte] at hd ⊢
   by_cases hr0:r=0
   · subst hr0
     simp only [↓reduceIte] at hd
     rw [if_pos (show 1*(k-1)+0≤k-1 by omega),hd,if_pos (show k-1≤1*(k-1)+0 by omega),show k-1+1=k by omega,cyc_all]
   · rw [if_neg hr0] at hd
     rw [if_neg (show ¬ 1*(k-1)+r≤k-1 by omega),hd,if_pos (show r-1<1*(k-1)+r-(k-1) by omega)]
theorem valQ_recv {k u s ph r:Nat} (X:Nat→Int) (hu:u<k) (hs:s<k) (hp:ph≤1) (hr:r+1<k) (h:segR k u ph r=s) :
  valQ k X u s (ph*(k-1)+r+1)=if ph=0 then wrap64 (valQ k X u s (ph*(k-1)+r)+valS k X s ph r) else valS k X s ph r:=by
 have hd:=(segR_dl hu hs hp hr).1 h
 unfold valQ valS
 rcases Nat.eq_zero_or_pos ph with h0 | h0
 · subst h0
   simp only [↓reduceIte] at hd ⊢
   have hx:=dl_at hu hs
   rw [hd] at hx
   rw [hd,if_pos (show 0*(k-1)+r+1≤k-1 by omega),if_pos (show r+1≤0*(k-1)+r+1 by omega),if_pos (show 0*(k-1)+r≤k-1 by omega),if_neg (show ¬ r+1≤0*(k-1)+r by omega),w64_l,w64_r]
   congr 1
   show sumZ _ (r+1)+X ((r+1+s) % k)=X u+sumZ _ (r+1)
   rw [hx]
   omega
 · have:ph=1:=by omega
   subst this
   simp only [Nat.one_ne_zero,↓reduceIte] at hd ⊢
   rw [if_neg (show ¬ 1*(k-1)+r+1≤k-1 by omega),hd,if_pos (show r<1*(k-1)+r+1-(k-1) by omega)]
theorem valQ_same {k u s ph r:Nat} (X:Nat→Int) (hu:u<k) (hs:s<k) (hp:ph≤1) (hr:r+1<k) (h:segR k u ph r≠s):valQ k X u s (ph*(k-1)+r+1)=valQ k X u s (ph*(k-1)+r):=by
 have hd:¬ dl k u s=if ph=0 then r+1 else r:=fun e=>h ((segR_dl hu hs hp hr).2 e)
 have hl:=dl_lt hu hs
 have h1:cyc X k s (k-1+1)=sumZ X k:=by rw [show k-1+1=k by omega,cyc_all]
 unfold valQ
 rcases Nat.eq_zero_or_pos ph with h0 | h0
 · subst h0
   simp only [↓reduceIte] at hd
   rw [if_pos (show 0*(k-1)+r+1≤k-1 by omega),if_pos (show 0*(k-1)+r≤k-1 by omega)]
   by_cases e:dl k u s≤0*(k-1)+r
   · rw [if_pos e,if_pos (show dl k u s≤0*(k-1)+r+1 by omega)]
   · rw [if_neg e,if_neg (show ¬ dl k u s≤0*(k-1)+r+1 by omega)]
 · have:ph=1:=by omega
   subst this
   simp only [Nat.one_ne_zero,↓reduceIte] at hd
   rw [if_neg (show ¬ 1*(k-1)+r+1≤k-1 by omega)]
   by_cases hr0:r=0
   · subst hr0
     rw [if_pos (show 1*(k-1)+0≤k-1 by omega),if_neg (show ¬ dl k u s<1*(k-1)+0+1-(k-1) by omega),if_pos (show dl k u s≤1*(k-1)+0 by omega)]
   · rw [if_neg (show ¬ 1*(k-1)+r≤k-1 by omega)]
     by_cases e:dl k u s<1*(k-1)+r-(k-1)
     · rw [if_pos e,if_pos (show dl k u s<1*(k-1)+r+1-(k-1) by omega)]
     · rw [if_neg e,if_neg (show ¬ dl k u s<1*(k-1)+r+1-(k-1) by omega)]
def Is (l:List (Nat × Nat)) (e i:Nat):Prop:=∃ a b,l[i]?=some (a,b)∧a≤e∧e<b
theorem blocks_at {n s i a b:Nat} (h:(blocksL n s)[i]?=some (a,b)):i<pcnt n s∧a=i*s∧b=i*s+min s (n-i*s):=by
 unfold blocksL at h
 rw [List.getElem?_map] at h
 obtain ⟨j,hj,e⟩:=Option.map_eq_some_iff.1 h
 have hlt:=(List.getElem?_eq_some_iff.1 hj).1
 rw [List.length_range] at hlt
 rw [List.getElem?_range hlt] at hj
 injection hj with hj
 subst hj
 injection e with e1 e2
 exact ⟨hlt,e1.symm,e2.symm⟩
theorem blocks_get {n s i:Nat} (h:i<pcnt n s):(blocksL n s)[i]?=some (i*s,i*s+min s (n-i*s)):=by
 unfold blocksL
 rw [List.getElem?_map,List.getElem?_range h]
 rfl
theorem pcnt_cover (n:Nat) {s:Nat} (hs:1≤s):n≤pcnt n s*s:=by
 unfold pcnt
 split
 · omega
 · have h1:=Nat.div_add_mod (n-1) s
   have h2:=Nat.mod_lt (n-1) hs
   rw [Nat.succ_mul,Nat.mul_comm]
   omega
theorem mul_one_of {s e i i':Nat} (h1:i*s≤e) (h2:e<i*s+s) (h3:i'*s≤e) (h4:e<i'*s+s):i=i':=by
 rcases Nat.lt_trichotomy i i' with h | h | h
 · have:=Nat.mul_le_mul_right s (show i+1≤i' by omega)
   rw [Nat.succ_mul] at this
   omega
 · exact h
 · have:=Nat.mul_le_mul_right s (show i'+1≤i by omega)
   rw [Nat.succ_mul] at this
   omega
theorem buckets_at {n s j a b:Nat} (h:(bucketsL n s)[j]?=some (a,b)):j<pcnt n s∧(blocksL n s)[pcnt n s-1-j]?=some (a,b):=by
 have hlt:=(List.getElem?_eq_some_iff.1 h).1
 rw [buckets_len] at hlt
 unfold bucketsL at h
 rw [List.getElem?_reverse (by rw [blocks_len];exact hlt),blocks_len] at h
 exact ⟨hlt,h⟩
theorem Is.bucket_one {n s e i j:Nat} (h:Is (bucketsL n s) e i) (k:Is (bucketsL n s) e j):i=j:=by
 obtain ⟨a,b,h1,h2,h3⟩:=h
 obtain ⟨c,d,k1,k2,k3⟩:=k
 obtain ⟨l1,h1⟩:=buckets_at h1
 obtain ⟨l2,k1⟩:=buckets_at k1
 obtain ⟨_,h4,h5⟩:=blocks_at h1
 obtain ⟨_,k4,k5⟩:=blocks_at k1
 have:=mul_one_of (s:=s) (e:=e) (i:=pcnt n s-1-i) (i':=pcnt n s-1-j) (by omega) (by omega) (by omega) (by omega)
 omega
theorem Is.bucket_ex {n s e:Nat} (hs:1≤s) (he:e<n):∃ j,j<pcnt n s∧Is (bucketsL n s) e j:=by
 have h1:=Nat.div_add_mod e s
 have h2:=Nat.mod_lt e hs
 rw [Nat.mul_comm] at h1
 generalize e / s=d at *
 generalize e % s=x at *
 have hlt:d<pcnt n s:=by
  refine Classical.byContradiction fun h=>?_
  have h3:=Nat.mul_le_mul_right s (Nat.le_of_not_lt h)
  have:=pcnt_cover n hs
  omega
 refine ⟨pcnt n s-1-d,by omega,d*s,d*s+min s (n-d*s),?_,by omega,by omega⟩
 unfold bucketsL
 rw [List.getElem?_reverse (by rw [blocks_len];omega),blocks_len,show pcnt n s-1-(pcnt n s-1-d)=d by omega]
 exact blocks_get hlt
theorem seg_at {j:Jb} {i a b:Nat} (h:(jobSegs j)[i]?=some (a,b)):i<j.workers∧a=bnd (j.hi-j.lo) j.workers i+j.lo∧b=bnd (j.hi-j.lo) j.workers (i+1)+j.lo:=by
 unfold jobSegs shiftL evenL at h
 rw [List.map_map,List.getElem?_map] at h
 obtain ⟨x,hx,e⟩:=Option.map_eq_some_iff.1 h
 have hlt:=(List.getElem?_eq_some_iff.1 hx).1
 rw [List.length_range] at hlt
 rw [List.getElem?_range hlt] at hx
 injection hx with hx
 subst hx
 injection e with e1 e2
 exact ⟨hlt,e1.symm,e2.symm⟩
theorem seg_get {j:Jb} {i:Nat} (h:i<j.workers):(jobSegs j)[i]?=some (bnd (j.hi-j.lo) j.workers i+j.lo,bnd (j.hi-j.lo) j.workers (i+1)+j.lo):=by
 unfold jobSegs shiftL evenL
 rw [List.map_map,List.getElem?_map,List.getElem?_range h]
 rfl
theorem bnd_le_of {n k:Nat}:∀ {i j:Nat},i≤j→bnd n k i≤bnd n k j:=fun {i j} h=>by
 have key:∀ d,bnd n k i≤bnd n k (i+d):=fun d=>by
  induction d with
  | zero=>exact Nat.le_refl _
  | succ d ih=>exact Nat.le_trans ih (bnd_mono n k (i+d))
 have:=key (j-i)
 rwa [Nat.add_sub_cancel' h] at this
theorem Is.seg_one {j:Jb} {e g h:Nat} (h1:Is (jobSegs j) e g) (h2:Is (jobSegs j) e h):g=h:=by
 obtain ⟨a,b,h3,h4,h5⟩:=h1
 obtain ⟨c,d,k3,k4,k5⟩:=h2
 obtain ⟨_,e1,e2⟩:=seg_at h3
 obtain ⟨_,f1,f2⟩:=seg_at k3
 rcases Nat.lt_trichotomy g h with hl | hl | hl
 · have:=bnd_le_of (n:=j.hi-j.lo) (k:=j.workers) (show g+1≤h by omega)
   omega
 · exact hl
 · have:=bnd_le_of (n:=j.hi-j.lo) (k:=j.workers) (show h+1≤g by omega)
   omega
theorem Is.seg_ex {j:Jb} {e:Nat} (hk:1≤j.workers) (h1:j.lo≤e) (h2:e<j.hi):∃ g,Is (jobSegs j) e g:=by
 have key:∀ i,i≤j.workers→e<bnd (j.hi-j.lo) j.workers i+j.lo→∃ g,Is (jobSegs j) e g:=by
  intro i
  induction i with
  | zero =>
    intro _ h
    unfold bnd at h
    simp at h
    omega
  | succ i ih =>
    intro hi h
    rcases Nat.lt_or_ge e (bnd (j.hi-j.lo) j.workers i+j.lo) with h3 | h3
    · exact ih (by omega) h3
    · exact ⟨i,_,_,seg_get (by omega),h3,h⟩
 refine key j.workers (Nat.le_refl _) ?_
 rw [bnd_end _ _ hk]
 omega
theorem chunk_at {s a b c x y:Nat} (hs:1≤s) (h:(segChunks s (a,b))[c]?=some (x,y)):c*s<b-a∧x=a+c*s∧y=a+c*s+min s (b-a-c*s):=by
 unfold segChunks shiftL at h
 rw [List.getElem?_map] at h
 obtain ⟨p,hp,e⟩:=Option.map_eq_some_iff.1 h
 obtain ⟨p1,p2⟩:=p
 obtain ⟨h1,h2,h3⟩:=blocks_at hp
 injection e with e1 e2
 dsimp only at e1 e2 h1 h2 h3
 exact ⟨pcnt_lt hs h1,by omega,by omega⟩
end Go.Proofs.YtdpojpcoghcieaaGreat
