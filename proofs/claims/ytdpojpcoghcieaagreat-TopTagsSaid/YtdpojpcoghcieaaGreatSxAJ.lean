/- A part of the proof of TopTags: Many, OrderIn, Stage, Messages. Conditions: none. -/
import Derived.Test.YtdpojpcoghcieaaGreatSxAG
import Derived.Test.YtdpojpcoghcieaaGreatSxAH
import Derived.Test.YtdpojpcoghcieaaGreatSxAD
set_option maxHeartbeats 8000000
set_option linter.all false
namespace Go.Proofs.YtdpojpcoghcieaaGreat
open Lib renaming hid → K1
open Go.RowKit
open Value renaming int → U
open IntKind renaming i64 → O
open Bool renaming and_eq_true → Xr
open List renaming range → Xs, length → Xv
open Region renaming ready → Xt, Mode → Xw, noSelect → Xx, waitsFor → Xy
open Nat renaming le_refl → Xu
section
theorem Ff {X:List Ch} {c d:Ch}:(X++[c]).set X.length d=X++[d]:=by simp
theorem Pc {X B:List Ch} {i:Nat} {a b c:Ch} (h:X[i]?=some a):(X.set i b++B).set i c=X.set i c++B:=by rw [DO (AU h),List.set_set]
set_option maxRecDepth 100000 in
theorem Pd (w:World) (L:List Ch) (h:Mem w L) (bs cd at_ m cb ib ir ix:Nat) (Ad Ab:Option Addr) (ds bnds:List Nat) (hb:L[ib]?=some (strB bs Ad ds.length cd at_)) (hr:L[ir]?=some (.rd Ad (Bq ds))) (hx:L[ix]?=some (.rd Ab (Ah bnds)))
  (hm:m=bnds.length) (hcb:m<=cb) (hm2:m<=1000) (hat:at_+m<=ds.length) (hbn:∀ z∈bnds,1<=z/\z<=1048576) (hl:ds.length<=1000000000) :
  Calls Tryz.prog 138 #[.pointer (some ⟨bs,0,none⟩),.slice Ab m cb] w fun e w'=>∃ A c,e=.returned (.tuple #[.slice A m c,.bool true])/\m<=c/\Mem w' (L.set ib (strB bs Ad ds.length cd (at_+m))++[.own w.heap.size 3 1 (.slice A m c) m (Ah (BT ds bnds at_ m))]):=by
 have CL:=K1 (fun W hW=>KA W bs ds.length cd at_ Ad hW (by omega) hl);have CH:=K1 (fun W (hW:Mem W L)=>OS Ab cb m bnds W (hW.rd ix hx) hm (by omega) (fun z hz=>(hbn z hz).1));have CN:=K1 (fun (k d z:Nat) (W:World) (M:List Ch) (hM:Mem W M) (h1:M[ib]?=some (strB bs Ad ds.length cd (at_+k))) (h2:M[ir]?=some (.rd Ad (Bq ds))) (hd:ds[at_+k]?=some d) (hz:z∈bnds)=>ON W M hM bs cd (at_+k) z d ib ir Ad ds h1 h2 hd (hbn z hz) hl);have H0:=K1 h;have HB:=K1 hb;have HR:=K1 hr;have HX:=K1 hx;have HQ:=K1 (And.intro hbn hm);have c0:=h.cells ib hb
 have HLD:=K1 (show ∃ dl:Nat,ds.length=dl/\at_+m<=dl from ⟨_,rfl,hat⟩);clear h hb hr hx hbn;generalize hdl:ds.length=dl at *;have HDL:=K1 hdl;clear hdl HLD hm;go_enter Tryz.func138,Tryz.ntmps138;go_wp2_with fail
 (with_reducible refine (CL.out _ c0).mono ?_)
 rintro e w1 ⟨rfl,q0,rfl⟩;have hle:¬ (dl-at_<m):=by omega
 have hle2:decide (dl-at_<m)=false:=by simp;omega
 generalize dl-at_=lf at *;go_wp2_with fail
 (with_reducible refine (CH.out _ (H0.out.drewN q0)).mono ?_)
 rintro e w1 ⟨rfl,rfl⟩
 have HM0:=K1 (show Mem (w.drewN q0) (L.set ib (strB bs Ad dl cd (at_+0))++[.own w.heap.size 3 1 (.slice none 0 0) 0 (Ah (BT ds bnds at_ 0))]) by
  rw [Nat.add_zero,Dv HB.out]
  exact (H0.out.drewN q0).add (c:=.own w.heap.size 3 1 (.slice none 0 0) 0 (Ah (BT ds bnds at_ 0))) ⟨Bh _ _ _ _,Xu _⟩ (fun _ _ _ _ g hg=>by cases hg))
 generalize w.drewN q0=W0 at *;clear c0 H0 CH CL;go_wp2_with fail
 go_loopw [6,26] (fun s6 i wr=>∃ (k:Nat) (A:Option Addr) (c:Nat),k<=m/\s6=.slice A k c/\i=U O k/\Hid (Mem wr (L.set ib (strB bs Ad dl cd (at_+k))++[.own w.heap.size 3 1 (.slice A k c) k (Ah (BT ds bnds at_ k))]))) (fun _ i _=>m-(intOf i).toNat)
 case atStart=>exact ⟨0,none,0,Nat.zero_le _,rfl,rfl,HM0⟩
 case round =>
  clear HM0;obtain ⟨k,A,c,hk,rfl,rfl,HM⟩:=hrel;have hnx:=Dl HB.out HX.out (by simp [strB]);have hnr:=Dl HB.out HR.out (by simp [strB])
  by_cases hlt:k<m
  . obtain ⟨z,hz⟩:=Au bnds k (by have:=HQ.out.2;omega);obtain ⟨d,hd⟩:=Au ds (at_+k) (by have:=HDL.out;omega)
    obtain ⟨b1,o1,rfl⟩:∃ b off,Ab=some ⟨b,off,none⟩:=by
     obtain ⟨b,off,e,_⟩:=HM.out.rd ix (at_l (By hnx HX.out)) (by simp [Ah];have:=HQ.out.2;omega);exact ⟨b,off,e⟩
    have cz:=HM.out.rdAt ix (at_l (By hnx HX.out)) (j:=k) (u:=U O z) (by simp [Ah,hz]);have HS:Hid (BT ds bnds at_ (k+1)=BT ds bnds at_ k++[d % z]):=K1 (by rw [OO,hd,hz];rfl);have HDZ:=K1 (And.intro hd (List.mem_of_getElem? hz));clear hd hz;go_wp2_with fail;refine (CN.out k d z wr _ HM.out (at_l (AU HB.out)) (at_l (By hnr HR.out)) HDZ.out.1 HDZ.out.2).mono ?_;rintro e w2 ⟨rfl,hm2⟩;rw [Pc HB.out] at hm2;have HM2:=K1 hm2;clear hm2 HM cz
    obtain ⟨v,hv⟩:∃ v,v=d % z:=⟨_,rfl⟩
    rw [<- hv] at HS ⊢;clear hv;have HM3:=K1 (HM2.out.alloc (.cells #[U O v] 3));clear HM2
    go_wp2_with (at_builtin;refine AQ rfl _ _ 22 rfl HM3.out (L.set ib (strB bs Ad dl cd (at_+k+1))).length EC (at_l Bc) rfl _ 1 _ [U O v] rfl (HM3.out.box _ Bc) rfl (by intro u hu;simp at hu;subst hu;rfl) (by omega) ?_;intro A' c' W4 hM4)
    have h5:=Mem.setl hM4 Bc;rw [Ff] at h5;have HM5:=K1 h5;clear h5 hM4 HM3;go_wp2_with fail;go_roundw
    case rel =>
     refine ⟨k+1,A',c',by omega,rfl,by go_num,?_⟩;have e1:Ah (BT ds bnds at_ (k+1))=Ah (BT ds bnds at_ k)++[U O v]:=by rw [HS.out];simp [Ah]
     rw [e1];exact HM5
    case measure=>simp [intOf];omega
  . have hkm:k=m:=by omega
    subst hkm;have HF:=K1 HM.out;clear HM;go_wp2_with fail
    go_ret2
    exact ⟨A,c,rfl,Be (HF.out.own _ Bc),HF.out⟩
theorem Pe (k:Nat):Ah (Xs (k+1))=Ah (Xs k)++[U O k]:=by simp [Ah,List.range_succ]
theorem Pf (n:Nat) (w:World) (hn:n<=1000000) :
  Calls Tryz.prog 139 #[U O n] w fun e w'=>∃ A c,e=.returned (.slice A n c)/\w'.ownsRow w.heap.size 3 1 (.slice A n c) n (Ah (Xs n))/\Below w.heap.size w w':=by
 have HM0:=K1 ((Mem.start w).add (c:=.own w.heap.size 3 1 (.slice none 0 0) 0 (Ah (Xs 0))) ⟨Bh _ _ _ _,Xu _⟩ (fun _ _ _ _ g hg=>by cases hg));go_enter Tryz.func139,Tryz.ntmps139;go_wp2_with fail
 go_loopw [3,6] (fun s3 i wr=>∃ (k:Nat) (A:Option Addr) (c:Nat),k<=n/\s3=.slice A k c/\i=U O k/\Hid (Mem wr [.bel w.heap.size w,.own w.heap.size 3 1 (.slice A k c) k (Ah (Xs k))])) (fun _ i _=>n-(intOf i).toNat)
 case atStart=>exact ⟨0,none,0,Nat.zero_le _,rfl,rfl,HM0⟩
 case round =>
  clear HM0;obtain ⟨k,A,c,hk,rfl,rfl,HM⟩:=hrel
  by_cases hlt:k<n
  . have HM3:=K1 (HM.out.alloc (.cells #[U O k] 3));clear HM
    go_wp2_with (at_builtin;refine AQ rfl _ _ 22 rfl HM3.out 1 EC rfl rfl _ 1 _ [U O k] rfl (HM3.out.box 2 rfl) rfl (by intro u hu;simp at hu;subst hu;rfl) (by omega) ?_;intro A' c' W4 hM4)
    have HM5:=K1 (hM4.front 2);clear hM4 HM3;go_wp2_with fail;go_roundw
    case rel =>
     refine ⟨k+1,A',c',by omega,rfl,by go_num,?_⟩;rw [Pe];exact HM5
    case measure=>simp [intOf];omega
  . have hkm:k=n:=by omega
    subst hkm;have HF:=K1 HM.out;clear HM;go_wp2_with fail;go_ret;exact ⟨A,c,rfl,HF.out.own 1 rfl,HF.out.bel 0 rfl⟩
section
variable {P:Program} {Q:Exit->Act->World->Prop} {l0 n:Nat}
theorem KH {id:Nat} {a:Act} {w:World} {l:List Oper} (is ms:List Nat) (S:World->Prop) (hm:P.follows .mixedOrders=true) (hB:FP l.toArray is ms=true)
  (hI:(is++ms).all (fun i=>decide (i<l.length))=true) (hD:dstB a.tmps.size (AW l is)=true)
  (hQ:∀ d v c a w,Q (.panic c) (a.put d v) w->Q (.panic c) a w) (hd:l.all (fun o=>!(o.op matches .defer _))=true) (hQ2:¬ LetsOut Q) (hS:S w.drew)
  (hRT:∃ a',(∀ W,S W->wpStill P l.toArray W (fun x=>x=a') (AW l is) a)/\Spine P l.toArray Q S [] (AW l ms) a' w.drew):(Code.region id l.toArray true).wpIn (Fence.wide.inRound l0) n P Q a w:=by
 rw [List.all_append,Xr] at hI;have hi:=Fc hI.1;have hms:=Fc hI.2;obtain ⟨a',hR,hT⟩:=hRT;simp only [FP,Xr,decide_eq_true_eq] at hB;obtain ⟨⟨⟨⟨hsel,h1⟩,h2⟩,h3⟩,h4⟩:=hB;have e1:(AW l is).length=is.length:=by have:=congrArg Xv hi;simpa using this.symm
 have e2:(AW l ms).length=ms.length:=by have:=congrArg Xv hms;simpa using this.symm
 refine wpIn_region_any hm ?_
 have H:AnyT P .any l.toArray Q S l.toArray.size ((AW l is).length+((AW l ms).length+0)) (Array.replicate l.toArray.size false) a w.drew:=by
  refine AnyT.readsI_ hsel hQ (a':=a') hS (Xu _) is _ _ _ a (by simpa using hi) h1 hD hR ?_;exact AnyT.spineI (rest:=[]) ms _ _ a' _ (by simpa using hms) h2 (fun a w h=>⟨by simpa using h3,h⟩) hT
 rw [show (AW l is).length+((AW l ms).length+0)=l.toArray.size by rw [e1,e2];simpa using h4] at H;exact KB (OU hd) hQ2 _ _ _ _ (AnyT.any _ _ _ _ H)
end
end
section
inductive Pl where
 | fin
 | reads (is:List Nat) (next:Pl)
 | eff (k:Nat) (next:Pl)
 | two (k m:Nat) (n1 n2:Pl)
 | three (k m r:Nat) (n1 n2 n3:Pl)
 | cut (next:Pl)
def Pl.count:Pl->Nat
 | .fin=>0
 | .reads is n=>is.length+n.count
 | .eff _ n=>n.count+1
 | .two _ _ n1 _=>n1.count+1
 | .three _ _ _ n1 _ _=>n1.count+1
 | .cut n=>n.count
def Pl.okB (md:Xw) (ops:Array Oper):Pl->Nat->Array Bool->Bool
 | .fin,_,listed=>(Xt md ops listed).isEmpty
 | .reads is n,t,listed=>is.all (fun i=>decide (i<ops.size) && (Xs ops.size).all (fun j=>decide (j<t) || Xy md ops j i)) && (Dy md ops is listed).2 && n.okB md ops t (Dy md ops is listed).1
 | .eff k n,t,listed=>decide (k<ops.size) && decide (Xt md ops listed=[k]) && n.okB md ops t (listed.setIfInBounds k true)
 | .two k m n1 n2,t,listed=>decide (k<ops.size) && decide (m<ops.size) && decide (Xt md ops listed=[k,m]) && decide (n1.count=n2.count) && n1.okB md ops t (listed.setIfInBounds k true) && n2.okB md ops t (listed.setIfInBounds m true)
 | .three k m r n1 n2 n3,t,listed=>decide (k<ops.size) && decide (m<ops.size) && decide (r<ops.size) && decide (Xt md ops listed=[k,m,r]) && decide (n1.count=n2.count) && decide (n1.count=n3.count) && n1.okB md ops t (listed.setIfInBounds k true) && n2.okB md ops t (listed.setIfInBounds m true) && n3.okB md ops t (listed.setIfInBounds r true)
 | .cut n,t,listed=>(Xs t).all (fun j=>listed.getD j true) && (Xt md ops listed).all (fun j=>decide (t<=j)) && n.okB md ops ops.size listed
section
variable {P:Program} {l:List Oper} {Q:Exit->Act->World->Prop}
def After (Q:Exit->Act->World->Prop) (K:Act->World->Prop) (e:Exit) (a:Act) (w:World):Prop :=
 match e with | .normal=>K a w | e=>Q e a w
def Owe (k t:Nat) (S:World->Prop) (w:World):Prop:=k<t->S w
def PlS (P:Program) (l:List Oper) (Q:Exit->Act->World->Prop):Pl->Nat->(World->Prop)->Act->World->Prop
 | .fin,_,_,a,w=>Q .normal a w
 | .reads is n,t,S,a,w=>S w/\dstB a.tmps.size (AW l is)=true/\∃ a',(∀ W,S W->wpStill P l.toArray W (fun x=>x=a') (AW l is) a)/\PlS P l Q n t S a' w
 | .eff k n,t,S,a,w=>∃ S':World->Prop,(∀ W,S' W->S W)/\wpList P l.toArray (After Q fun a' w'=>Owe k t S' w'/\PlS P l Q n t S' a' w') (AW l [k]) a w
 | .two k m n1 n2,t,S,a,w =>
   (∃ S':World->Prop,(∀ W,S' W->S W)/\wpList P l.toArray (After Q fun a' w'=>Owe k t S' w'/\PlS P l Q n1 t S' a' w') (AW l [k]) a w) /\
   (∃ S':World->Prop,(∀ W,S' W->S W)/\wpList P l.toArray (After Q fun a' w'=>Owe m t S' w'/\PlS P l Q n2 t S' a' w') (AW l [m]) a w)
 | .three k m r n1 n2 n3,t,S,a,w =>
   (∃ S':World->Prop,(∀ W,S' W->S W)/\wpList P l.toArray (After Q fun a' w'=>Owe k t S' w'/\PlS P l Q n1 t S' a' w') (AW l [k]) a w) /\
   (∃ S':World->Prop,(∀ W,S' W->S W)/\wpList P l.toArray (After Q fun a' w'=>Owe m t S' w'/\PlS P l Q n2 t S' a' w') (AW l [m]) a w) /\
   (∃ S':World->Prop,(∀ W,S' W->S W)/\wpList P l.toArray (After Q fun a' w'=>Owe r t S' w'/\PlS P l Q n3 t S' a' w') (AW l [r]) a w)
 | .cut n,_,_,a,w=>∃ S':World->Prop,PlS P l Q n l.toArray.size S' a w
theorem AnyT.weaken {md:Xw} {ops:Array Oper} {S S':World->Prop} {t:Nat} (h:∀ W,S' W->S W):∀ (fuel:Nat) (listed:Array Bool) (a:Act) (w:World),AnyT P md ops Q S' t fuel listed a w->AnyT P md ops Q S t fuel listed a w
 | 0,_,_,_,hh=>hh
 | fuel+1,_,_,_,hh=>⟨hh.1,fun i hi=>wpOp_mono (fun a' w' h'=>⟨fun hlt=>h _ (h'.1 hlt),AnyT.weaken h fuel _ a' w' h'.2⟩) (hh.2 i hi)⟩
section
variable {ops:Array Oper} {md:Xw} {S:World->Prop} {t:Nat}
theorem AnyT.readsT_ (hsel:Xx ops=true) (hQ:∀ d v c a w,Q (.panic c) (a.put d v) w->Q (.panic c) a w) {a':Act} {w:World} (hS:S w) :
  ∀ (is:List Nat) (l:List Oper) (fuel:Nat) (listed:Array Bool) (a:Act),is.map (fun i=>ops[i]?)=l.map some->(Dy md ops is listed).2=true->(∀ i∈is,∀ j,t<=j->j<ops.size->Xy md ops j i=true)->dstB a.tmps.size l=true ->
  (∀ W,S W->wpStill P ops W (fun x=>x=a') l a)->AnyT P md ops Q S t fuel (Dy md ops is listed).1 a' w->AnyT P md ops Q S t (l.length+fuel) listed a w
 | [],[],fuel,listed,a,_,_,_,_,hR,H=>by
   have:a=a':=hR w hS;subst this
   simpa [Dy] using H
 | [],_::_,_,_,_,hl,_,_,_,_,_=>by simp at hl
 | _::_,[],_,_,_,hl,_,_,_,_,_=>by simp at hl
 | k::is,o::l,fuel,listed,a,hl,hB,ht,hD,hR,H=>by
   simp only [List.map_cons,List.cons.injEq] at hl;obtain ⟨h0,hl⟩:=hl;simp only [Dy,Xr] at hB H;obtain ⟨⟨hr,hf⟩,hB'⟩:=hB;simp only [dstB,Xr] at hD;obtain ⟨hd1,hd2⟩:=hD
   cases hod:o.dst with
   | none=>rw [hod] at hd1;cases hd1
   | some d =>
     rw [hod] at hd1;simp only [Xr,decide_eq_true_eq,List.all_eq_true,bne_iff_ne,ne_eq] at hd1
     have get:∀ W,S W->∃ v,YieldsAt P ops W o v a/\wpStill P ops W (fun x=>x=a') l (a.put o.dst v)/\a'.tmps[d]?=some v:=fun W hW=>by
      have hst:stOp P ops W k (wpStill P ops W (fun x=>x=a') l) a:=by unfold stOp;simp only [h0];exact hR W hW
      obtain ⟨v,hy,hK⟩:=yieldsAt_of_stOp h0 hst;refine ⟨v,hy,hK,?_⟩;rw [(GI d l _ (fun o' ho'=>hd1.2 o' ho') hK).1,hod];simp [Act.put,hd1.1]
     obtain ⟨v,hy,hK,hv⟩:=get w hS
     have hYA:YA P ops S o v a:=fun W hW=>by
      obtain ⟨u,hyu,_,hu⟩:=get W hW;rw [hv] at hu;injection hu with hu
      subst hu;exact hyu
     have hsz:(a.put o.dst v).tmps.size=a.tmps.size:=by rw [hod];simp [Act.put]
     rw [show (o::l).length+fuel=(l.length+fuel)+1 by simp;omega];refine AnyT.first h0 (Region.noSelect_spec hsel) (hQ _ _) (ht k (List.mem_cons_self ..)) _ _ _ _ (Region.free_spec h0 hf) (by simpa using hr) hYA hS ?_;refine AnyT.readsT_ hsel hQ hS is l fuel _ _ hl hB' (fun i hi=>ht i (List.mem_cons_of_mem _ hi)) (by rw [hsz];exact hd2) (fun W hW=>?_) H;obtain ⟨u,hyu,hKu,hu⟩:=get W hW;rw [hv] at hu;injection hu with hu
     subst hu;exact hKu
end
theorem Fg {i:Nat} {K:Act->World->Prop} {a:Act} {w:World} (hi:i<l.length) (h:wpList P l.toArray (After Q K) (AW l [i]) a w):Go.wpOp P l.toArray Q i K a w:=by
 obtain ⟨o,ho⟩:=Au l i hi;have hp:AW l [i]=[o]:=by simp [AW,ho]
 rw [hp] at h;unfold Go.wpOp;have ho':l.toArray[i]?=some o:=by simp [ho]
 simp only [ho'];unfold wpList at h
 have hlo:LetsOut (After Q K)->LetsOut Q:=fun ⟨a,w,h⟩=>⟨a,w,h⟩
 split
 . rename_i hw
   rw [if_pos hw] at h
   rcases h with h | ⟨h1,h2⟩
   . exact .inl (Kh (K:=K) (fun _ _ _ h=>h) hlo h)
   . exact .inr ⟨h1,hlo h2⟩
 . rename_i hw
   rw [if_neg hw] at h;exact h
theorem AnyT.pl (hsel:Xx l.toArray=true) (hQ:∀ d v c a w,Q (.panic c) (a.put d v) w->Q (.panic c) a w) :
  ∀ (pl:Pl) (t:Nat) (S:World->Prop) (listed:Array Bool) (a:Act) (w:World),pl.okB .any l.toArray t listed=true->PlS P l Q pl t S a w->AnyT P .any l.toArray Q S t pl.count listed a w
 | .fin,_,_,listed,a,w,hB,h=>⟨by simpa [Pl.okB] using hB,h⟩
 | .reads is n,t,S,listed,a,w,hB,h=>by
   simp only [Pl.okB,Xr] at hB;obtain ⟨⟨h1,h2⟩,h3⟩:=hB;obtain ⟨hS,hd,a',hR,hn⟩:=h
   have h1':=fun i hi=>(Xr _ _ ▸ List.all_eq_true.1 h1 i hi)
   have hi:=Fc (l:=l) (is:=is) (List.all_eq_true.2 fun i hi=>by simpa using (h1' i hi).1);have e1:(AW l is).length=is.length:=by have:=congrArg Xv hi;simpa using this.symm
   have hn':=AnyT.pl hsel hQ n t S _ a' w h3 hn
   have:=AnyT.readsT_ hsel hQ (a':=a') hS is (AW l is) n.count listed a (by simpa using hi) h2 (fun i hi j hj hjs=>by
    have:=List.all_eq_true.1 (h1' i hi).2 j (List.mem_range.2 hjs);rw [Bool.or_eq_true,decide_eq_true_eq] at this
    rcases this with h | h
    . omega
    . exact h) hd hR hn'
   rwa [e1] at this
 | .eff k n,t,S,listed,a,w,hB,h=>by
   simp only [Pl.okB,Xr,decide_eq_true_eq] at hB;obtain ⟨⟨h1,h2⟩,h3⟩:=hB;obtain ⟨S',hm,hw⟩:=h;refine ⟨fun h0=>(by rw [h2] at h0;cases h0),fun i hi=>?_⟩;rw [h2] at hi;obtain rfl:i=k:=by simpa using hi
   exact wpOp_mono (fun a' w' h'=>⟨fun hlt=>hm _ (h'.1 hlt),AnyT.weaken hm _ _ _ _ (AnyT.pl hsel hQ n t S' _ a' w' h3 h'.2)⟩) (Fg (by simpa using h1) hw)
 | .two k m n1 n2,t,S,listed,a,w,hB,h=>by
   simp only [Pl.okB,Xr,decide_eq_true_eq] at hB;obtain ⟨⟨⟨⟨⟨h1,h2⟩,h3⟩,h4⟩,h5⟩,h6⟩:=hB;obtain ⟨⟨S1,m1,w1⟩,S2,m2,w2⟩:=h;refine ⟨fun h0=>(by rw [h3] at h0;cases h0),fun i hi=>?_⟩;rw [h3] at hi
   rcases (by simpa using hi:i=k\/i=m) with rfl | rfl
   . exact wpOp_mono (fun a' w' h'=>⟨fun hlt=>m1 _ (h'.1 hlt),AnyT.weaken m1 _ _ _ _ (AnyT.pl hsel hQ n1 t S1 _ a' w' h5 h'.2)⟩) (Fg (by simpa using h1) w1)
   . refine wpOp_mono (fun a' w' h'=>⟨fun hlt=>m2 _ (h'.1 hlt),?_⟩) (Fg (by simpa using h2) w2);have:=AnyT.weaken m2 _ _ _ _ (AnyT.pl hsel hQ n2 t S2 _ a' w' h6 h'.2);rw [<- h4] at this;exact this
 | .three k m r n1 n2 n3,t,S,listed,a,w,hB,h=>by
   simp only [Pl.okB,Xr,decide_eq_true_eq] at hB;obtain ⟨⟨⟨⟨⟨⟨⟨⟨h1,h2⟩,h3⟩,h4⟩,h5⟩,h6⟩,h7⟩,h8⟩,h9⟩:=hB;obtain ⟨⟨S1,m1,w1⟩,⟨S2,m2,w2⟩,S3,m3,w3⟩:=h;refine ⟨fun h0=>(by rw [h4] at h0;cases h0),fun i hi=>?_⟩;rw [h4] at hi
   rcases (by simpa using hi:i=k\/i=m\/i=r) with rfl | rfl | rfl
   . exact wpOp_mono (fun a' w' h'=>⟨fun hlt=>m1 _ (h'.1 hlt),AnyT.weaken m1 _ _ _ _ (AnyT.pl hsel hQ n1 t S1 _ a' w' h7 h'.2)⟩) (Fg (by simpa using h1) w1)
   . refine wpOp_mono (fun a' w' h'=>⟨fun hlt=>m2 _ (h'.1 hlt),?_⟩) (Fg (by simpa using h2) w2);have:=AnyT.weaken m2 _ _ _ _ (AnyT.pl hsel hQ n2 t S2 _ a' w' h8 h'.2);rw [<- h5] at this;exact this
   . refine wpOp_mono (fun a' w' h'=>⟨fun hlt=>m3 _ (h'.1 hlt),?_⟩) (Fg (by simpa using h3) w3);have:=AnyT.weaken m3 _ _ _ _ (AnyT.pl hsel hQ n3 t S3 _ a' w' h9 h'.2);rw [<- h6] at this;exact this
 | .cut n,t,S,listed,a,w,hB,h=>by
   simp only [Pl.okB,Xr] at hB;obtain ⟨⟨h1,h2⟩,h3⟩:=hB;obtain ⟨S',hn⟩:=h;have:=AnyT.pl hsel hQ n _ S' _ a w h3 hn;exact AnyT.of_any _ _ _ _ (fun j hj=>by simpa using List.all_eq_true.1 h2 j hj) (fun j ok hok hlt=>List.all_eq_true.1 h1 j (List.mem_range.2 hlt)) (AnyT.any _ _ _ _ this)
def IU (l:List Oper) (pl:Pl) (t:Nat):Bool:=Xx l.toArray && pl.okB .any l.toArray t (Array.replicate l.toArray.size false) && decide (pl.count=l.toArray.size)
theorem Pg {id:Nat} {a:Act} {w:World} (pl:Pl) (t:Nat) (S:World->Prop) (hm:P.follows .mixedOrders=true) (hB:IU l pl t=true)
  (hQ:∀ d v c a w,Q (.panic c) (a.put d v) w->Q (.panic c) a w) (h:PlS P l Q pl t S a w.drew):(Code.region id l.toArray true).wp P Q a w:=by
 simp only [IU,Xr,decide_eq_true_eq] at hB;obtain ⟨⟨h1,h2⟩,h3⟩:=hB;refine wp_region_any hm ?_;have H:=AnyT.pl h1 hQ pl t S _ a w.drew h2 h;rw [h3] at H;exact AnyT.any _ _ _ _ H
theorem AC {id:Nat} {a:Act} {w:World} (pl:Pl) (t:Nat) (S:World->Prop) (h:PlS P l Q pl t S a w.drew) (hm:P.follows .mixedOrders=true:=by kernel_rfl) (hB:IU l pl t=true:=by kernel_rfl)
  (hQ:∀ d v c a w,Q (.panic c) (a.put d v) w->Q (.panic c) a w:=by intro d v c a w h;cases d <;> exact h):(Code.region id l.toArray true).wp P Q a w:=Pg pl t S hm hB hQ h
section
variable {t:Nat} {S:World->Prop} {a:Act} {w:World}
theorem PlS.fin_ (h:Q .normal a w):PlS P l Q .fin t S a w:=h
theorem PlS.reads_ {is:List Nat} {n:Pl} (hS:S w) (hd:dstB a.tmps.size (AW l is)=true) (h:∃ a',(∀ W,S W->wpStill P l.toArray W (fun x=>x=a') (AW l is) a)/\PlS P l Q n t S a' w):PlS P l Q (.reads is n) t S a w:=⟨hS,hd,h⟩
theorem PlS.eff_ {k:Nat} {n:Pl} (h:wpList P l.toArray (After Q fun a' w'=>Owe k t S w'/\PlS P l Q n t S a' w') (AW l [k]) a w):PlS P l Q (.eff k n) t S a w:=⟨S,fun _ h=>h,h⟩
theorem PlS.rd_ {is:List Nat} {n:Pl} {a':Act} (hS:S w) (h:PlS P l Q n t S a' w) (hd:dstB a.tmps.size (AW l is)=true:=by kernel_rfl)
  (hs:∀ W,S W->wpStill P l.toArray W (fun x=>x=a') (AW l is) a:=by intro W hS;simp only [AW,_root_.List.filterMap_cons,_root_.List.filterMap_nil,_root_.List.getElem?_cons_zero,_root_.List.getElem?_cons_succ];(repeat (obtain ⟨s,hS⟩:=hS));(repeat still_step);exact wpStill_nil rfl):PlS P l Q (.reads is n) t S a w:=⟨hS,hd,a',hs,h⟩
theorem PlS.rc_ {is:List Nat} {n:Pl} {a':Act} (hS:S w) (h:PlS P l Q n t S a' w) (hd:dstB a.tmps.size (AW l is)=true:=by kernel_rfl)
  (hs:∀ W,S W->wpStill P l.toArray W (fun x=>x=a') (AW l is) a:=by intro W hS;clear hS;simp only [AW,_root_.List.filterMap_cons,_root_.List.filterMap_nil,_root_.List.getElem?_cons_zero,_root_.List.getElem?_cons_succ];(repeat still_step);exact wpStill_nil rfl):PlS P l Q (.reads is n) t S a w:=⟨hS,hd,a',hs,h⟩
theorem PlS.ef_ {k:Nat} {n:Pl} {o:Oper} (h:wpList P l.toArray (After Q fun a' w'=>Owe k t S w'/\PlS P l Q n t S a' w') [o] a w) (ho:AW l [k]=[o]:=by exact rfl):PlS P l Q (.eff k n) t S a w:=PlS.eff_ (ho ▸ h)
theorem PlS.two_ {k m:Nat} {n1 n2:Pl} (h1:PlS P l Q (.eff k n1) t S a w) (h2:PlS P l Q (.eff m n2) t S a w):PlS P l Q (.two k m n1 n2) t S a w:=⟨h1,h2⟩
theorem PlS.three_ {k m r:Nat} {n1 n2 n3:Pl} (h1:PlS P l Q (.eff k n1) t S a w) (h2:PlS P l Q (.eff m n2) t S a w) (h3:PlS P l Q (.eff r n3) t S a w):PlS P l Q (.three k m r n1 n2 n3) t S a w:=⟨h1,h2,h3⟩
theorem After.go {k:Nat} {n:Pl} (hS:S w) (h:PlS P l Q n t S a w):After Q (fun a' w'=>Owe k t S w'/\PlS P l Q n t S a' w') .normal a w:=⟨fun _=>hS,h⟩
theorem After.last {k:Nat} {n:Pl} (hk:t<=k) (h:PlS P l Q n t S a w):After Q (fun a' w'=>Owe k t S w'/\PlS P l Q n t S a' w') .normal a w:=⟨fun hlt=>absurd hlt (by omega),h⟩
end
theorem AH {K:Act->World->Prop} {e:Exit} {a:Act} {w:World} (h:∀ W,Hid (W=w)->After Q K e a W):After Q K e a w:=h w (K1 rfl)
end
end
section
open Go.RowKit Go.Shelf
attribute [local go_sem] Oper.semAt_some
end
end Go.Proofs.YtdpojpcoghcieaaGreat
