/- A part of the proof of TopTags: Part, Later, Collect, Perm, RangeMem. Conditions: none. -/
import Derived.RangeFuncNested
import Derived.RangeFuncBound
import Derived.RangeFuncCalls
import Derived.RangeFuncLeaves
import Derived.RangeFuncBox
import Derived.Shelf.Abstract
import Derived.Shelf.RegionOpen
import Derived.TacticsInMore
import Derived.LoopNIn
import Derived.LoopIn
import Derived.Test.YtdpojpcoghcieaaGreatSxAA
set_option maxHeartbeats 8000000
set_option linter.all false
namespace Go.Proofs.YtdpojpcoghcieaaGreat
open Lib renaming hid → K1
open Go.RowKit
set_option maxRecDepth 100000
open Value renaming int → U, slice → Us
open IntKind renaming i64 → O
open And renaming intro → VF
open Nat renaming le_refl → VG, le_trans → VJ, zero_add → VL, zero_le → VP, le_add_right → VQ, lt_succ_self → Wh, add_sub_cancel_left → Wi
open Below renaming refl → VH
open World renaming putObj_heap_other → VI, block_lt_of_cell? → VM, size_alloc → VS, putObj_heap_same → Wg
open List renaming range → VK, append_assoc → VN, mem_of_getElem? → VT, append_nil → VU, size_toArray → VV, length_cons → VW, length_nil → VX, push_toArray → VY, append_toArray → VZ, nil_append → Wc, cons_append → We, length_take → Wf
open IntWalk renaming wrap64_in → VO
section
theorem Kk (n s:Nat) (w:World) (hn:n<=1048576) (hs:1<=s/\s<=1048576) :
  Calls Tryz.prog 44 #[U O n,U O s] w fun e w'=>e=.returned (U O (pcnt n s:Nat))/\w=w':=by
 by_cases h0:n=0
 . subst h0;go_enter Tryz.func44,Tryz.ntmps44
   go_wp2
   go_ret;exact ⟨rfl,rfl⟩
 . obtain ⟨q,hq⟩:∃ q,q=(n-1) / s:=⟨_,rfl⟩
   have e1:((n:Int)-1).tdiv (s:Int)=(q:Int):=by
    rw [hq,show (n:Int)-1=((n-1:Nat):Int) by omega];exact (Int.ofNat_tdiv _ _).symm
   have hq2:q<=1048576:=by have:=Nat.div_le_self (n-1) s;omega
   have hc:Hid (pcnt n s=q+1):=K1 (by unfold pcnt;rw [if_neg h0,hq]);clear hq;go_enter Tryz.func44,Tryz.ntmps44
   go_wp2
   go_ret;exact ⟨AN (by rw [hc.out];rfl),rfl⟩
theorem IJ (a b:Nat) (w:World) (h:a<=b) (hb:b<=1048576) :
  Calls Tryz.prog 43 #[.agg #[U O a,U O b]] w fun e w'=>e=.returned (U O (b-a:Nat))/\w'=w.alloc (.cells #[U O a,U O b] 47):=by
 go_enter Tryz.func43,Tryz.ntmps43
 go_wp2
 go_ret;exact ⟨AN (by omega),rfl⟩
theorem Kl (gn gk n k i:Nat) (w:World) (hn:w.cell? ⟨gn,0,none⟩=some (U O n)) (hk:w.cell? ⟨gk,0,none⟩=some (U O k)) (h1:1<=k/\k<=1048576) (h2:n<=1048576) (h3:i<=k) :
  Calls Tryz.prog 80 #[U O i,.pointer (some ⟨gn,0,none⟩),.pointer (some ⟨gk,0,none⟩)] w fun e w'=>e=.returned (U O (bnd n k i:Nat))/\∃ q,w'=w.drewN q:=by
 obtain ⟨q,hq⟩:∃ q,q=n / k:=⟨_,rfl⟩
 obtain ⟨r,hr⟩:∃ r,r=n % k:=⟨_,rfl⟩
 have e1:(n:Int).tdiv (k:Int)=(q:Int):=by rw [hq];exact (Int.ofNat_tdiv _ _).symm
 have e2:(n:Int).tmod (k:Int)=(r:Int):=by rw [hr];exact (Int.ofNat_tmod _ _).symm
 obtain ⟨m,hm⟩:∃ m,m=i*q:=⟨_,rfl⟩
 have e3:(i:Int)*(q:Int)=(m:Int):=by rw [hm];simp
 have hm2:m<=1048576:=by
  rw [hm,hq];exact VJ (Nat.mul_le_mul_right _ h3) (VJ (Nat.mul_div_le n k) h2)
 have hb:Hid (bnd n k i=m+min i r):=K1 (by unfold bnd;rw [hm,hq,hr]);have hr2:r<=1048576:=by have:=Nat.mod_le n k;omega
 have hne:¬ ((k:Int)=0):=by omega
 have hq3:=K1 (show q<=n by rw [hq];exact Nat.div_le_self _ _);clear hq hr hm
 have fin:∀ x:Int,x=r\/x=i->wrap64 (wrap64 ((i:Int)*wrap64 (q:Int))+x)=(m:Int)+x:=fun x hx=>by
  rw [VO (q:Int) (by have:=hq3.out;omega),e3,VO (m:Int) (by omega),VO _ (by omega)]
 have FIN:=K1 fin;clear fin
 by_cases hir:(r:Int)<i
 . go_enter Tryz.func80,Tryz.ntmps80;go_wp2_with fail
   go_quiet (fail)
   go_wp2
   go_ret;exact ⟨AN (by rw [hb.out,FIN.out _ (.inl rfl)];omega),_,rfl⟩
 . go_enter Tryz.func80,Tryz.ntmps80;go_wp2_with fail
   go_quiet (fail)
   go_wp2
   go_ret;exact ⟨AN (by rw [hb.out,FIN.out _ (.inr rfl)];omega),_,rfl⟩
theorem Km (n k:Nat) (w:World) (hn:n<=1048576) (hk:1<=k/\k<=1000) :
  Calls Tryz.prog 42 #[U O n,U O k] w fun e w'=>∃ v,e=.returned v/\OwnR w' w.heap.size v (BN n k)/\Below w.heap.size w w':=by
 obtain ⟨i0,hi,hz0,hz1,hz2⟩:=info_parts I6;have HI:=K1 (VF hi (VF hz0 (VF hz1 hz2)));have hN:=Eo w (.cells #[U O n] 3) rfl;have HN:=K1 (Ct hN (.cells #[U O k] 3));have HK:=K1 (Eo (w.alloc (.cells #[U O n] 3)) (.cells #[U O k] 3) (g:=w.heap.size+1) (by simp));have HB:=K1 (((VH w.heap.size w).alloc (VG _) (.cells #[U O n] 3)).alloc (by simp) (.cells #[U O k] 3));clear hi hz0 hz1 hz2 hN;go_enter Tryz.func42,Tryz.ntmps42;go_wp2_with fail
 go_loopw [6,16] (fun v i wr=>∃ j:Nat,i=U O j/\j<=k/\Hid (OwnR wr (w.heap.size+2) v ((VK j).map fun i=>(bnd n k i,bnd n k (i+1))))/\Hid (Below (w.heap.size+2) ((w.alloc (.cells #[U O n] 3)).alloc (.cells #[U O k] 3)) wr)) (fun _ i _=>k-(intOf i).toNat)
 case atStart=>exact ⟨0,rfl,VP _,K1 (OwnR.nil_ _ _),K1 (VH _ _)⟩
 case round =>
  obtain ⟨j,rfl,hj,HO,HW⟩:=hrel
  by_cases hlt:j<k
  . have HN2:=K1 (Bp HN.out HW.out (by omega));have HK2:=K1 (Bp HK.out HW.out (by omega));have C1:=K1 (Kl w.heap.size (w.heap.size+1) n k j wr (Ay HN2.out 0) (Ay HK2.out 0) (by omega) hn hj);go_wp2_with fail
    (with_reducible refine C1.out.mono ?_)
    rintro e w1 ⟨rfl,q1,rfl⟩;have C2:=Kl w.heap.size (w.heap.size+1) n k (j+1) (wr.drewN q1) (Ay (GE HN2.out q1) 0) (Ay (GE HK2.out q1) 0) (by omega) hn (by omega);rw [show ((j+1:Nat):Int)=(j:Int)+1 by omega] at C2;have H2:=K1 C2;clear C2 C1;go_wp2_with fail
    (with_reducible refine H2.out.mono ?_)
    rintro e w1 ⟨rfl,q2,rfl⟩
    obtain ⟨x,hx⟩:∃ x,x=bnd n k j:=⟨_,rfl⟩
    obtain ⟨y,hy⟩:∃ y,y=bnd n k (j+1):=⟨_,rfl⟩
    rw [<- hx,<- hy];have HXY:=K1 (VF hx hy);have HB2:=K1 (B6 (B6 HW.out q1) q2);have HO2:Hid (OwnR ((wr.drewN q1).drewN q2) (w.heap.size+2) u6 ((VK j).map fun i=>(bnd n k i,bnd n k (i+1)))):=K1 HO.out;generalize (wr.drewN q1).drewN q2=w2 at *;have HW2:=K1 (HO2.out.alloc (.cells #[U O x,U O y] 47));have HN3:=K1 (Eo w2 (.cells #[U O x,U O y] 47) rfl);have HB3:=K1 (HB2.out.alloc (by have:=HB2.out.size;simp at this;omega) (.cells #[U O x,U O y] 47));have HS:=K1 HB2.out.size;clear hx hy H2 HN2 HK2 HO HW HB2
    go_wp2_with (at_builtin;refine wpList_append_own _ rfl _ _ 44 rfl (w.heap.size+2) 47 i0 (.agg #[U O 0,U O 0]) 2 16 Tryz.underlying44 HI.out.1 HI.out.2.1 HI.out.2.2.1 HI.out.2.2.2 rfl (by decide) _ _ _ rfl HW2.out ⟨w2.heap.size,0,none⟩ 1 1 [U O x,U O y] rfl rfl ?c1 ?c2 ?c3 ?c4 ?c5 ?_)
    case c1 =>
     intro j u hj;rw [Cg,VL,Ay HN3.out]
     simpa using hj
    case c2=>intro u hu;simp at hu;rcases hu with rfl | rfl <;> rfl
    case c3=>simp [maxLen];omega
    case c4=>simp;omega
    case c5=>have:=HS.out;simp at this;simp;omega
    intro v' w3 hown' hgrow _;have HB4:=K1 (F9 HB3.out (by simp) (VG _) HW2.out hgrow);have hO4:=OwnR.snoc hown' (by simp);rw [HXY.out.1,HXY.out.2] at hO4
    have HO4:=K1 (show OwnR w3 (w.heap.size+2) v' ((VK (j+1)).map fun i=>(bnd n k i,bnd n k (i+1))) by
     rw [List.range_succ,List.map_append]
     exact hO4)
    clear hO4;clear hown' hgrow HW2 HN3 HB3 HXY;go_wp2_with fail;go_roundw
    case rel=>exact ⟨j+1,by go_num,by omega,HO4,HB4⟩
    case measure=>simp [intOf];omega
  . have hjk:j=k:=by omega
    subst hjk;have hO:OwnR wr (w.heap.size+2) u6 (BN n j):=HO.out;have hB:Below w.heap.size w wr:=HB.out.trans (HW.out.mono (by omega));have H1:=K1 (VF hO hB);clear hO hB HO HW;go_wp2_with fail;go_ret;exact ⟨_,rfl,DG (VQ _ 2) H1.out.1,H1.out.2⟩
theorem GJ (n s:Nat) (w:World) (hn:n<=1048576) (hs:1<=s/\s<=1048576) :
  Calls Tryz.prog 39 #[U O n,U O s] w fun e w'=>∃ v,e=.returned v/\OwnR w' w.heap.size v (Bd n s)/\Below w.heap.size w w':=by
 obtain ⟨i0,hi,hz0,hz1,hz2⟩:=info_parts I6;have HI:=K1 (VF hi (VF hz0 (VF hz1 hz2)));have C0:=K1 (Kk n s w hn hs);have HC:=K1 (Cm n s);have HCL:=K1 (fun i=>EB (n:=n) (i:=i) hs.1)
 obtain ⟨c,hc⟩:∃ c,c=pcnt n s:=⟨_,rfl⟩
 rw [<- hc] at C0 HC HCL;have HCC:=K1 hc;clear hi hz0 hz1 hz2 hc;go_enter Tryz.func39,Tryz.ntmps39;go_wp2_with fail
 (with_reducible refine C0.out.mono ?_)
 rintro e w1 ⟨rfl,rfl⟩;go_wp2_with fail
 go_loopw [5,11] (fun v i wr=>∃ j:Nat,i=U O j/\j<=c/\Hid (OwnR wr w.heap.size v ((VK j).map (blk1 n s)))/\Hid (Below w.heap.size w wr)) (fun _ i _=>c-(intOf i).toNat)
 case atStart=>exact ⟨0,rfl,VP _,K1 (OwnR.nil_ _ _),K1 (VH _ _)⟩
 case round =>
  obtain ⟨j,rfl,hj,HO,HW⟩:=hrel;have hcn:c<=1048576:=by have:=HC.out;omega
  by_cases hlt:j<c
  . have hl:=HCL.out j hlt
    obtain ⟨x,hx⟩:∃ x,x=j*s:=⟨_,rfl⟩
    have e1:(j:Int)*(s:Int)=(x:Int):=by rw [hx];simp
    rw [<- hx] at hl;have HX:=K1 hx
    obtain ⟨y,hy⟩:∃ y,y=x+min s (n-x):=⟨_,rfl⟩
    have HXY:=K1 (show blk1 n s j=(x,y) by unfold blk1;rw [<- hx,<- hy]);have hyn:y<=n:=by omega
    have HW2:=K1 (HO.out.alloc (.cells #[U O x,U O y] 47));have HN3:=K1 (Eo wr (.cells #[U O x,U O y] 47) rfl);have HB3:=K1 (HW.out.alloc HW.out.size (.cells #[U O x,U O y] 47));have HS:=K1 HW.out.size;clear hx HO HW
    by_cases hsn:(s:Int)<=(n:Int)-x
    . have e2:(x:Int)+s=y:=by omega
      clear hy
      go_wp2_with (at_builtin;refine wpList_append_own _ rfl _ _ 44 rfl w.heap.size 47 i0 (.agg #[U O 0,U O 0]) 2 16 Tryz.underlying44 HI.out.1 HI.out.2.1 HI.out.2.2.1 HI.out.2.2.2 rfl (by decide) _ _ _ rfl HW2.out ⟨wr.heap.size,0,none⟩ 1 1 [U O x,U O y] rfl rfl ?c1 ?c2 ?c3 ?c4 ?c5 ?_)
      case c1 =>
       intro j u hj;rw [Cg,VL,Ay HN3.out]
       simpa using hj
      case c2=>intro u hu;simp at hu;rcases hu with rfl | rfl <;> rfl
      case c3=>simp [maxLen];omega
      case c4=>simp;omega
      case c5=>have:=HS.out;simp;omega
      intro v' w3 hown' hgrow _;have HB4:=K1 (F9 HB3.out (VG _) (VG _) HW2.out hgrow);have hO4:=OwnR.snoc hown' (by simp);rw [<- HXY.out,<- I5] at hO4;have HO4:=K1 hO4;clear hO4 hown' hgrow HW2 HN3 HB3 HXY;go_wp2_with fail;go_roundw
      case rel=>exact ⟨j+1,by go_num,by omega,HO4,HB4⟩
      case measure=>simp [intOf];omega
    . replace hsn:(n:Int)-x<s:=by omega
      have e2:(x:Int)+((n:Int)-x)=y:=by omega
      clear hy
      go_wp2_with (at_builtin;refine wpList_append_own _ rfl _ _ 44 rfl w.heap.size 47 i0 (.agg #[U O 0,U O 0]) 2 16 Tryz.underlying44 HI.out.1 HI.out.2.1 HI.out.2.2.1 HI.out.2.2.2 rfl (by decide) _ _ _ rfl HW2.out ⟨wr.heap.size,0,none⟩ 1 1 [U O x,U O y] rfl rfl ?d1 ?d2 ?d3 ?d4 ?d5 ?_)
      case d1 =>
       intro j u hj;rw [Cg,VL,Ay HN3.out]
       simpa using hj
      case d2=>intro u hu;simp at hu;rcases hu with rfl | rfl <;> rfl
      case d3=>simp [maxLen];omega
      case d4=>simp;omega
      case d5=>have:=HS.out;simp;omega
      intro v' w3 hown' hgrow _;have HB4:=K1 (F9 HB3.out (VG _) (VG _) HW2.out hgrow);have hO4:=OwnR.snoc hown' (by simp);rw [<- HXY.out,<- I5] at hO4;have HO4:=K1 hO4;clear hO4 hown' hgrow HW2 HN3 HB3 HXY;go_wp2_with fail;go_roundw
      case rel=>exact ⟨j+1,by go_num,by omega,HO4,HB4⟩
      case measure=>simp [intOf];omega
  . have hjc:j=c:=by omega
    subst hjc;have hO:OwnR wr w.heap.size u5 (Bd n s):=by have:=HO.out;rw [HCC.out] at this;exact this
    have H1:=K1 (VF hO HW.out);clear hO HO HW;go_wp2_with fail;go_ret;exact ⟨_,rfl,H1.out.1,H1.out.2⟩
end
section
open Go.RowKit Go.Shelf
attribute [local go_sem] Oper.semAt_some
def B4 (by_:Nat) (l:List (Nat × Nat)):List (Nat × Nat):=l.map fun p=>(p.1+by_,p.2+by_)
theorem Eh (by_:Nat) (l:List (Nat × Nat)):(B4 by_ l).length=l.length:=by simp [B4]
theorem IK (P:Program) (w:World) (a:Addr) (m:Mode) (f:Fn) (x y:Array Value):(store a (.func f x y) m).run P w=stored P w a (.func f x y) m:=run_store P w a _ m rfl
attribute [local go_sem] IK
theorem NZ (A:Option Addr) (n cap by_:Nat) (w:World) :
  Calls Tryz.prog 41 #[Us A n cap,U O by_] w fun e w'=>e=.returned (.func (.func 79) #[] #[.pointer (some ⟨w.heap.size,0,none⟩),.pointer (some ⟨w.heap.size+2,0,none⟩)])/\∃ t,w'=(((w.alloc (.cells #[Us A n cap] 44)).alloc (.cells #[U O by_] 3)).alloc (.cells #[.func (.func 78) #[] #[.pointer (some ⟨w.heap.size+1,0,none⟩)]] t)):=by
 go_enter Tryz.func41,Tryz.ntmps41
 go_wp2
 go_ret;exact ⟨rfl,_,rfl⟩
theorem Oa (x y by_ Bb:Nat) (w:World) (hb:w.cell? ⟨Bb,0,none⟩=some (U O by_)) (hx:x<=1048576) (hy:y<=1048576) (h:by_<=1048576) :
  Calls Tryz.prog 78 #[.agg #[U O x,U O y],.pointer (some ⟨Bb,0,none⟩)] w fun e w'=>e=.returned (.agg #[U O (x+by_:Nat),U O (y+by_:Nat)])/\Below w.heap.size w w':=by
 obtain ⟨u,hu⟩:∃ u,u=x+by_:=⟨_,rfl⟩
 obtain ⟨v,hv⟩:∃ v,v=y+by_:=⟨_,rfl⟩
 have e1:(x:Int)+by_=u:=by omega
 have e2:(y:Int)+by_=v:=by omega
 rw [<- hu,<- hv];have hlt:=VM w _ hb;have hul:u<=2097152:=by omega
 have hvl:v<=2097152:=by omega
 clear hu hv;go_enter Tryz.func78,Tryz.ntmps78
 go_wp2
 have k1:=heap_alloc_new (w.alloc (.cells #[U O x,U O y] 47)) (.cells #[U O u,U O v] 47);rw [VS] at k1;have c0:=Ay k1 0;have c1:=Ay k1 1;refine bodyPost_ret (v:=.agg #[U O u,U O v]) ?_ rfl ⟨rfl,((VH _ _).alloc (VG _) _).alloc (by simp) _⟩;simp [results,Tryz.results78,go_sem,c0,c1]
structure ED (W:World) (Bl Bs Bb:Nat) (A:Option Addr) (rs:List (Nat × Nat)) (cap by_:Nat):Prop where
 l:W.cell? ⟨Bl,0,none⟩=some (Us A rs.length cap)
 s:W.cell? ⟨Bs,0,none⟩=some (.func (.func 78) #[] #[.pointer (some ⟨Bb,0,none⟩)])
 b:W.cell? ⟨Bb,0,none⟩=some (U O by_)
 r:RdR W W.heap.size A rs
theorem ED.below {W W':World} {Bl Bs Bb:Nat} {A:Option Addr} {rs:List (Nat × Nat)} {cap by_:Nat} (h:ED W Bl Bs Bb A rs cap by_) (hb:Below W.heap.size W W'):ED W' Bl Bs Bb A rs cap by_ :=
 ⟨(hb.cell (p:=⟨Bl,0,none⟩) (VM W _ h.l)).trans h.l,(hb.cell (p:=⟨Bs,0,none⟩) (VM W _ h.s)).trans h.s,(hb.cell (p:=⟨Bb,0,none⟩) (VM W _ h.b)).trans h.b,(h.r.below hb).more hb.size⟩
theorem Ob (n l Bl Bs Bb cap by_:Nat) (A:Option Addr) (rs:List (Nat × Nat)) (hm:rs.length<=1048576) (hr:∀ p∈rs,p.1<=1048576/\p.2<=1048576) (hby:by_<=1048576) (J:List (Nat × Nat)->World->Prop)
  (hE:∀ pre W,J pre W->ED W Bl Bs Bb A rs cap by_) (hJ:∀ pre W W',J pre W->Below W.heap.size W W'->J pre W')
  (hY:∀ (pre:List (Nat × Nat)) (x y:Nat) (W:World),J pre W->pre.length<rs.length->(B4 by_ rs)[pre.length]?=some (x,y)->YieldAt Fence.wide (n-1) Tryz.prog l #[.agg #[U O x,U O y]] W fun e W'=>e=.returned (.bool true)/\J (pre++[(x,y)]) W')
  (W:World) (h0:J [] W):CallsIn Fence.wide n Tryz.prog 79 #[.func (.yield l) #[] #[],.pointer (some ⟨Bl,0,none⟩),.pointer (some ⟨Bs,0,none⟩)] W fun e W'=>(∃ v,e=.returned v)/\J (B4 by_ rs) W':=by
 have HE:=K1 hE;have HJ:=K1 hJ;have HY:=K1 hY;have HR:=K1 hr;have E0:=hE _ _ h0;have c1:=E0.l;clear hE hJ hY hr E0;refine callsIn_of_wp Tryz.func79 rfl trivial ?_ rfl;simp only [Tryz.ntmps79,VV,VW,VX,Nat.reduceAdd,Nat.reduceSub,Array.replicate_succ,Array.replicate_zero,VY,VZ,Wc,We]
 gi_wp2_with fail
 gi_loopw [8] (fun i wr=>∃ k:Nat,k<=rs.length/\i=U O k/\Hid (J (B4 by_ (rs.take k)) wr)) (fun i _=>rs.length-(intOf i).toNat)
 case atStart=>exact ⟨0,VP _,rfl,K1 h0⟩
 case round =>
  clear c1 h0;obtain ⟨k,hk,rfl,HS⟩:=hrel
  by_cases hlt:k<rs.length
  . have E1:=HE.out _ _ HS.out;obtain ⟨b,off,rfl,hb,hc⟩:=E1.r.at_ (by omega);obtain ⟨p,hp⟩:=Au rs k hlt;obtain ⟨x,y⟩:=p;have d1:=(hc k _ hp).1;have d2:=(hc k _ hp).2;have HP:=K1 hp;have hxy:=HR.out _ (VT hp);have HXY:=K1 hxy;have hba:Below wr.heap.size wr (wr.alloc (.cells #[U O x,U O y] 47)):=(VH _ _).alloc (VG _) _;have E2:=E1.below hba;have J2:=HJ.out _ _ _ HS.out hba;have HJ2:=K1 J2;have c2:=E2.s;have C3:=K1 (Oa x y by_ Bb _ E2.b hxy.1 hxy.2 hby);clear E1 hc hp hxy hba E2 J2;dsimp only at d1 d2
    gi_wp2_with fail
    refine ⟨trivial,fun h=>(by cases h),(callsIn_wide.2 C3.out).mono ?_⟩;rintro e' w3 ⟨rfl,hb3⟩
    obtain ⟨u,hu⟩:∃ u,u=x+by_:=⟨_,rfl⟩
    obtain ⟨v,hv⟩:∃ v,v=y+by_:=⟨_,rfl⟩
    rw [<- hu,<- hv];have J3:=HJ.out _ _ _ HJ2.out hb3
    have HSH:=K1 (show B4 by_ (rs.take k)++[(u,v)]=B4 by_ (rs.take (k+1)) by
     rw [List.take_add_one,HP.out,hu,hv]
     simp [B4])
    obtain ⟨fn,tmps,assign,body,hy,hR⟩:=HY.out _ u v w3 J3 (by rw [Eh,Wf];omega) (by
     rw [Eh,Wf,Nat.min_eq_left (by omega),B4,List.getElem?_map,HP.out,hu,hv]
     rfl)
    clear hu hv J3 hb3 HJ2 c2 d1 d2 C3
    gi_wp2_with fail
    refine ⟨fun h=>(by cases h),hR.mono ?_⟩;rintro e' w4 ⟨rfl,hJ4⟩;rw [HSH.out] at hJ4;have H4:=K1 hJ4;clear hJ4 hy hR HSH
    gi_wp2_with fail
    go_roundw
    case rel=>exact ⟨k+1,by omega,by go_num,H4⟩
    case measure=>simp [intOf];omega
  . have H4:=K1 (show J (B4 by_ rs) wr by have h:=HS.out;rw [show rs.take k=rs from List.take_of_length_le (by omega)] at h;exact h);clear HS
    gi_wp2_with fail
    go_end0
    exact ⟨⟨_,rfl⟩,H4.out⟩
end
section
open Go.RowKit Go.Shelf
attribute [local go_sem] Oper.semAt_some
theorem IL {P:Program} {n:Nat} {g:Operand} {ps:Array Tmp} {assign body:Code} {Q:Exit->Act->World->Prop} {a:Act} {w:World} {gf:Nat} {lb:Array Value} (hg:a.eval g=.func (.func gf) #[] lb)
  (eg:∀ args w,(callFunc gf args).run P w=.ok (.enter gf args) w)
  (h:∀ (fn:FuncId) (rec:LoopState->Option Code->Loop) (W1:World),rec=(fun st pe=>{ state:=st,pending:=pe,fn,tmps:=a.tmps,params:=ps,assign,body,defers:=w.heap.size }) ->
   W1.heap[w.heap.size+1]?=some (.loop (rec .ready none))->W1.heap[w.heap.size]?=some (.deferred (some []))->Below w.heap.size w W1 ->
   CallsIn Fence.wide (n-1) P gf (#[.func (.yield (w.heap.size+1)) #[] #[]]++lb) W1 (rangePost Fence.wide n P (w.heap.size+1) Q { a with defers:=[{ target:=.collected w.heap.size,args:=#[] }]++a.defers })):(Code.rangeFunc g ps assign body).wpIn Fence.wide n P Q a w:=by
 refine wpIn_rangeFunc fun fn _=>?_
 obtain ⟨W1,hW1⟩:∃ W1,W1=(w.alloc (.deferred (some []))).alloc (.loop { state:=.ready,pending:=none,fn,tmps:=a.tmps,params:=ps,assign,body,defers:=w.heap.size }):=⟨_,rfl⟩
 have he:=run_enterLoop_outer (P:=P) (w:=w) fn a.tmps ps assign body;rw [<- hW1] at he
 have e0:(resolve a.eval (rangeCall g (w.heap.size+1)) 0).run P W1=.ok { target:=.fn (.func gf) lb,args:=#[.func (.yield (w.heap.size+1)) #[] #[]] } W1:=by
  have e0:resolve a.eval (rangeCall g (w.heap.size+1)) 0=Deferred.ofValue (a.eval g) #[Value.func (.yield (w.heap.size+1)) #[] #[]]:=by
   simp only [resolve,List.map_toArray,List.map_cons,List.map_nil];rfl
  rw [e0,hg];simp [Deferred.ofValue]
 refine ⟨w.heap.size+1,[{ target:=.collected w.heap.size,args:=#[] }],W1,_,W1,gf,_,W1,he,e0,fun _ _=>trivial,eg _ _,fun h=>(by cases h),?_⟩;refine h fn _ W1 rfl ?_ ?_ ?_
 . rw [hW1];have:=World.alloc_heap_new (w.alloc (.deferred (some []))) (.loop { state:=.ready,pending:=none,fn,tmps:=a.tmps,params:=ps,assign,body,defers:=w.heap.size })
   rwa [VS] at this
 . rw [hW1];exact Ct (heap_alloc_new w _) _
 . rw [hW1];exact ((VH _ _).alloc (VG _) _).alloc (by simp) _
theorem Oc {W:World} {base e size n k:Nat} {v:Value} {xs:List Value} {o:Obj} (h:W.ownsRow base e size v n xs) (ho:W.heap[k]?=some o) (hc:o.isCells=false):v.ownBlock≠some k:=by
 rcases h.2 with ⟨rfl,_⟩ | ⟨g,cap,cur,rfl,_,hh,_⟩
 . simp [Value.ownBlock]
 . simp only [Value.ownBlock];intro e;injection e with e
   subst e;rw [hh] at ho;injection ho with ho
   subst ho
   cases hc
theorem GK {W:World} {base e size n k:Nat} {v:Value} {xs:List Value} {o o':Obj} (h:W.ownsRow base e size v n xs) (ho:W.heap[k]?=some o) (hc:o.isCells=false):(W.putObj k o').ownsRow base e size v n xs :=
 h.kept (grownBy_putObj' W k o') (.inr (Oc h ho hc))
theorem Ep {B k:Nat} {w W:World} {o':Obj} (h:Below B w W) (hB:B<=W.heap.size) (hk:B<=k):Below B w (W.putObj k o') :=
 h.grown (grownBy_putObj' W k o') hB (fun j e=>by injection e with e;omega)
structure Col (w:World) (rec:LoopState->Option Code->Loop) (D l S:Nat) (pre:List (Nat × Nat)) (W:World):Prop where
 rec_:W.heap[l]?=some (.loop (rec .ready none))
 dfr:W.heap[D]?=some (.deferred (some []))
 box:∃ v,W.heap[S]?=some (.cells #[v] 44 (0,0))/\OwnR W w.heap.size v pre
 bel:Below w.heap.size w W
theorem Col.below {w W W':World} {rec:LoopState->Option Code->Loop} {D l S:Nat} {pre:List (Nat × Nat)} (h:Col w rec D l S pre W) (hb:Below W.heap.size W W'):Col w rec D l S pre W':=by
 obtain ⟨v,h1,h2⟩:=h.box;exact ⟨Bp h.rec_ hb (AZ h.rec_),Bp h.dfr hb (AZ h.dfr),⟨v,Bp h1 hb (AZ h1),NB h2 hb⟩,h.bel.trans (hb.mono h.bel.size)⟩
theorem Od (Bl Bs Bb cap by_:Nat) (A:Option Addr) (rs:List (Nat × Nat)) (hm:rs.length<=1048576) (hr:∀ p∈rs,p.1<=1048576/\p.2<=1048576) (hby:by_<=1048576) (w:World) (hl:ED w Bl Bs Bb A rs cap by_) :
  Calls Tryz.prog 175 #[Us none 0 0,.func (.func 79) #[] #[.pointer (some ⟨Bl,0,none⟩),.pointer (some ⟨Bs,0,none⟩)]] w fun e w'=>∃ v,e=.returned v/\OwnR w' w.heap.size v (B4 by_ rs)/\Below w.heap.size w w':=by
 obtain ⟨i0,hi,hz0,hz1,hz2⟩:=info_parts I6;have HI:=K1 (VF hi (VF hz0 (VF hz1 hz2)));have HL:=K1 hl;have HR:=K1 hr;clear hi hz0 hz1 hz2 hl hr;refine (callsIn_wide (n:=5)).1 ?_;refine callsIn_of_wp_marks Tryz.func175 rfl trivial ?_ rfl;simp only [Tryz.ntmps175,VV,VW,VX,Nat.reduceAdd,Nat.reduceSub,Array.replicate_succ,Array.replicate_zero,VY,VZ,Wc,We]
 gi_wp2_with fail
 have hbox:=heap_alloc_new w (.cells #[Us none 0 0] 44);have hbel:Below w.heap.size w (w.alloc (.cells #[Us none 0 0] 44)):=(VH _ _).alloc (VG _) _;have hsz:(w.alloc (.cells #[Us none 0 0] 44)).heap.size=w.heap.size+1:=by simp
 have hat:=HL.out.below hbel;have HX:=K1 (VF hbox (VF hbel (VF hsz hat)));clear hbox hbel hsz hat;generalize w.alloc (.cells #[Us none 0 0] 44)=w0 at *;refine IL rfl (fun _ _=>by go_simp) fun fn rec W1 hrec hl1 hd1 hb1=>?_;have HJ:Hid (Col w rec w0.heap.size (w0.heap.size+1) w.heap.size [] W1):=K1 ⟨hl1,hd1,⟨_,Bp HX.out.1 hb1 (AZ HX.out.1),OwnR.nil_ _ _⟩,HX.out.2.1.trans (hb1.mono HX.out.2.1.size)⟩
 refine (Ob _ _ Bl Bs Bb cap by_ A rs hm HR.out hby (Col w rec w0.heap.size (w0.heap.size+1) w.heap.size) (fun pre W h=>HL.out.below h.bel) (fun pre W W' h hb=>h.below hb) (fun pre x y W h hlt _=>?_) W1 HJ.out).mono ?_
 . have hy:=run_yield (P:=Tryz.prog) (args:=#[.agg #[U O x,U O y]]) h.rec_ (by rw [hrec];rfl);rw [hrec] at hy;have HREC:=K1 hrec;refine ⟨fn,_,_,_,hy,roundIn_of_wpIn trivial ?_⟩;clear hy hrec;obtain ⟨v,hv1,hv2⟩:=h.box;have hsz:=h.bel.size;have hrc:=Ct h.rec_ (.cells #[U O x,U O y] 47);have hdf:=Ct h.dfr (.cells #[U O x,U O y] 47);have hbx:=Ct hv1 (.cells #[U O x,U O y] 47);have hrb:=heap_alloc_new W (.cells #[U O x,U O y] 47);have how:=hv2.alloc (.cells #[U O x,U O y] 47);have hbl:=h.bel.alloc hsz (.cells #[U O x,U O y] 47);have hW0:=HX.out.2.2.1
   have hbg:=run_beginRound (P:=Tryz.prog) hrc (by rw [HREC.out]);have ne1:w.heap.size≠w0.heap.size+1:=by omega
   have ne2:w0.heap.size≠w0.heap.size+1:=by omega
   have ne3:W.heap.size≠w0.heap.size+1:=fun e=>by have:=AZ h.rec_;omega
   have hrc2:=Wg (o:=.loop { rec .ready none with state:=.busy }) (AZ hrc);have hdf2:=(VI (o:=.loop { rec .ready none with state:=.busy }) ne2).trans hdf;have hbx2:=(VI (o:=.loop { rec .ready none with state:=.busy }) ne1).trans hbx;have hrb2:=(VI (o:=.loop { rec .ready none with state:=.busy }) ne3).trans hrb;have how2:=GK (o':=.loop { rec .ready none with state:=.busy }) how hrc rfl;have hbl2:=Ep (o':=.loop { rec .ready none with state:=.busy }) hbl hbl.size (k:=w0.heap.size+1) (by omega);have H2:=K1 (VF hrc2 (VF hdf2 (VF hbx2 (VF how2 hbl2))));have HBG:=K1 hbg;have HLT:=K1 hlt
   have c1:=Ay hbx2 0;have f1:=DD hbx2 0;have c2:=Ay hrb2 0;have c3:=Ay hrb2 1;have HW0:=K1 (VF hW0 (VF ne1 (VF ne2 (VF ne3 hsz))));clear h hv1 hv2 hlt HJ hl1 hd1 hb1 hrc hdf hbx hrb how hbl hbg hrc2 hdf2 hbx2 hrb2 how2 hbl2 hW0 ne1 ne2 ne3 hsz;simp only [List.zip_toArray,List.zip_cons_cons,List.zip_nil_left]
   gi_wp2_with fail
   refine ⟨_,HBG.out,?_⟩;clear HBG
   obtain ⟨W2,hW2⟩:∃ W2,W2=(W.alloc (.cells #[U O x,U O y] 47)).putObj (w0.heap.size+1) (.loop { rec .ready none with state:=.busy }):=⟨_,rfl⟩
   rw [<- hW2] at H2 c1 f1 c2 c3 ⊢;clear hW2;have HW3:=K1 (H2.out.2.2.2.1.alloc (.cells #[U O x,U O y] 47));have HN3:=K1 (Eo W2 (.cells #[U O x,U O y] 47) rfl);have HS2:=K1 H2.out.2.2.2.2.size;have HLM:=K1 hm;clear hm
   gi_wp2_with (gi_at_builtin;refine wpListIn_append_own _ rfl _ _ 44 rfl w.heap.size 47 i0 (.agg #[U O 0,U O 0]) 2 16 Tryz.underlying44 HI.out.1 HI.out.2.1 HI.out.2.2.1 HI.out.2.2.2 rfl (by decide) _ _ _ rfl HW3.out ⟨W2.heap.size,0,none⟩ 1 1 [U O x,U O y] rfl rfl (by intro j u hj;rw [Cg,VL,Ay HN3.out];simpa using hj) (by intro u hu;simp at hu;rcases hu with rfl | rfl <;> rfl) (by have:=HLT.out;have:=HLM.out;simp [maxLen];omega) (by have:=HLT.out;have:=HLM.out;simp;omega) (by have:=HS2.out;simp;omega) ?_;intro v' w3 hown' hgrow _;obtain ⟨g',cap',rfl⟩:=ownsRow_succ hown';obtain ⟨hv1,hv2,hr2,hk2,hb2⟩:=Boxed.appended (t:=44) H2.out.2.2.1 (by decide) H2.out.2.2.2.1 H2.out.2.2.2.2.size (VG _) hown' hgrow;have hc1:=hv1.cell;have hf1:=hv1.frozen;have HR2:=K1 (VF hv2 (VF hr2 (VF hk2 hb2)));clear hv1 hv2 hr2 hk2 hb2 hown' hgrow)
   obtain ⟨w4,hw4⟩:∃ w4,w4=w3.setCell ⟨w.heap.size,0,none⟩ (Us (some ⟨g',0,none⟩) (pre.length+1) cap'):=⟨_,rfl⟩
   rw [<- hw4] at HR2 ⊢;have hl4:=HR2.out.2.2.1.same _ _ H2.out.1 rfl;have hd4:=HR2.out.2.2.1.same _ _ H2.out.2.1 rfl;obtain ⟨hb4,ho4,_,hlw⟩:=HR2.out;have hbb:=H2.out.2.2.2.2.trans (hlw.mono (VG _));obtain ⟨e0,e1,e2,e3,e4⟩:=HW0.out;clear HR2 H2 hw4;have hend:=run_endRound (P:=Tryz.prog) none hl4;refine ⟨_,_,hend,rfl,⟨?_,(VI e2).trans hd4,⟨_,(VI e1).trans hb4,?_⟩,Ep hbb hbb.size (by omega)⟩⟩
   . rw [Wg (AZ hl4),HREC.out];rfl
   . exact GK (OwnR.snoc ho4 rfl) hl4 rfl
 . rintro e W2 ⟨⟨v0,rfl⟩,h2⟩;obtain ⟨v,hv,hrow⟩:=h2.box;have hend:=run_endLoop (P:=Tryz.prog) h2.rec_ (by simp [hrec]);have hp:(rec .ready none).pending=none:=by rw [hrec]
   replace hend:=hend.trans (congrArg (fun p=>Result.ok p _) hp);have hX:=HX.out.2.2.1;have ne1:w.heap.size≠w0.heap.size+1:=by omega
   have ne2:w0.heap.size≠w0.heap.size+1:=by omega
   have hv3:=(VI (o:=.loop { rec .ready none with state:=.exhausted }) ne1).trans hv;have hd3:=(VI (o:=.loop { rec .ready none with state:=.exhausted }) ne2).trans h2.dfr;have hr3:=GK (o':=.loop { rec .ready none with state:=.exhausted }) hrow h2.rec_ rfl;have hb3:=Ep (o':=.loop { rec .ready none with state:=.exhausted }) h2.bel h2.bel.size (k:=w0.heap.size+1) (by omega);refine ⟨_,_,hend,?_⟩;have hsz:=h2.bel.size
   obtain ⟨W3,hW3⟩:∃ W3,W3=W2.putObj (w0.heap.size+1) (.loop { rec .ready none with state:=.exhausted }):=⟨_,rfl⟩
   rw [<- hW3] at hv3 hd3 hr3 hb3 ⊢;have c1:=Ay hv3 0;have f1:=DD hv3 0;have HF:=K1 (VF hd3 (VF hr3 (VF hb3 hX)));clear hend h2 hv hrow hW3 hv3 hd3 hr3 hb3 HJ hl1 hd1 hb1 hrec hX ne1 ne2 hsz;clear hp
   gi_wp2_with fail
   refine ⟨by simp,.inl ⟨_,_,rfl,run_takeDeferred HF.out.1,?_⟩⟩;have hX:=HF.out.2.2.2;exact ⟨_,results_tmp rfl _ _ _,v,rfl,GK HF.out.2.1 HF.out.1 rfl,Ep HF.out.2.2.1 HF.out.2.2.1.size (by omega)⟩
theorem Kn (Bl Bs Bb cap by_:Nat) (A:Option Addr) (rs:List (Nat × Nat)) (hm:rs.length<=1048576) (hr:∀ p∈rs,p.1<=1048576/\p.2<=1048576) (hby:by_<=1048576) (w:World) (hl:ED w Bl Bs Bb A rs cap by_) :
  Calls Tryz.prog 174 #[.func (.func 79) #[] #[.pointer (some ⟨Bl,0,none⟩),.pointer (some ⟨Bs,0,none⟩)]] w fun e w'=>∃ v,e=.returned v/\OwnR w' w.heap.size v (B4 by_ rs)/\Below w.heap.size w w':=by
 have C:=K1 (Od Bl Bs Bb cap by_ A rs hm hr hby w hl);clear hl hr;go_enter Tryz.func174,Tryz.ntmps174;go_wp2_with fail
 (with_reducible refine C.out.mono ?_)
 rintro e w1 ⟨v,rfl,hv,hb⟩;go_wp2_with fail;go_ret;exact ⟨v,rfl,hv,hb⟩
abbrev Oe (Bl Bs:Nat):Value:=.func (.func 79) #[] #[.pointer (some ⟨Bl,0,none⟩),.pointer (some ⟨Bs,0,none⟩)]
theorem Ko (A:Option Addr) (n cap by_:Nat) (rs:List (Nat × Nat)) (w:World) (hn:n=rs.length) (hr:RdR w w.heap.size A rs) :
  Calls Tryz.prog 41 #[Us A n cap,U O by_] w fun e w'=>∃ Bl Bs Bb,e=.returned (Oe Bl Bs)/\ED w' Bl Bs Bb A rs cap by_/\Below w.heap.size w w'/\w.heap.size<=Bl/\w.heap.size<=Bs/\w.heap.size<=Bb:=by
 refine (NZ A n cap by_ w).mono ?_;rintro e w' ⟨rfl,t,rfl⟩;subst hn;have k0:=Eo w (.cells #[Us A rs.length cap] 44) rfl;have k1:=Eo (w.alloc (.cells #[Us A rs.length cap] 44)) (.cells #[U O by_] 3) (g:=w.heap.size+1) (by simp);have k2:=Eo ((w.alloc (.cells #[Us A rs.length cap] 44)).alloc (.cells #[U O by_] 3)) (.cells #[.func (.func 78) #[] #[.pointer (some ⟨w.heap.size+1,0,none⟩)]] t) (g:=w.heap.size+2) (by simp)
 have hb:Below w.heap.size w (((w.alloc (.cells #[Us A rs.length cap] 44)).alloc (.cells #[U O by_] 3)).alloc (.cells #[.func (.func 78) #[] #[.pointer (some ⟨w.heap.size+1,0,none⟩)]] t)):=(((VH _ _).alloc (VG _) _).alloc (by simp) _).alloc (by simp only [VS];omega) _;exact ⟨_,_,w.heap.size+1,rfl,⟨Ay (Ct (Ct k0 _) _) 0,Ay k2 0,Ay (Ct k1 _) 0,(hr.below hb).more hb.size⟩,hb,VG _,VQ _ _,VQ _ _⟩
theorem IM (n k:Nat) (hk:1<=k):∀ p∈BN n k,p.1<=n/\p.2<=n:=by
 intro p hp;obtain ⟨i,hi,rfl⟩:=List.mem_map.1 hp;have hi:=List.mem_range.1 hi;exact ⟨FB hk (by omega),FB hk (by omega)⟩
theorem EE (n s:Nat) (hs:1<=s):∀ p∈Bd n s,p.1<=n/\p.2<=n:=by
 intro p hp;obtain ⟨i,hi,rfl⟩:=List.mem_map.1 hp;have hi:=EB hs (List.mem_range.1 hi);unfold blk1;exact ⟨by dsimp only;omega,by dsimp only;omega⟩
theorem Og (lo hi wk:Nat) (hlo:lo<=hi) (hhi:hi<=1048576) (hk:1<=wk/\wk<=1000) (w:World) :
  Calls Tryz.prog 166 #[.agg #[U O lo,U O hi],U O wk] w fun e w'=>∃ v,e=.returned v/\OwnR w' w.heap.size v (B4 lo (BN (hi-lo) wk))/\Below w.heap.size w w':=by
 have CS:=K1 (fun W=>IJ lo hi W hlo hhi);have CE:=K1 (fun W=>Km (hi-lo) wk W (by omega) hk);have HL:=K1 (fun p hp=>VF (VJ (IM (hi-lo) wk hk.1 p hp).1 (show hi-lo<=1048576 by omega)) (VJ (IM (hi-lo) wk hk.1 p hp).2 (show hi-lo<=1048576 by omega)));have HN:=K1 (show (BN (hi-lo) wk).length<=1048576 by rw [Ee];omega);have HLO:=K1 (show lo<=1048576 by omega);have HE:=K1 (heap_alloc_new w (.cells #[U O lo,U O hi] 47));have HB:=K1 ((VH w.heap.size w).alloc (VG _) (.cells #[U O lo,U O hi] 47));generalize BN (hi-lo) wk=rs at *;generalize hi-lo=d at *;go_enter Tryz.func166,Tryz.ntmps166;go_wp2_with fail
 go_region_held3 (fun w'=>w'.cell? ⟨w.heap.size,0,none⟩=some (U O lo)/\w'.cell? ⟨w.heap.size,1,none⟩=some (U O hi))
  (first
   | exact ⟨Ay HE4.out 0,Ay HE4.out 1⟩
   | exact ⟨Ay HE3.out 0,Ay HE3.out 1⟩
   | exact ⟨Ay HE2.out 0,Ay HE2.out 1⟩
   | exact ⟨Ay HE1.out 0,Ay HE1.out 1⟩
   | exact ⟨Ay HE.out 0,Ay HE.out 1⟩)
  (first
   | (go_at_call 43
      (with_reducible refine (CS.out _).mono ?_)
      rintro e w1 ⟨rfl,hw1⟩;have HE1:=K1 (Bp (F8 HE.out) (show Below (w.heap.size+1) _ w1 by rw [hw1];exact (VH _ _).alloc (by simp) _) (Wh _));have HB1:=K1 (show Below w.heap.size w w1 by rw [hw1];exact (Cs HB.out).alloc (by simp) _)
      clear hw1 CS HE HB)
   | (go_at_call 42
      (with_reducible refine (CE.out _).mono ?_)
      rintro e w2 ⟨v,rfl,hv,hb2⟩;obtain ⟨A1,c1,rfl⟩:=DF hv;have HV:=K1 (OwnR.rd hv).1;have HE2:=K1 (Bp HE1.out hb2 (AZ HE1.out));have HB2:=K1 (HB1.out.trans (hb2.mono HB1.out.size))
      clear hv hb2 CE HE1 HB1)
   | (go_at_call 41
      (with_reducible refine (Ko _ _ _ _ rs _ rfl HV.out).mono ?_)
      rintro e w3 ⟨Bl,Bs,Bb,rfl,hat,hb3,_⟩;have HAT:=K1 hat;have HE3:=K1 (Bp HE2.out hb3 (AZ HE2.out));have HB3:=K1 (HB2.out.trans (hb3.mono HB2.out.size))
      clear hat hb3 HV HE2 HB2)
   | (go_at_call 174
      (with_reducible refine (Kn _ _ _ _ _ _ rs HN.out HL.out HLO.out _ HAT.out).mono ?_)
      rintro e w4 ⟨v,rfl,hv,hb4⟩;have HE4:=K1 (Bp HE3.out hb4 (AZ HE3.out));have HV4:=K1 (DG HB3.out.size hv);have HB4:=K1 (HB3.out.trans (hb4.mono HB3.out.size))
      clear hv hb4 HAT HE3 HB3))
 go_wp2_with fail;go_ret;exact ⟨_,rfl,HV4.out,HB4.out⟩
theorem Kp (lo hi s:Nat) (hlo:lo<=hi) (hhi:hi<=1048576) (hs:1<=s/\s<=1048576) (w:World) :
  Calls Tryz.prog 167 #[.agg #[U O lo,U O hi],U O s] w fun e w'=>∃ v,e=.returned v/\OwnR w' w.heap.size v (B4 lo (Bd (hi-lo) s))/\Below w.heap.size w w':=by
 have CS:=K1 (fun W=>IJ lo hi W hlo hhi);have CE:=K1 (fun W=>GJ (hi-lo) s W (by omega) hs);have HL:=K1 (fun p hp=>VF (VJ (EE (hi-lo) s hs.1 p hp).1 (show hi-lo<=1048576 by omega)) (VJ (EE (hi-lo) s hs.1 p hp).2 (show hi-lo<=1048576 by omega)));have HN:=K1 (show (Bd (hi-lo) s).length<=1048576 by rw [DN];have:=Cm (hi-lo) s;omega);have HLO:=K1 (show lo<=1048576 by omega);have HE:=K1 (heap_alloc_new w (.cells #[U O lo,U O hi] 47));have HB:=K1 ((VH w.heap.size w).alloc (VG _) (.cells #[U O lo,U O hi] 47));generalize Bd (hi-lo) s=rs at *;generalize hi-lo=d at *;go_enter Tryz.func167,Tryz.ntmps167
 go_wp2_with fail
 go_region_held3 (fun w'=>w'.cell? ⟨w.heap.size,0,none⟩=some (U O lo)/\w'.cell? ⟨w.heap.size,1,none⟩=some (U O hi))
  (first
   | exact ⟨Ay HE4.out 0,Ay HE4.out 1⟩
   | exact ⟨Ay HE3.out 0,Ay HE3.out 1⟩
   | exact ⟨Ay HE2.out 0,Ay HE2.out 1⟩
   | exact ⟨Ay HE1.out 0,Ay HE1.out 1⟩
   | exact ⟨Ay HE.out 0,Ay HE.out 1⟩)
  (first
   | (go_at_call 43
      (with_reducible refine (CS.out _).mono ?_)
      rintro e w1 ⟨rfl,hw1⟩;have HE1:=K1 (Bp (F8 HE.out) (show Below (w.heap.size+1) _ w1 by rw [hw1];exact (VH _ _).alloc (by simp) _) (Wh _));have HB1:=K1 (show Below w.heap.size w w1 by rw [hw1];exact (Cs HB.out).alloc (by simp) _)
      clear hw1 CS HE HB)
   | (go_at_call 39
      (with_reducible refine (CE.out _).mono ?_)
      rintro e w2 ⟨v,rfl,hv,hb2⟩;obtain ⟨A1,c1,rfl⟩:=DF hv;have HV:=K1 (OwnR.rd hv).1;have HE2:=K1 (Bp HE1.out hb2 (AZ HE1.out));have HB2:=K1 (HB1.out.trans (hb2.mono HB1.out.size))
      clear hv hb2 CE HE1 HB1)
   | (go_at_call 41
      (with_reducible refine (Ko _ _ _ _ rs _ rfl HV.out).mono ?_)
      rintro e w3 ⟨Bl,Bs,Bb,rfl,hat,hb3,_⟩;have HAT:=K1 hat;have HE3:=K1 (Bp HE2.out hb3 (AZ HE2.out));have HB3:=K1 (HB2.out.trans (hb3.mono HB2.out.size))
      clear hat hb3 HV HE2 HB2)
   | (go_at_call 174
      (with_reducible refine (Kn _ _ _ _ _ _ rs HN.out HL.out HLO.out _ HAT.out).mono ?_)
      rintro e w4 ⟨v,rfl,hv,hb4⟩;have HE4:=K1 (Bp HE3.out hb4 (AZ HE3.out));have HV4:=K1 (DG HB3.out.size hv);have HB4:=K1 (HB3.out.trans (hb4.mono HB3.out.size))
      clear hv hb4 HAT HE3 HB3))
 go_wp2_with fail;go_ret;exact ⟨_,rfl,HV4.out,HB4.out⟩
end
section
theorem Mem.cons_iff {W:World} {c:Ch} {L:List Ch}:Mem W (c::L)↔c.Holds W/\Mem W L/\∀ d∈L,(c.mut\/d.mut)->∀ g,c.fp g->¬ d.fp g:=by
 constructor
 . intro h;refine ⟨h.holds 0 c rfl,⟨fun i d hi=>h.holds (i+1) d hi,fun i j d e hne hi hj=>h.sep (i+1) (j+1) d e (by omega) hi hj⟩,fun d hd hm g hg hg2=>?_⟩;obtain ⟨i,hi⟩:=List.getElem?_of_mem hd
   rcases hm with hm | hm
   . exact h.sep 0 (i+1) c d (by omega) rfl hi hm g hg hg2
   . exact h.sep (i+1) 0 d c (by omega) hi rfl hm g hg2 hg
 . rintro ⟨hc,hL,hs⟩;constructor
   . intro i d hi
     cases i with
     | zero=>simp at hi;subst hi;exact hc
     | succ i=>exact hL.holds i d hi
   . intro i j d e hne hi hj hm g hg hg2
     cases i <;> cases j
     . omega
     . simp at hi;subst hi;exact hs e (VT hj) (.inl hm) g hg hg2
     . simp at hj;subst hj;exact hs d (VT hi) (.inr hm) g hg2 hg
     . exact hL.sep _ _ d e (by omega) hi hj hm g hg hg2
theorem Mem.perm {W:World} {L L':List Ch} (h:Mem W L) (hp:L.Perm L'):Mem W L':=by
 induction hp with
 | nil=>exact h
 | cons x hp ih =>
   obtain ⟨h1,h2,h3⟩:=Mem.cons_iff.1 h;exact Mem.cons_iff.2 ⟨h1,ih h2,fun d hd=>h3 d (hp.mem_iff.2 hd)⟩
 | swap x y l =>
   obtain ⟨h1,h2,h3⟩:=Mem.cons_iff.1 h;obtain ⟨k1,k2,k3⟩:=Mem.cons_iff.1 h2;refine Mem.cons_iff.2 ⟨k1,Mem.cons_iff.2 ⟨h1,k2,fun d hd=>h3 d (List.mem_cons_of_mem _ hd)⟩,fun d hd hm g hg hg2=>?_⟩
   rcases List.mem_cons.1 hd with rfl | hd
   . exact h3 x (List.mem_cons_self ..) hm.symm g hg2 hg
   . exact k3 d hd hm g hg hg2
 | trans _ _ ih1 ih2=>exact ih2 (ih1 h)
def Oh (K:World->Prop):Exit->Act->World->Prop
 | .normal,_,W=>K W
 | _,_,_=>False
def Dj (D l:Nat) (o:Obj):List Ch:=[.obj D (.deferred (some [])),.obj l o]
theorem Mem.loop {w W1:World} {L:List Ch} {o:Obj} (h:Mem w L) (hd:W1.heap[w.heap.size]?=some (.deferred (some []))) (hl:W1.heap[w.heap.size+1]?=some o) (hb:Below w.heap.size w W1):Mem W1 (L++Dj w.heap.size (w.heap.size+1) o):=by
 have h1:=h.push (c:=.obj w.heap.size (.deferred (some []))) hb hd (fun g hg=>by cases hg;exact VG _)
 have h2:=h1.add (c:=.obj (w.heap.size+1) o) hl (fun i d hi _ g hg hg2=>by
  cases hg
  rcases FC hi with ⟨_,h3⟩ | ⟨_,rfl⟩
  . have:=Ch.lt (h.holds i d h3) hg2;omega
  . have:w.heap.size+1=w.heap.size:=hg2
    omega)
 rw [VN] at h2;exact h2
theorem FK {L M:List Ch} {D l:Nat} {o:Obj}:(L++Dj D l o++M)[L.length+1]?=some (.obj l o):=by
 rw [VN,List.getElem?_append_right (by omega),Wi];rfl
theorem Oi {L M:List Ch} {D l:Nat} {o o':Obj}:(L++Dj D l o++M).set (L.length+1) (.obj l o')=L++Dj D l o'++M:=by
 rw [VN,List.set_append_right _ _ (by omega),Wi,VN];rfl
theorem Mem.putL {W:World} {L M:List Ch} {D l:Nat} {o:Obj} (h:Mem W (L++Dj D l o++M)) (o':Obj):Mem (W.putObj l o') (L++Dj D l o'++M):=by
 have h1:=h.put FK o'
 rwa [Oi] at h1
theorem IN {P:Program} {n:Nat} {g:Operand} {ps:Array Tmp} {assign body:Code} {Q:Exit->Act->World->Prop} {a:Act} {w:World} {gf:Nat} {lb:Array Value}
  (hg:a.eval g=.func (.func gf) #[] lb) (eg:∀ args w,(callFunc gf args).run P w=.ok (.enter gf args) w)
  (S:Nat->List Ch->Prop) (m:Nat) (args:Nat->Array Value) (h0:∃ L,S 0 L/\Mem w L) (hps:∀ k,(args k).size=ps.size)
  (hI:∀ (l:Nat) (J:Nat->World->Prop),(∀ k W,J k W->∃ L M,S k L/\Mem W (L++M))->(∀ k W W',J k W->Below W.heap.size W W'->J k W') ->
   (∀ k W,k<m->J k W->YieldAt Fence.wide (n-1-1) P l (args k) W fun e W'=>e=.returned (.bool true)/\J (k+1) W') ->
   ∀ W,J 0 W->CallsIn Fence.wide (n-1) P gf (#[.func (.yield l) #[] #[]]++lb) W fun e W'=>(∃ v,e=.returned v)/\J m W')
  (hB:∀ (k D l:Nat) (o:Obj) (L:List Ch) (W:World),k<m->S k L->Mem W (L++Dj D l o) ->
   assign.wpIn (Fence.wide.inRound l) (n-1-1) P (Exit.then (fun a1 w1=>∃ M,Mem w1 (L++Dj D l o++M)/\∀ (o':Obj) (w2:World),Mem w2 (L++Dj D l o'++M) ->
    body.wpIn (Fence.wide.inRound l) (n-1-1) P (Oh fun W'=>∃ L' M',S (k+1) L'/\Mem W' (L'++Dj D l o'++M')) a1 w2) (fun _ _ _=>False)) { tmps:=(ps.zip (args k)).foldl (fun tmps (t,a)=>tmps.setIfInBounds t a) a.tmps,defers:=[] } W)
  (hQ:∀ (D l:Nat) (o:Obj) (L:List Ch) (W:World),S m L->Mem W (L++Dj D l o)->Q .normal { a with defers:=[{ target:=.collected D,args:=#[] }]++a.defers } W) :
  (Code.rangeFunc g ps assign body).wpIn Fence.wide n P Q a w:=by
 refine IL hg eg fun fn rec W1 hrec hl1 hd1 hb1=>?_;obtain ⟨L0,hS0,hM0⟩:=h0;have HJ:=hM0.loop hd1 hl1 hb1;refine (hI (w.heap.size+1) (fun k W=>∃ L,S k L/\Mem W (L++Dj w.heap.size (w.heap.size+1) (.loop (rec .ready none)))) (fun k W ⟨L,h1,h2⟩=>⟨L,_,h1,h2⟩) (fun k W W' ⟨L,h1,h2⟩ hb=>⟨L,h1,h2.below hb⟩) (fun k W hk h=>?_) W1 ⟨L0,hS0,HJ⟩).mono ?_
 . obtain ⟨L,hS,h⟩:=h;have hr:W.heap[w.heap.size+1]?=some (.loop (rec .ready none)):=h.obj _ (by have:=FK (L:=L) (M:=[]) (D:=w.heap.size) (l:=w.heap.size+1) (o:=.loop (rec .ready none));rwa [VU] at this);have hy:=run_yield (P:=P) (args:=args k) hr (by rw [hrec];exact hps k);rw [hrec] at hy;refine ⟨fn,_,_,_,hy,roundIn_of_wpIn trivial ?_⟩;refine wpIn_mono (hB k _ _ _ L W hk hS h) ?_;intro e a1 w1 hq
   cases e with
   | normal =>
     obtain ⟨M,hM,hb⟩:=hq;have hr1:w1.heap[w.heap.size+1]?=some (.loop (rec .ready none)):=hM.obj _ FK;refine ⟨_,run_beginRound (P:=P) hr1 (by rw [hrec]),?_⟩;refine wpIn_mono (hb _ _ (hM.putL _)) ?_;intro e a2 w2 hq2
     cases e with
     | normal =>
       obtain ⟨L',M',hS',hM'⟩:=hq2;refine ⟨_,_,run_endRound (P:=P) none (hM'.obj _ FK),rfl,L',hS',?_⟩;have h3:=(hM'.putL (.loop { rec .ready none with state:=.ready,pending:=none })).left;have he:({ rec .ready none with state:=.ready,pending:=none }:Loop)=rec .ready none:=by rw [hrec]
       rw [he] at h3;exact (by rw [hrec] at h3 ⊢;exact h3)
     | _=>exact hq2.elim
   | _=>exact hq.elim
 . rintro e W2 ⟨⟨v0,rfl⟩,L,hS,h2⟩;have hr2:W2.heap[w.heap.size+1]?=some (.loop (rec .ready none)):=h2.obj _ (by have:=FK (L:=L) (M:=[]) (D:=w.heap.size) (l:=w.heap.size+1) (o:=.loop (rec .ready none));rwa [VU] at this);have hend:=run_endLoop (P:=P) hr2 (by simp [hrec]);have hp:(rec .ready none).pending=none:=by rw [hrec]
   replace hend:=hend.trans (congrArg (fun p=>Result.ok p _) hp);have h3:Mem W2 (L++Dj w.heap.size (w.heap.size+1) (.loop (rec .ready none))++[]):=by rw [VU];exact h2
   have h4:=(h3.putL (.loop { rec .ready none with state:=.exhausted })).left;exact ⟨_,_,hend,hQ _ _ _ L _ hS h4⟩
end
end Go.Proofs.YtdpojpcoghcieaaGreat
