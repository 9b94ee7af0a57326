/- A part of the proof of TopSerial: Part, Later. Conditions: none. -/
import Derived.RangeFuncNested
import Derived.RangeFuncBound
import Derived.RangeFuncCalls
import Derived.RangeFuncLeaves
import Derived.RangeFuncBox
import Derived.Shelf.Abstract
import Derived.Shelf.RegionOpen
import Derived.OwnWalkIn
import Derived.TacticsInMore
import Derived.LoopNIn
import Derived.LoopIn
import Derived.Test.YtdpojpcoghcieaaGreatSdAA
set_option maxHeartbeats 8000000
namespace Go.Proofs.YtdpojpcoghcieaaGreat
open Lib renaming hid → K1
open Go.RowKit
theorem pcount_any (n s:Nat) (w:World) (hn:n≤1048576) (hs:1≤s∧s≤1048576) :
  Calls Tryz.prog 44 #[.int .i64 n,.int .i64 s] w fun e w'=>e=.returned (.int .i64 (pcnt n s:Nat))∧w=w':=by
 by_cases h0:n=0
 · subst h0
   go_enter Tryz.func44,Tryz.ntmps44
   go_wp2
   go_ret
   exact ⟨rfl,rfl⟩
 · obtain ⟨q,hq⟩:∃ q,q=(n-1) / s:=⟨_,rfl⟩
   have e1:((n:Int)-1).tdiv (s:Int)=(q:Int):=by
    rw [hq,show (n:Int)-1=((n-1:Nat):Int) by omega]
    exact (Int.ofNat_tdiv _ _).symm
   have hq2:q≤1048576:=by have:=Nat.div_le_self (n-1) s;omega
   have hc:Hid (pcnt n s=q+1):=K1 (by unfold pcnt;rw [if_neg h0,hq])
   clear hq
   go_enter Tryz.func44,Tryz.ntmps44
   go_wp2
   go_ret
   exact ⟨ret_int (by rw [hc.out];rfl),rfl⟩
theorem psize_any (a b:Nat) (w:World) (h:a≤b) (hb:b≤1048576) :
  Calls Tryz.prog 43 #[.agg #[.int .i64 a,.int .i64 b]] w fun e w'=>e=.returned (.int .i64 (b-a:Nat))∧w'=w.alloc (.cells #[.int .i64 a,.int .i64 b] 47):=by
 go_enter Tryz.func43,Tryz.ntmps43
 go_wp2
 go_ret
 exact ⟨ret_int (by omega),rfl⟩
theorem bound_any (gn gk n k i:Nat) (w:World) (hn:w.cell? ⟨gn,0,none⟩=some (.int .i64 n)) (hk:w.cell? ⟨gk,0,none⟩=some (.int .i64 k)) (h1:1≤k∧k≤1048576) (h2:n≤1048576) (h3:i≤k) :
  Calls Tryz.prog 80 #[.int .i64 i,.pointer (some ⟨gn,0,none⟩),.pointer (some ⟨gk,0,none⟩)] w fun e w'=>e=.returned (.int .i64 (bnd n k i:Nat))∧∃ q,w'=w.drewN q:=by
 obtain ⟨q,hq⟩:∃ q,q=n / k:=⟨_,rfl⟩
 obtain ⟨r,hr⟩:∃ r,r=n % k:=⟨_,rfl⟩
 have e1:(n:Int).tdiv (k:Int)=(q:Int):=by rw [hq];exact (Int.ofNat_tdiv _ _).symm
 have e2:(n:Int).tmod (k:Int)=(r:Int):=by rw [hr];exact (Int.ofNat_tmod _ _).symm
 obtain ⟨m,hm⟩:∃ m,m=i*q:=⟨_,rfl⟩
 have e3:(i:Int)*(q:Int)=(m:Int):=by rw [hm];simp
 have hm2:m≤1048576:=by
  rw [hm,hq]
  exact Nat.le_trans (Nat.mul_le_mul_right _ h3) (Nat.le_trans (Nat.mul_div_le n k) h2)
 have hb:Hid (bnd n k i=m+min i r):=K1 (by unfold bnd;rw [hm,hq,hr])
 have hr2:r≤1048576:=by have:=Nat.mod_le n k;omega
 have hne:¬ ((k:Int)=0):=by omega
 have hq3:=K1 (show q≤n by rw [hq];exact Nat.div_le_self _ _)
 clear hq hr hm
 have fin:∀ x:Int,x=r∨x=i→wrap64 (wrap64 ((i:Int)*wrap64 (q:Int))+x)=(m:Int)+x:=fun x hx=>by
  rw [IntWalk.wrap64_in (q:Int) (by have:=hq3.out;omega),e3,IntWalk.wrap64_in (m:Int) (by omega),IntWalk.wrap64_in _ (by omega)]
 have FIN:=K1 fin
 clear fin
 by_cases hir:(r:Int)<i
 · go_enter Tryz.func80,Tryz.ntmps80
   go_wp2_with fail
   go_quiet (fail)
   go_wp2
   go_ret
   exact ⟨ret_int (by rw [hb.out,FIN.out _ (.inl rfl)];omega),_,rfl⟩
 · go_enter Tryz.func80,Tryz.ntmps80
   go_wp2_with fail
   go_quiet (fail)
   go_wp2
   go_ret
   exact ⟨ret_int (by rw [hb.out,FIN.out _ (.inr rfl)];omega),_,rfl⟩
set_option maxRecDepth 100000 in
theorem even_any (n k:Nat) (w:World) (hn:n≤1048576) (hk:1≤k∧k≤1000) :
  Calls Tryz.prog 42 #[.int .i64 n,.int .i64 k] w fun e w'=>∃ v,e=.returned v∧OwnR w' w.heap.size v (evenL n k)∧Below w.heap.size w w':=by
 obtain ⟨i0,hi,hz0,hz1,hz2⟩:=info_parts infoPR
 have HI:=K1 (And.intro hi (And.intro hz0 (And.intro hz1 hz2)))
 have hN:=newAtP w (.cells #[.int .i64 n] 3) rfl
 have HN:=K1 (blk_alloc hN (.cells #[.int .i64 k] 3))
 have HK:=K1 (newAtP (w.alloc (.cells #[.int .i64 n] 3)) (.cells #[.int .i64 k] 3) (g:=w.heap.size+1) (by simp))
 have HB:=K1 (((Below.refl w.heap.size w).alloc (Nat.le_refl _) (.cells #[.int .i64 n] 3)).alloc (by simp) (.cells #[.int .i64 k] 3))
 clear hi hz0 hz1 hz2 hN
 go_enter Tryz.func42,Tryz.ntmps42
 go_wp2_with fail
 go_loopw [6,16] (fun v i wr=>∃ j:Nat,i=.int .i64 j∧j≤k∧Hid (OwnR wr (w.heap.size+2) v ((List.range j).map fun i=>(bnd n k i,bnd n k (i+1))))∧Hid (Below (w.heap.size+2) ((w.alloc (.cells #[.int .i64 n] 3)).alloc (.cells #[.int .i64 k] 3)) wr)) (fun _ i _=>k-(intOf i).toNat)
 case atStart=>exact ⟨0,rfl,Nat.zero_le _,K1 (OwnR.nil_ _ _),K1 (Below.refl _ _)⟩
 case round =>
  obtain ⟨j,rfl,hj,HO,HW⟩:=hrel
  by_cases hlt:j<k
  · have HN2:=K1 (blk_below HN.out HW.out (by omega))
    have HK2:=K1 (blk_below HK.out HW.out (by omega))
    have C1:=K1 (bound_any w.heap.size (w.heap.size+1) n k j wr (blk_cell HN2.out 0) (blk_cell HK2.out 0) (by omega) hn hj)
    go_wp2_with fail
    (with_reducible refine C1.out.mono ?_)
    rintro e w1 ⟨rfl,q1,rfl⟩
    have C2:=bound_any w.heap.size (w.heap.size+1) n k (j+1) (wr.drewN q1) (blk_cell (blk_drewN HN2.out q1) 0) (blk_cell (blk_drewN HK2.out q1) 0) (by omega) hn (by omega)
    rw [show ((j+1:Nat):Int)=(j:Int)+1 by omega] at C2
    have H2:=K1 C2
    clear C2 C1
    go_wp2_with fail
    (with_reducible refine H2.out.mono ?_)
    rintro e w1 ⟨rfl,q2,rfl⟩
    obtain ⟨x,hx⟩:∃ x,x=bnd n k j:=⟨_,rfl⟩
    obtain ⟨y,hy⟩:∃ y,y=bnd n k (j+1):=⟨_,rfl⟩
    rw [← hx,← hy]
    have HXY:=K1 (And.intro hx hy)
    have HB2:=K1 (below_drewN (below_drewN HW.out q1) q2)
    have HO2:Hid (OwnR ((wr.drewN q1).drewN q2) (w.heap.size+2) u6 ((List.range j).map fun i=>(bnd n k i,bnd n k (i+1)))):=K1 HO.out
    generalize (wr.drewN q1).drewN q2=w2 at *
    have HW2:=K1 (HO2.out.alloc (.cells #[.int .i64 x,.int .i64 y] 47))
    have HN3:=K1 (newAtP w2 (.cells #[.int .i64 x,.int .i64 y] 47) rfl)
    have HB3:=K1 (HB2.out.alloc (by have:=HB2.out.size;simp at this;omega) (.cells #[.int .i64 x,.int .i64 y] 47))
    have HS:=K1 HB2.out.size
    clear hx hy H2 HN2 HK2 HO HW HB2
    go_wp2_with (at_builtin;refine wpList_append_own _ rfl _ _ 44 rfl (w.heap.size+2) 47 i0 (.agg #[.int .i64 0,.int .i64 0]) 2 16 Tryz.underlying44 HI.out.1 HI.out.2.1 HI.out.2.2.1 HI.out.2.2.2 rfl (by decide) _ _ _ rfl HW2.out ⟨w2.heap.size,0,none⟩ 1 1 [.int .i64 x,.int .i64 y] rfl rfl ?c1 ?c2 ?c3 ?c4 ?c5 ?_)
    case c1 =>
     intro j u hj
     rw [add_none,Nat.zero_add,blk_cell HN3.out]
     simpa using hj
    case c2=>intro u hu;simp at hu;rcases hu with rfl | rfl <;> rfl
    case c3=>simp [maxLen];omega
    case c4=>simp;omega
    case c5=>have:=HS.out;simp at this;simp;omega
    intro v' w3 hown' hgrow _
    have HB4:=K1 (below_own HB3.out (by simp) (Nat.le_refl _) HW2.out hgrow)
    have hO4:=OwnR.snoc hown' (by simp)
    rw [HXY.out.1,HXY.out.2] at hO4
    have HO4:=K1 (show OwnR w3 (w.heap.size+2) v' ((List.range (j+1)).map fun i=>(bnd n k i,bnd n k (i+1))) by
     rw [List.range_succ,List.map_append]
     exact hO4)
    clear hO4
    clear hown' hgrow HW2 HN3 HB3 HXY
    go_wp2_with fail
    go_roundw
    case rel=>exact ⟨j+1,by go_num,by omega,HO4,HB4⟩
    case measure=>simp [intOf];omega
  · have hjk:j=k:=by omega
    subst hjk
    have hO:OwnR wr (w.heap.size+2) u6 (evenL n j):=HO.out
    have hB:Below w.heap.size w wr:=HB.out.trans (HW.out.mono (by omega))
    have H1:=K1 (And.intro hO hB)
    clear hO hB HO HW
    go_wp2_with fail
    go_ret
    exact ⟨_,rfl,own_from (Nat.le_add_right _ 2) H1.out.1,H1.out.2⟩
set_option maxRecDepth 100000 in
theorem pblocks_any (n s:Nat) (w:World) (hn:n≤1048576) (hs:1≤s∧s≤1048576) :
  Calls Tryz.prog 39 #[.int .i64 n,.int .i64 s] w fun e w'=>∃ v,e=.returned v∧OwnR w' w.heap.size v (blocksL n s)∧Below w.heap.size w w':=by
 obtain ⟨i0,hi,hz0,hz1,hz2⟩:=info_parts infoPR
 have HI:=K1 (And.intro hi (And.intro hz0 (And.intro hz1 hz2)))
 have C0:=K1 (pcount_any n s w hn hs)
 have HC:=K1 (pcnt_le n s)
 have HCL:=K1 (fun i=>pcnt_lt (n:=n) (i:=i) hs.1)
 obtain ⟨c,hc⟩:∃ c,c=pcnt n s:=⟨_,rfl⟩
 rw [← hc] at C0 HC HCL
 have HCC:=K1 hc
 clear hi hz0 hz1 hz2 hc
 go_enter Tryz.func39,Tryz.ntmps39
 go_wp2_with fail
 (with_reducible refine C0.out.mono ?_)
 rintro e w1 ⟨rfl,rfl⟩
 go_wp2_with fail
 go_loopw [5,11] (fun v i wr=>∃ j:Nat,i=.int .i64 j∧j≤c∧Hid (OwnR wr w.heap.size v ((List.range j).map (blk1 n s)))∧Hid (Below w.heap.size w wr)) (fun _ i _=>c-(intOf i).toNat)
 case atStart=>exact ⟨0,rfl,Nat.zero_le _,K1 (OwnR.nil_ _ _),K1 (Below.refl _ _)⟩
 case round =>
  obtain ⟨j,rfl,hj,HO,HW⟩:=hrel
  have hcn:c≤1048576:=by have:=HC.out;omega
  by_cases hlt:j<c
  · have hl:=HCL.out j hlt
    obtain ⟨x,hx⟩:∃ x,x=j*s:=⟨_,rfl⟩
    have e1:(j:Int)*(s:Int)=(x:Int):=by rw [hx];simp
    rw [← hx] at hl
    have HX:=K1 hx
    obtain ⟨y,hy⟩:∃ y,y=x+min s (n-x):=⟨_,rfl⟩
    have HXY:=K1 (show blk1 n s j=(x,y) by unfold blk1;rw [← hx,← hy])
    have hyn:y≤n:=by omega
    have HW2:=K1 (HO.out.alloc (.cells #[.int .i64 x,.int .i64 y] 47))
    have HN3:=K1 (newAtP wr (.cells #[.int .i64 x,.int .i64 y] 47) rfl)
    have HB3:=K1 (HW.out.alloc HW.out.size (.cells #[.int .i64 x,.int .i64 y] 47))
    have HS:=K1 HW.out.size
    clear hx HO HW
    by_cases hsn:(s:Int)≤(n:Int)-x
    · have e2:(x:Int)+s=y:=by omega
      clear hy
      go_wp2_with (at_builtin;refine wpList_append_own _ rfl _ _ 44 rfl w.heap.size 47 i0 (.agg #[.int .i64 0,.int .i64 0]) 2 16 Tryz.underlying44 HI.out.1 HI.out.2.1 HI.out.2.2.1 HI.out.2.2.2 rfl (by decide) _ _ _ rfl HW2.out ⟨wr.heap.size,0,none⟩ 1 1 [.int .i64 x,.int .i64 y] rfl rfl ?c1 ?c2 ?c3 ?c4 ?c5 ?_)
      case c1 =>
       intro j u hj
       rw [add_none,Nat.zero_add,blk_cell HN3.out]
       simpa using hj
      case c2=>intro u hu;simp at hu;rcases hu with rfl | rfl <;> rfl
      case c3=>simp [maxLen];omega
      case c4=>simp;omega
      case c5=>have:=HS.out;simp;omega
      intro v' w3 hown' hgrow _
      have HB4:=K1 (below_own HB3.out (Nat.le_refl _) (Nat.le_refl _) HW2.out hgrow)
      have hO4:=OwnR.snoc hown' (by simp)
      rw [← HXY.out,← blocks_snoc] at hO4
      have HO4:=K1 hO4
      clear hO4 hown' hgrow HW2 HN3 HB3 HXY
      go_wp2_with fail
      go_roundw
      case rel=>exact ⟨j+1,by go_num,by omega,HO4,HB4⟩
      case measure=>simp [intOf];omega
    · replace hsn:(n:Int)-x<s:=by omega
      have e2:(x:Int)+((n:Int)-x)=y:=by omega
      clear hy
      go_wp2_with (at_builtin;refine wpList_append_own _ rfl _ _ 44 rfl w.heap.size 47 i0 (.agg #[.int .i64 0,.int .i64 0]) 2 16 Tryz.underlying44 HI.out.1 HI.out.2.1 HI.out.2.2.1 HI.out.2.2.2 rfl (by decide) _ _ _ rfl HW2.out ⟨wr.heap.size,0,none⟩ 1 1 [.int .i64 x,.int .i64 y] rfl rfl ?d1 ?d2 ?d3 ?d4 ?d5 ?_)
      case d1 =>
       intro j u hj
       rw [add_none,Nat.zero_add,blk_cell HN3.out]
       simpa using hj
      case d2=>intro u hu;simp at hu;rcases hu with rfl | rfl <;> rfl
      case d3=>simp [maxLen];omega
      case d4=>simp;omega
      case d5=>have:=HS.out;simp;omega
      intro v' w3 hown' hgrow _
      have HB4:=K1 (below_own HB3.out (Nat.le_refl _) (Nat.le_refl _) HW2.out hgrow)
      have hO4:=OwnR.snoc hown' (by simp)
      rw [← HXY.out,← blocks_snoc] at hO4
      have HO4:=K1 hO4
      clear hO4 hown' hgrow HW2 HN3 HB3 HXY
      go_wp2_with fail
      go_roundw
      case rel=>exact ⟨j+1,by go_num,by omega,HO4,HB4⟩
      case measure=>simp [intOf];omega
  · have hjc:j=c:=by omega
    subst hjc
    have hO:OwnR wr w.heap.size u5 (blocksL n s):=by have:=HO.out;rw [HCC.out] at this;exact this
    have H1:=K1 (And.intro hO HW.out)
    clear hO HO HW
    go_wp2_with fail
    go_ret
    exact ⟨_,rfl,H1.out.1,H1.out.2⟩
end Go.Proofs.YtdpojpcoghcieaaGreat
namespace Go.Proofs.YtdpojpcoghcieaaGreat
open Lib renaming hid → K1
open Go.RowKit Go.Shelf
attribute [local go_sem] Oper.semAt_some
def shiftL (by_:Nat) (l:List (Nat × Nat)):List (Nat × Nat):=l.map fun p=>(p.1+by_,p.2+by_)
theorem shift_len (by_:Nat) (l:List (Nat × Nat)):(shiftL by_ l).length=l.length:=by simp [shiftL]
theorem run_store_fn (P:Program) (w:World) (a:Addr) (m:Mode) (f:Fn) (x y:Array Value):(store a (.func f x y) m).run P w=stored P w a (.func f x y) m:=run_store P w a _ m rfl
attribute [local go_sem] run_store_fn
theorem later_any (A:Option Addr) (n cap by_:Nat) (w:World) :
  Calls Tryz.prog 41 #[.slice A n cap,.int .i64 by_] w fun e w'=>e=.returned (.func (.func 79) #[] #[.pointer (some ⟨w.heap.size,0,none⟩),.pointer (some ⟨w.heap.size+2,0,none⟩)])∧∃ t,w'=(((w.alloc (.cells #[.slice A n cap] 44)).alloc (.cells #[.int .i64 by_] 3)).alloc (.cells #[.func (.func 78) #[] #[.pointer (some ⟨w.heap.size+1,0,none⟩)]] t)):=by
 go_enter Tryz.func41,Tryz.ntmps41
 go_wp2
 go_ret
 exact ⟨rfl,_,rfl⟩
theorem shift_any (x y by_ Bb:Nat) (w:World) (hb:w.cell? ⟨Bb,0,none⟩=some (.int .i64 by_)) (hx:x≤1048576) (hy:y≤1048576) (h:by_≤1048576) :
  Calls Tryz.prog 78 #[.agg #[.int .i64 x,.int .i64 y],.pointer (some ⟨Bb,0,none⟩)] w fun e w'=>e=.returned (.agg #[.int .i64 (x+by_:Nat),.int .i64 (y+by_:Nat)])∧Below w.heap.size w w':=by
 obtain ⟨u,hu⟩:∃ u,u=x+by_:=⟨_,rfl⟩
 obtain ⟨v,hv⟩:∃ v,v=y+by_:=⟨_,rfl⟩
 have e1:(x:Int)+by_=u:=by omega
 have e2:(y:Int)+by_=v:=by omega
 rw [← hu,← hv]
 have hlt:=World.block_lt_of_cell? w _ hb
 have hul:u≤2097152:=by omega
 have hvl:v≤2097152:=by omega
 clear hu hv
 go_enter Tryz.func78,Tryz.ntmps78
 go_wp2
 have k1:=heap_alloc_new (w.alloc (.cells #[.int .i64 x,.int .i64 y] 47)) (.cells #[.int .i64 u,.int .i64 v] 47)
 rw [World.size_alloc] at k1
 have c0:=blk_cell k1 0
 have c1:=blk_cell k1 1
 refine bodyPost_ret (v:=.agg #[.int .i64 u,.int .i64 v]) ?_ rfl ⟨rfl,((Below.refl _ _).alloc (Nat.le_refl _) _).alloc (by simp) _⟩
 simp [results,Tryz.results78,go_sem,c0,c1]
structure LaterAt (W:World) (Bl Bs Bb:Nat) (A:Option Addr) (rs:List (Nat × Nat)) (cap by_:Nat):Prop where
 l:W.cell? ⟨Bl,0,none⟩=some (.slice A rs.length cap)
 s:W.cell? ⟨Bs,0,none⟩=some (.func (.func 78) #[] #[.pointer (some ⟨Bb,0,none⟩)])
 b:W.cell? ⟨Bb,0,none⟩=some (.int .i64 by_)
 r:RdR W W.heap.size A rs
theorem LaterAt.below {W W':World} {Bl Bs Bb:Nat} {A:Option Addr} {rs:List (Nat × Nat)} {cap by_:Nat} (h:LaterAt W Bl Bs Bb A rs cap by_) (hb:Below W.heap.size W W'):LaterAt W' Bl Bs Bb A rs cap by_ :=
 ⟨(hb.cell (p:=⟨Bl,0,none⟩) (World.block_lt_of_cell? W _ h.l)).trans h.l,(hb.cell (p:=⟨Bs,0,none⟩) (World.block_lt_of_cell? W _ h.s)).trans h.s,(hb.cell (p:=⟨Bb,0,none⟩) (World.block_lt_of_cell? W _ h.b)).trans h.b,(h.r.below hb).more hb.size⟩
set_option maxRecDepth 100000 in
theorem later2_in (n l Bl Bs Bb cap by_:Nat) (A:Option Addr) (rs:List (Nat × Nat)) (hm:rs.length≤1048576) (hr:∀ p∈rs,p.1≤1048576∧p.2≤1048576) (hby:by_≤1048576) (J:List (Nat × Nat)→World→Prop)
  (hE:∀ pre W,J pre W→LaterAt W Bl Bs Bb A rs cap by_) (hJ:∀ pre W W',J pre W→Below W.heap.size W W'→J pre W')
  (hY:∀ (pre:List (Nat × Nat)) (x y:Nat) (W:World),J pre W→pre.length<rs.length→(shiftL by_ rs)[pre.length]?=some (x,y)→YieldAt Fence.wide (n-1) Tryz.prog l #[.agg #[.int .i64 x,.int .i64 y]] W fun e W'=>e=.returned (.bool true)∧J (pre++[(x,y)]) W')
  (W:World) (h0:J [] W):CallsIn Fence.wide n Tryz.prog 79 #[.func (.yield l) #[] #[],.pointer (some ⟨Bl,0,none⟩),.pointer (some ⟨Bs,0,none⟩)] W fun e W'=>(∃ v,e=.returned v)∧J (shiftL by_ rs) W':=by
 have HE:=K1 hE
 have HJ:=K1 hJ
 have HY:=K1 hY
 have HR:=K1 hr
 have E0:=hE _ _ h0
 have c1:=E0.l
 clear hE hJ hY hr E0
 refine callsIn_of_wp Tryz.func79 rfl trivial ?_ rfl
 simp only [Tryz.ntmps79,List.size_toArray,List.length_cons,List.length_nil,Nat.reduceAdd,Nat.reduceSub,Array.replicate_succ,Array.replicate_zero,List.push_toArray,List.append_toArray,List.nil_append,List.cons_append]
 gi_wp2_with fail
 gi_loopw [8] (fun i wr=>∃ k:Nat,k≤rs.length∧i=.int .i64 k∧Hid (J (shiftL by_ (rs.take k)) wr)) (fun i _=>rs.length-(intOf i).toNat)
 case atStart=>exact ⟨0,Nat.zero_le _,rfl,K1 h0⟩
 case round =>
  clear c1 h0
  obtain ⟨k,hk,rfl,HS⟩:=hrel
  by_cases hlt:k<rs.length
  · have E1:=HE.out _ _ HS.out
    obtain ⟨b,off,rfl,hb,hc⟩:=E1.r.at_ (by omega)
    obtain ⟨p,hp⟩:=get_some rs k hlt
    obtain ⟨x,y⟩:=p
    have d1:=(hc k _ hp).1
    have d2:=(hc k _ hp).2
    have HP:=K1 hp
    have hxy:=HR.out _ (List.mem_of_getElem? hp)
    have HXY:=K1 hxy
    have hba:Below wr.heap.size wr (wr.alloc (.cells #[.int .i64 x,.int .i64 y] 47)):=(Below.refl _ _).alloc (Nat.le_refl _) _
    have E2:=E1.below hba
    have J2:=HJ.out _ _ _ HS.out hba
    have HJ2:=K1 J2
    have c2:=E2.s
    have C3:=K1 (shift_any x y by_ Bb _ E2.b hxy.1 hxy.2 hby)
    clear E1 hc hp hxy hba E2 J2
    dsimp only at d1 d2
    gi_wp2_with fail
    refine ⟨trivial,fun h=>(by cases h),(callsIn_wide.2 C3.out).mono ?_⟩
    rintro e' w3 ⟨rfl,hb3⟩
    obtain ⟨u,hu⟩:∃ u,u=x+by_:=⟨_,rfl⟩
    obtain ⟨v,hv⟩:∃ v,v=y+by_:=⟨_,rfl⟩
    rw [← hu,← hv]
    have J3:=HJ.out _ _ _ HJ2.out hb3
    have HSH:=K1 (show shiftL by_ (rs.take k)++[(u,v)]=shiftL by_ (rs.take (k+1)) by
     rw [List.take_add_one,HP.out,hu,hv]
     simp [shiftL])
    obtain ⟨fn,tmps,assign,body,hy,hR⟩:=HY.out _ u v w3 J3 (by rw [shift_len,List.length_take];omega) (by
     rw [shift_len,List.length_take,Nat.min_eq_left (by omega),shiftL,List.getElem?_map,HP.out,hu,hv]
     rfl)
    clear hu hv J3 hb3 HJ2 c2 d1 d2 C3
    gi_wp2_with fail
    refine ⟨fun h=>(by cases h),hR.mono ?_⟩
    rintro e' w4 ⟨rfl,hJ4⟩
    rw [HSH.out] at hJ4
    have H4:=K1 hJ4
    clear hJ4 hy hR HSH
    gi_wp2_with fail
    go_roundw
    case rel=>exact ⟨k+1,by omega,by go_num,H4⟩
    case measure=>simp [intOf];omega
  · have H4:=K1 (show J (shiftL by_ rs) wr by have h:=HS.out;rw [show rs.take k=rs from List.take_of_length_le (by omega)] at h;exact h)
    clear HS
    gi_wp2_with fail
    go_end0
    exact ⟨⟨_,rfl⟩,H4.out⟩
end Go.Proofs.YtdpojpcoghcieaaGreat
