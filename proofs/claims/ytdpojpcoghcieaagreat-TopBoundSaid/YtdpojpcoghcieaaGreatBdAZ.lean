/- A part of the proof of TopBound: Fixp, Sum, Vec. Conditions: none. -/
import Derived.Laws.Bits64b
import Derived.Test.YtdpojpcoghcieaaGreatBdAY
set_option maxHeartbeats 8000000
namespace Go.Proofs.YtdpojpcoghcieaaGreat
open Lib renaming hid → K1
open Go.RowKit
def mulF (a b:Int) (q:Nat):Int:=wrap64 (a*b / (2:Int) ^ q)
set_option maxRecDepth 100000 in
theorem sub_any (w:World) (a b:Int) :
  Calls Tryz.prog 233 #[.int .i64 a,.int .i64 b] w fun e w'=>e=.returned (.int .i64 (wrap64 (a-b)))∧w=w':=by
 go_enter Tryz.func233,Tryz.ntmps233
 go_wp2
 go_ret
 exact ⟨rfl,rfl⟩
set_option maxRecDepth 100000 in
theorem relu_any (w:World) (a:Int) :
  Calls Tryz.prog 243 #[.int .i64 a] w fun e w'=>e=.returned (.int .i64 (max a 0))∧w=w':=by
 go_enter Tryz.func243,Tryz.ntmps243
 go_wp2
 all_goals
  go_ret
  refine ⟨?_,rfl⟩
  simp
  try omega
set_option maxRecDepth 100000 in
theorem gate_any (w:World) (a g:Int) :
  Calls Tryz.prog 227 #[.int .i64 a,.int .i64 g] w fun e w'=>e=.returned (.int .i64 (if a≤0 then 0 else g))∧w=w':=by
 by_cases h:a≤0
 all_goals
  go_enter Tryz.func227,Tryz.ntmps227
  go_wp2
  go_ret
  refine ⟨?_,rfl⟩
  simp
theorem wrap64_more (x k:Int):wrap64 (x+18446744073709551616*k)=wrap64 x:=by unfold wrap64;omega
theorem u64_wrap (x:Int):IntKind.u64.wrap x=x % 18446744073709551616:=by simp [IntKind.wrap,IntKind.bits,IntKind.signed]
theorem shift_plain (hi:Int) (lo q:Nat) (hq:q≤62) (hl:lo<18446744073709551616) :
  wrap64 (bits BinOp.or IntKind.u64 (IntKind.u64.wrap (IntKind.u64.wrap hi*2 ^ (64-q))) (↑lo / 2 ^ q))=wrap64 ((hi*18446744073709551616+lo) / (2:Int) ^ q):=by
 obtain ⟨h,hh⟩:∃ h:Nat,(h:Int)=hi % 18446744073709551616:=⟨(hi % 18446744073709551616).toNat,by omega⟩
 obtain ⟨z,hz⟩:∃ z:Int,hi=h+18446744073709551616*z:=⟨hi / 18446744073709551616,by omega⟩
 have hlt:h<18446744073709551616:=by omega
 rw [u64_wrap hi,← hh,u64_wrap]
 obtain ⟨s,hs⟩:∃ s,s=64-q:=⟨_,rfl⟩
 have e64:2 ^ q*2 ^ s=18446744073709551616:=by rw [← Nat.pow_add,show q+s=64 by omega]
 rw [← hs]
 have hq0:0<2 ^ q:=Nat.two_pow_pos q
 have hs0:0<2 ^ s:=Nat.two_pow_pos s
 have eq2:(2:Int) ^ q=((2 ^ q:Nat):Int):=by simp
 have es2:(2:Int) ^ s=((2 ^ s:Nat):Int):=by simp
 rw [eq2,es2]
 have e1:((h:Int)*((2 ^ s:Nat):Int)) % 18446744073709551616=((h % 2 ^ q*2 ^ s:Nat):Int):=by
  rw [← Int.natCast_mul,show (18446744073709551616:Int)=((2 ^ q*2 ^ s:Nat):Int) by rw [e64];rfl,← Int.natCast_emod,Nat.mul_mod_mul_right]
 have e2:(lo:Int) / ((2 ^ q:Nat):Int)=((lo / 2 ^ q:Nat):Int):=(Int.natCast_ediv _ _).symm
 rw [e1,e2]
 have hb:lo / 2 ^ q<2 ^ s:=Nat.div_lt_of_lt_mul (by rw [e64];exact hl)
 have ha:h % 2 ^ q*2 ^ s+2 ^ s≤18446744073709551616:=by
  have:=Nat.mul_le_mul_right (2 ^ s) (Nat.mod_lt h hq0)
  rw [Nat.succ_mul,e64] at this
  exact this
 rw [bits_or_u64_nat _ _ (by omega) (by omega)]
 have e3:h % 2 ^ q*2 ^ s ||| lo / 2 ^ q=h % 2 ^ q*2 ^ s+lo / 2 ^ q:=by
  have:=Nat.shiftLeft_add_eq_or_of_lt hb (h % 2 ^ q)
  rw [Nat.shiftLeft_eq] at this
  exact this.symm
 rw [e3]
 have e4:(hi*18446744073709551616+(lo:Int)) / ((2 ^ q:Nat):Int)=hi*((2 ^ s:Nat):Int)+((lo / 2 ^ q:Nat):Int):=by
  rw [show (18446744073709551616:Int)=((2 ^ s:Nat):Int)*((2 ^ q:Nat):Int) by rw [← Int.natCast_mul,Nat.mul_comm,e64];rfl,← Int.mul_assoc,Int.add_comm,Int.add_mul_ediv_right _ _ (by omega),Int.add_comm,e2]
 rw [e4]
 have e5:hi*((2 ^ s:Nat):Int)=((h % 2 ^ q*2 ^ s:Nat):Int)+18446744073709551616*(((h / 2 ^ q:Nat):Int)+z*((2 ^ s:Nat):Int)):=by
  have hd:=Nat.div_add_mod h (2 ^ q)
  have e6:((2 ^ q:Nat):Int)*((2 ^ s:Nat):Int)=18446744073709551616:=by rw [← Int.natCast_mul,e64];rfl
  have hd2:(h:Int)=((2 ^ q:Nat):Int)*((h / 2 ^ q:Nat):Int)+((h % 2 ^ q:Nat):Int):=by rw [← Int.natCast_mul,← Int.natCast_add,hd]
  rw [hz,hd2,Int.natCast_mul]
  generalize ((2 ^ q:Nat):Int)=Q at *
  generalize ((2 ^ s:Nat):Int)=S at *
  generalize ((h / 2 ^ q:Nat):Int)=D at *
  generalize ((h % 2 ^ q:Nat):Int)=M at *
  rw [← e6]
  simp only [Int.add_mul,Int.mul_add]
  have:Q*D*S=Q*S*D:=by rw [Int.mul_assoc,Int.mul_comm D,Int.mul_assoc]
  rw [this]
  have h2:Q*S*z*S=Q*S*(z*S):=by rw [Int.mul_assoc]
  rw [h2]
  omega
 rw [e5,Int.natCast_add]
 have:((h % 2 ^ q*2 ^ s:Nat):Int)+18446744073709551616*(((h / 2 ^ q:Nat):Int)+z*((2 ^ s:Nat):Int))+((lo / 2 ^ q:Nat):Int)=(((h % 2 ^ q*2 ^ s:Nat):Int)+((lo / 2 ^ q:Nat):Int))+18446744073709551616*(((h / 2 ^ q:Nat):Int)+z*((2 ^ s:Nat):Int)):=by omega
 rw [this,wrap64_more]
set_option maxRecDepth 100000 in
theorem fshift_any (w:World) (hi:Int) (lo q:Nat) (hq:q≤62)  (hl:lo<18446744073709551616) :
  Calls Tryz.prog 247 #[.int .i64 hi,.int .u64 lo,.int .i64 q] w fun e w'=>e=.returned (.int .i64 (wrap64 ((hi*18446744073709551616+lo) / (2:Int) ^ q)))∧Below w.heap.size w w':=by
 go_enter Tryz.func247,Tryz.ntmps247
 go_wp2
 go_region
 go_wp2
 go_ret
 exact ⟨by simp [shift_plain hi lo q hq hl],below_drew (Below.refl _ _)⟩
def negH (a b v:Int):Int:=if a<0 then wrap64 (v-b) else v
def prodH (a b h:Int):Nat→Int
 | 0=>wrap64 h
 | 1=>negH a b (wrap64 h)
 | _=>negH b a (negH a b (wrap64 h))
theorem prodH_0 (a b h:Int):prodH a b h 0=wrap64 h:=by unfold prodH;rfl
theorem prodH_1 (a b h:Int):prodH a b h 1=negH a b (prodH a b h 0):=by unfold prodH;rfl
theorem prodH_2 (a b h:Int):prodH a b h 2=negH b a (prodH a b h 1):=by unfold prodH;rfl
theorem abs_le63 (a:Int) (ha:-9223372036854775808≤a∧a≤9223372036854775807):a.natAbs≤9223372036854775808:=by omega
theorem mul_bound (a b:Int) (ha:-9223372036854775808≤a∧a≤9223372036854775807) (hb:-9223372036854775808≤b∧b≤9223372036854775807) :
  -85070591730234615865843651857942052864≤a*b∧a*b≤85070591730234615865843651857942052864:=by
 have h:=Nat.mul_le_mul (abs_le63 a ha) (abs_le63 b hb)
 rw [← Int.natAbs_mul] at h
 omega
theorem wrap64_sub_wrap (v b:Int):wrap64 (wrap64 v-b)=wrap64 (v-b):=by unfold wrap64;omega
theorem wrap64_self (v:Int) (h:-9223372036854775808≤v∧v≤9223372036854775807):wrap64 v=v:=by unfold wrap64;omega
theorem wrap64_sub2 (v b a:Int):wrap64 (wrap64 v-b-a)=wrap64 (v-b-a):=by unfold wrap64;omega
theorem prod_plain (a b:Int) (x y h l:Nat) (ha:-9223372036854775808≤a∧a≤9223372036854775807) (hb:-9223372036854775808≤b∧b≤9223372036854775807)
  (hx:h=x*y / 18446744073709551616∧l=x*y % 18446744073709551616∧(x:Int)=a % 18446744073709551616∧(y:Int)=b % 18446744073709551616) :
  a*b=prodH a b h 2*18446744073709551616+l:=by
 obtain ⟨h1,h2,h3,h4⟩:=hx
 have h5:x*y=18446744073709551616*h+l:=by rw [h1,h2];exact (Nat.div_add_mod _ _).symm
 have h6:(x:Int)*y=18446744073709551616*h+l:=by rw [← Int.natCast_mul,h5];simp
 have hl:l<18446744073709551616:=by rw [h2];exact Nat.mod_lt _ (by omega)
 have hab:=mul_bound a b ha hb
 clear h1 h2 h5
 unfold prodH negH
 by_cases ca:a<0
 · have ex:(x:Int)=a+18446744073709551616:=by omega
   by_cases cb:b<0
   · have ey:(y:Int)=b+18446744073709551616:=by omega
     simp only [ca,cb,if_true]
     rw [wrap64_sub_wrap,wrap64_sub2]
     rw [ex,ey,Int.add_mul,Int.mul_add] at h6
     generalize a*b=p at *
     rw [show (h:Int)-b-a=((h:Int)-b-a-18446744073709551616)+18446744073709551616*1 by omega,wrap64_more,wrap64_self _ (by omega)]
     omega
   · have ey:(y:Int)=b:=by omega
     simp only [ca,cb,if_true,if_false]
     rw [wrap64_sub_wrap]
     rw [ex,ey,Int.add_mul] at h6
     generalize a*b=p at *
     rw [wrap64_self _ (by omega)]
     omega
 · have ex:(x:Int)=a:=by omega
   by_cases cb:b<0
   · have ey:(y:Int)=b+18446744073709551616:=by omega
     simp only [ca,cb,if_true,if_false]
     rw [wrap64_sub_wrap]
     rw [ex,ey,Int.mul_add] at h6
     generalize a*b=p at *
     rw [wrap64_self _ (by omega)]
     omega
   · have ey:(y:Int)=b:=by omega
     simp only [ca,cb,if_false]
     rw [ex,ey] at h6
     generalize a*b=p at *
     rw [wrap64_self _ (by omega)]
     omega
theorem ixp_0 (a b:Int) (W:World):(Instr.index 373 (.agg #[.int .i64 a,.int .i64 b,.int .i64 b,.int .i64 a]) (.int .i64 0)).run Tryz.prog W=.ok (.agg #[.int .i64 a,.int .i64 b]) W:=by kernel_rfl
theorem ixp_1 (a b:Int) (W:World):(Instr.index 373 (.agg #[.int .i64 a,.int .i64 b,.int .i64 b,.int .i64 a]) (.int .i64 1)).run Tryz.prog W=.ok (.agg #[.int .i64 b,.int .i64 a]) W:=by kernel_rfl
set_option maxRecDepth 100000 in
theorem product_any (w:World) (a b:Int) (ha:-9223372036854775808≤a∧a≤9223372036854775807) (hb:-9223372036854775808≤b∧b≤9223372036854775807) :
  Calls Tryz.prog 246 #[.int .i64 a,.int .i64 b] w fun e w'=>(∃ (h:Int) (l:Nat),e=.returned (.tuple #[.int .i64 h,.int .u64 l])∧a*b=h*18446744073709551616+l∧l<18446744073709551616)∧Below w.heap.size w w':=by
 have i0:=ixp_0
 have i1:=ixp_1
 obtain ⟨x,hx⟩:∃ x:Nat,(x:Int)=a % 18446744073709551616:=⟨(a % 18446744073709551616).toNat,by omega⟩
 obtain ⟨y,hy⟩:∃ y:Nat,(y:Int)=b % 18446744073709551616:=⟨(b % 18446744073709551616).toNat,by omega⟩
 have CM:=K1 (Tryz.bits_Mul64 x y (by omega) (by omega))
 obtain ⟨h,hh⟩:∃ h,h=x*y / 18446744073709551616:=⟨_,rfl⟩
 obtain ⟨l,hl⟩:∃ l,l=x*y % 18446744073709551616:=⟨_,rfl⟩
 rw [← hh,← hl] at CM
 have ux:IntKind.u64.wrap a=(x:Int):=by rw [u64_wrap,hx]
 have uy:IntKind.u64.wrap b=(y:Int):=by rw [u64_wrap,hy]
 have HX:=K1 (And.intro hh (And.intro hl (And.intro hx hy)))
 clear hh hl hx hy
 go_enter Tryz.func246,Tryz.ntmps246
 go_wp2_with fail
 (with_reducible refine (CM.out _).mono ?_)
 rintro e w1 ⟨rfl,rfl⟩
 go_wp2_with fail
 go_loopw [4,26] (fun v i wr=>∃ j:Nat,i=.int .i64 j∧j≤2∧v=.int .i64 (prodH a b h j)∧Hid (Below w1.heap.size w1 wr)) (fun _ i _=>2-(intOf i).toNat)
 case atStart=>exact ⟨0,rfl,by omega,congrArg (Value.int .i64) (prodH_0 a b h).symm,K1 (Below.refl _ _)⟩
 case round =>
  obtain ⟨j,rfl,hj,rfl,HB⟩:=hrel
  have hc:j=0∨j=1∨j=2:=by omega
  rcases hc with rfl | rfl | rfl
  · by_cases hs:a<0
    · as_aux_lemma =>
       go_wp2_with fail
       go_roundw
       case rel=>exact ⟨1,by go_num,by omega,by rw [prodH_1];simp [negH,hs],K1 (HB.out.alloc HB.out.size _)⟩
       case measure=>simp [intOf]
    · as_aux_lemma =>
       go_wp2_with fail
       go_roundw
       case rel=>exact ⟨1,by go_num,by omega,by rw [prodH_1];simp [negH,hs],K1 (HB.out.alloc HB.out.size _)⟩
       case measure=>simp [intOf]
  · by_cases hs:b<0
    · as_aux_lemma =>
       go_wp2_with fail
       go_roundw
       case rel=>exact ⟨2,by go_num,by omega,by rw [prodH_2];simp [negH,hs],K1 (HB.out.alloc HB.out.size _)⟩
       case measure=>simp [intOf]
    · as_aux_lemma =>
       go_wp2_with fail
       go_roundw
       case rel=>exact ⟨2,by go_num,by omega,by rw [prodH_2];simp [negH,hs],K1 (HB.out.alloc HB.out.size _)⟩
       case measure=>simp [intOf]
  · go_wp2_with fail
    go_ret2
    exact ⟨⟨_,l,rfl,prod_plain a b x y h l ha hb HX.out,by rw [HX.out.2.1];exact Nat.mod_lt _ (by omega)⟩,HB.out⟩
end Go.Proofs.YtdpojpcoghcieaaGreat
namespace Go.Proofs.YtdpojpcoghcieaaGreat
open Lib renaming hid → K1
open Go.RowKit Go.Shelf
attribute [local go_sem] Oper.semAt_some
set_option maxRecDepth 100000 in
theorem mul_any (w:World) (a b:Int) (q:Nat) (hq:q≤62) (ha:-9223372036854775808≤a∧a≤9223372036854775807) (hb:-9223372036854775808≤b∧b≤9223372036854775807) :
  Calls Tryz.prog 236 #[.int .i64 a,.int .i64 b,.int .i64 q] w fun e w'=>e=.returned (.int .i64 (mulF a b q))∧Below w.heap.size w w':=by
 have CP:=K1 (product_any w a b ha hb)
 unfold mulF
 generalize a*b=p at *
 go_enter Tryz.func236,Tryz.ntmps236
 go_wp2_with fail
 (with_reducible refine CP.out.mono ?_)
 rintro e w1 ⟨⟨h,l,rfl,rfl,hl⟩,hb1⟩
 have HB:=K1 hb1
 clear hb1 CP
 have CS:=K1 (fun W=>fshift_any W h l q hq hl)
 clear hl
 go_wp2_with fail
 (with_reducible refine (CS.out _).mono ?_)
 rintro e w2 ⟨rfl,hb2⟩
 have HB2:=K1 (HB.out.trans (hb2.mono HB.out.size))
 clear hb2 HB CS
 go_wp2_with fail
 go_ret
 exact ⟨rfl,HB2.out⟩
theorem values_any (A:Option Addr) (n cap:Nat) (w:World) :
  Calls Tryz.prog 249 #[.slice A n cap] w fun e w'=>e=.returned (.func (.func 252) #[] #[.pointer (some ⟨w.heap.size,0,none⟩)])∧w'=w.alloc (.cells #[.slice A n cap] 26):=by
 go_enter Tryz.func249,Tryz.ntmps249
 go_wp2
 go_ret
 exact ⟨rfl,rfl⟩
structure ValsAt (W:World) (Bv:Nat) (A:Option Addr) (zs:List Int) (cap:Nat):Prop where
 l:W.cell? ⟨Bv,0,none⟩=some (.slice A zs.length cap)
 r:RdI W W.heap.size A zs
theorem ValsAt.below {W W':World} {Bv:Nat} {A:Option Addr} {zs:List Int} {cap:Nat} (h:ValsAt W Bv A zs cap) (hb:Below W.heap.size W W'):ValsAt W' Bv A zs cap :=
 ⟨(hb.cell (p:=⟨Bv,0,none⟩) (World.block_lt_of_cell? W _ h.l)).trans h.l,(h.r.below hb).more hb.size⟩
set_option maxRecDepth 100000 in
theorem values1_in (n l Bv cap:Nat) (A:Option Addr) (zs:List Int) (hm:zs.length≤1048576) (J:List Int→World→Prop)
  (hE:∀ pre W,J pre W→ValsAt W Bv A zs cap)
  (hY:∀ (pre:List Int) (x:Int) (W:World),J pre W→pre.length<zs.length→zs[pre.length]?=some x→YieldAt Fence.wide (n-1) Tryz.prog l #[.int .i64 x] W fun e W'=>e=.returned (.bool true)∧J (pre++[x]) W')
  (W:World) (h0:J [] W):CallsIn Fence.wide n Tryz.prog 252 #[.func (.yield l) #[] #[],.pointer (some ⟨Bv,0,none⟩)] W fun e W'=>(∃ v,e=.returned v)∧J zs W':=by
 have HE:=K1 hE
 have HY:=K1 hY
 have E0:=hE _ _ h0
 have c1:=E0.l
 clear hE hY E0
 refine callsIn_of_wp Tryz.func252 rfl trivial ?_ rfl
 simp only [Tryz.ntmps252,List.size_toArray,List.length_cons,List.length_nil,Nat.reduceAdd,Nat.reduceSub,Array.replicate_succ,Array.replicate_zero,List.push_toArray,List.append_toArray,List.nil_append,List.cons_append]
 gi_wp2_with fail
 gi_loopw [7] (fun i wr=>∃ k:Nat,k≤zs.length∧i=.int .i64 k∧Hid (J (zs.take k) wr)) (fun i _=>zs.length-(intOf i).toNat)
 case atStart=>exact ⟨0,Nat.zero_le _,rfl,K1 h0⟩
 case round =>
  clear c1 h0
  obtain ⟨k,hk,rfl,HS⟩:=hrel
  by_cases hlt:k<zs.length
  · have E1:=HE.out _ _ HS.out
    obtain ⟨b,off,rfl,hb,hc⟩:=E1.r.at_ (by omega)
    obtain ⟨x,hp⟩:=get_some zs k hlt
    have d1:=hc k _ hp
    have HSH:=K1 (show zs.take k++[x]=zs.take (k+1) by rw [List.take_add_one,hp];rfl)
    obtain ⟨fn,tmps,assign,body,hy,hR⟩:=HY.out _ x wr HS.out (by rw [List.length_take];omega) (by
     rw [List.length_take,Nat.min_eq_left (by omega),hp])
    clear E1 hc hp
    gi_wp2_with fail
    refine ⟨fun h=>(by cases h),hR.mono ?_⟩
    rintro e' w4 ⟨rfl,hJ4⟩
    rw [HSH.out] at hJ4
    have H4:=K1 hJ4
    clear hJ4 hy hR HSH d1
    gi_wp2_with fail
    go_roundw
    case rel=>exact ⟨k+1,by omega,by go_num,H4⟩
    case measure=>simp [intOf];omega
  · have H4:=K1 (show J zs wr by have h:=HS.out;rw [show zs.take k=zs from List.take_of_length_le (by omega)] at h;exact h)
    clear HS
    gi_wp2_with fail
    go_end0
    exact ⟨⟨_,rfl⟩,H4.out⟩
def sumW (zs:List Int):Int:=zs.foldl (fun s x=>wrap64 (s+x)) 0
theorem sumW_snoc (zs:List Int) (x:Int):sumW (zs++[x])=wrap64 (sumW zs+x):=by simp [sumW]
structure Tot (w:World) (rec:LoopState→Option Code→Loop) (D l S:Nat) (s:Int) (W:World):Prop where
 rec_:W.heap[l]?=some (.loop (rec .ready none))
 dfr:W.heap[D]?=some (.deferred (some []))
 box:W.heap[S]?=some (.cells #[.int .i64 s] 2 (0,0))
 bel:Below w.heap.size w W
set_option maxRecDepth 100000 in
theorem total_any (Bv cap:Nat) (A:Option Addr) (zs:List Int) (hm:zs.length≤1048576) (w:World) (hl:ValsAt w Bv A zs cap) :
  Calls Tryz.prog 248 #[.func (.func 252) #[] #[.pointer (some ⟨Bv,0,none⟩)]] w fun e w'=>e=.returned (.int .i64 (sumW zs))∧Below w.heap.size w w':=by
 have HL:=K1 hl
 have HS:=K1 sumW_snoc
 clear hl
 refine (callsIn_wide (n:=5)).1 ?_
 refine callsIn_of_wp_marks Tryz.func248 rfl trivial ?_ rfl
 simp only [Tryz.ntmps248,List.size_toArray,List.length_cons,List.length_nil,Nat.reduceAdd,Nat.reduceSub,Array.replicate_succ,Array.replicate_zero,List.push_toArray,List.append_toArray,List.nil_append,List.cons_append]
 gi_wp2_with fail
 have hbox:=heap_alloc_new w (.cells #[.int .i64 0] 2)
 have hbel:Below w.heap.size w (w.alloc (.cells #[.int .i64 0] 2)):=(Below.refl _ _).alloc (Nat.le_refl _) _
 have hsz:(w.alloc (.cells #[.int .i64 0] 2)).heap.size=w.heap.size+1:=by simp
 have hat:=HL.out.below hbel
 have HX:=K1 (And.intro hbox (And.intro hbel (And.intro hsz hat)))
 clear hbox hbel hsz hat
 generalize w.alloc (.cells #[.int .i64 0] 2)=w0 at *
 refine wpIn_range_w rfl (fun _ _=>by go_simp) fun fn rec W1 hrec hl1 hd1 hb1=>?_
 have HJ:Hid (Tot w rec w0.heap.size (w0.heap.size+1) w.heap.size (sumW []) W1):=K1 ⟨hl1,hd1,blk_below HX.out.1 hb1 (blk_lt HX.out.1),HX.out.2.1.trans (hb1.mono HX.out.2.1.size)⟩
 refine (values1_in _ _ Bv cap A zs hm (fun pre=>Tot w rec w0.heap.size (w0.heap.size+1) w.heap.size (sumW pre)) (fun pre W h=>HL.out.below h.bel) (fun pre x W h hlt _=>?_) W1 HJ.out).mono ?_
 · have hy:=run_yield (P:=Tryz.prog) (args:=#[.int .i64 x]) h.rec_ (by rw [hrec];rfl)
   rw [hrec] at hy
   have HREC:=K1 hrec
   refine ⟨fn,_,_,_,hy,roundIn_of_wpIn trivial ?_⟩
   clear hy hrec
   have hsz:=h.bel.size
   have hW0:=HX.out.2.2.1
   have hbg:=run_beginRound (P:=Tryz.prog) h.rec_ (by rw [HREC.out])
   have ne1:w.heap.size≠w0.heap.size+1:=by omega
   have ne2:w0.heap.size≠w0.heap.size+1:=by omega
   have hrc2:=World.putObj_heap_same (o:=.loop { rec .ready none with state:=.busy }) (blk_lt h.rec_)
   have hdf2:=(World.putObj_heap_other (o:=.loop { rec .ready none with state:=.busy }) ne2).trans h.dfr
   have hbx2:=(World.putObj_heap_other (o:=.loop { rec .ready none with state:=.busy }) ne1).trans h.box
   have hbl2:=below_put (o':=.loop { rec .ready none with state:=.busy }) h.bel hsz (k:=w0.heap.size+1) (by omega)
   have H2:=K1 (And.intro hrc2 (And.intro hdf2 (And.intro hbx2 hbl2)))
   have HBG:=K1 hbg
   have c1:=blk_cell hbx2 0
   have f1:=blk_frozen hbx2 0
   have HW0:=K1 (And.intro hW0 (And.intro ne1 (And.intro ne2 hsz)))
   have HSX:=K1 (HS.out pre x)
   clear h hlt HJ hl1 hd1 hb1 hbg hrc2 hdf2 hbx2 hbl2 hW0 ne1 ne2 hsz
   generalize sumW (pre++[x])=s1 at *
   generalize sumW pre=s0 at *
   simp only [List.zip_toArray,List.zip_cons_cons,List.zip_nil_left]
   gi_wp2_with fail
   refine ⟨_,HBG.out,?_⟩
   clear HBG
   obtain ⟨W2,hW2⟩:∃ W2,W2=W.putObj (w0.heap.size+1) (.loop { rec .ready none with state:=.busy }):=⟨_,rfl⟩
   rw [← hW2] at H2 c1 f1 ⊢
   clear hW2
   gi_wp2_with fail
   obtain ⟨w4,hw4⟩:∃ w4,w4=W2.setCell ⟨w.heap.size,0,none⟩ (.int .i64 (wrap64 (s0+x))):=⟨_,rfl⟩
   rw [← hw4]
   obtain ⟨e0,e1,e2,e3⟩:=HW0.out
   have hl4:=blk_far H2.out.1 (p:=⟨w.heap.size,0,none⟩) (Ne.symm e1) (.int .i64 (wrap64 (s0+x)))
   have hd4:=blk_far H2.out.2.1 (p:=⟨w.heap.size,0,none⟩) (by show w0.heap.size≠w.heap.size;omega) (.int .i64 (wrap64 (s0+x)))
   have hb4:=blk_set H2.out.2.2.1 0 (.int .i64 (wrap64 (s0+x)))
   have hbb:=H2.out.2.2.2.setCell (p:=⟨w.heap.size,0,none⟩) (Nat.le_refl _) (.int .i64 (wrap64 (s0+x)))
   rw [← hw4] at hl4 hd4 hb4 hbb
   have hend:=run_endRound (P:=Tryz.prog) none hl4
   refine ⟨_,_,hend,rfl,⟨?_,(World.putObj_heap_other e2).trans hd4,?_,below_put hbb hbb.size (by omega)⟩⟩
   · rw [World.putObj_heap_same (blk_lt hl4),HREC.out]
     rfl
   · rw [HSX.out]
     exact (World.putObj_heap_other e1).trans hb4
 · rintro e W2 ⟨⟨v0,rfl⟩,h2⟩
   have hend:=run_endLoop (P:=Tryz.prog) h2.rec_ (by simp [hrec])
   have hp:(rec .ready none).pending=none:=by rw [hrec]
   replace hend:=hend.trans (congrArg (fun p=>Result.ok p _) hp)
   have hX:=HX.out.2.2.1
   have ne1:w.heap.size≠w0.heap.size+1:=by omega
   have ne2:w0.heap.size≠w0.heap.size+1:=by omega
   have hv3:=(World.putObj_heap_other (o:=.loop { rec .ready none with state:=.exhausted }) ne1).trans h2.box
   have hd3:=(World.putObj_heap_other (o:=.loop { rec .ready none with state:=.exhausted }) ne2).trans h2.dfr
   have hb3:=below_put (o':=.loop { rec .ready none with state:=.exhausted }) h2.bel h2.bel.size (k:=w0.heap.size+1) (by omega)
   refine ⟨_,_,hend,?_⟩
   have hsz:=h2.bel.size
   obtain ⟨W3,hW3⟩:∃ W3,W3=W2.putObj (w0.heap.size+1) (.loop { rec .ready none with state:=.exhausted }):=⟨_,rfl⟩
   rw [← hW3] at hv3 hd3 hb3 ⊢
   have c1:=blk_cell hv3 0
   have f1:=blk_frozen hv3 0
   have HF:=K1 (And.intro hd3 (And.intro hb3 hX))
   clear hend h2 hW3 hv3 hd3 hb3 HJ hl1 hd1 hb1 hrec hX ne1 ne2 hsz
   clear hp
   generalize hs1:sumW zs=s1 at *
   have HS1:=K1 hs1
   clear hs1
   gi_wp2_with fail
   refine ⟨by simp,.inl ⟨_,_,rfl,run_takeDeferred HF.out.1,?_⟩⟩
   have hX:=HF.out.2.2
   exact ⟨_,results_tmp rfl _ _ _,by rw [HS1.out];rfl,below_put HF.out.2.1 HF.out.2.1.size (by omega)⟩
theorem sum_any (w:World) (A:Option Addr) (zs:List Int) (n cap:Nat) (hn:zs.length=n) (hm:n≤1048576) (hr:RdI w w.heap.size A zs) :
  Calls Tryz.prog 238 #[.slice A n cap] w fun e w'=>e=.returned (.int .i64 (sumW zs))∧Below w.heap.size w w':=by
 have hb:Below w.heap.size w (w.alloc (.cells #[.slice A n cap] 26)):=(Below.refl _ _).alloc (Nat.le_refl _) _
 have HB:=K1 hb
 subst hn
 have CT:=K1 (total_any w.heap.size cap A zs hm (w.alloc (.cells #[.slice A zs.length cap] 26)) ⟨blk_cell (heap_alloc_new w _) 0,(hr.below hb).more hb.size⟩)
 clear hb hr
 go_enter Tryz.func238,Tryz.ntmps238
 go_wp2_with fail
 (with_reducible refine (values_any _ _ _ _).mono ?_)
 rintro e w1 ⟨rfl,rfl⟩
 go_wp2_with fail
 (with_reducible refine CT.out.mono ?_)
 rintro e w2 ⟨rfl,hb2⟩
 have HB2:=K1 (HB.out.trans (hb2.mono HB.out.size))
 clear hb2 HB CT
 go_wp2_with fail
 go_ret
 exact ⟨rfl,HB2.out⟩
end Go.Proofs.YtdpojpcoghcieaaGreat
namespace Go.Proofs.YtdpojpcoghcieaaGreat
open Lib renaming hid → K1
open Go.RowKit
abbrev zC (zs:List Int):List Value:=zs.map (Value.int .i64)
def In64 (zs:List Int):Prop:=∀ z∈zs,-9223372036854775808≤z∧z≤9223372036854775807
theorem zC_one (l:List Int):∀ u∈zC l,u.oneCell'=true:=fun u hu=>by
 obtain ⟨_,_,rfl⟩:=List.mem_map.1 hu;rfl
theorem zC_len (l:List Int):(zC l).length=l.length:=by simp
theorem zC_at {l:List Int} {i:Nat} {x:Int} (h:l[i]?=some x):(zC l)[i]?=some (.int .i64 x):=by simp [h]
theorem zC_set (l:List Int) (i:Nat) (x:Int):zC (l.set i x)=(zC l).set i (.int .i64 x):=by simp
theorem wrap64_in (x:Int):-9223372036854775808≤wrap64 x∧wrap64 x≤9223372036854775807:=by unfold wrap64;omega
theorem In64.set {l:List Int} (h:In64 l) (i:Nat) {x:Int} (hx:-9223372036854775808≤x∧x≤9223372036854775807):In64 (l.set i x):=fun z hz=>by
 rcases List.mem_or_eq_of_mem_set hz with h1 | rfl
 · exact h z h1
 · exact hx
theorem In64.at_ {l:List Int} (h:In64 l) {i:Nat} {x:Int} (hx:l[i]?=some x):-9223372036854775808≤x∧x≤9223372036854775807:=h x (List.mem_of_getElem? hx)
theorem vclone_any (A:Option Addr) (n cap:Nat) (zs:List Int) (w:World) (hr:Rd w w.heap.size A (zC zs)) (hl:zs.length=n) (hn:n≤1000000000) :
  Calls Tryz.prog 109 #[.slice A n cap] w fun e w'=>∃ A' c',e=.returned (.slice A' n c')∧w'.ownsRow w.heap.size 2 1 (.slice A' n c') n (zC zs)∧n≤c'∧Below w.heap.size w w':=by
 have C:=K1 (cloneV_any A n cap (zC zs) w hr (by simp [hl]) (zC_one zs) hn)
 clear hr
 go_enter Tryz.func109,Tryz.ntmps109
 go_wp2_with fail
 (with_reducible refine C.out.mono ?_)
 rintro e w1 ⟨A',c',rfl,h1,h2,h3⟩
 clear C
 go_wp2_with fail
 go_ret
 exact ⟨A',c',rfl,h1,h2,h3⟩
def addTo (lo:Nat) (ys xs:List Int):Nat→List Int
 | 0=>xs
 | k+1=>(addTo lo ys xs k).set (lo+k) (wrap64 (((addTo lo ys xs k)[lo+k]?.getD 0)+(ys[k]?.getD 0)))
theorem addTo_len (lo:Nat) (ys xs:List Int):∀ k,(addTo lo ys xs k).length=xs.length
 | 0=>rfl
 | k+1=>by rw [addTo,List.length_set,addTo_len lo ys xs k]
theorem addTo_in {lo:Nat} {ys xs:List Int} (h:In64 xs):∀ k,In64 (addTo lo ys xs k)
 | 0=>h
 | k+1=>(addTo_in h k).set _ (wrap64_in _)
set_option maxRecDepth 100000 in
theorem vadd_any (w:World) (L:List Ch) (h:Mem w L) (i j base N C lo n c cw:Nat) (A0 A B:Option Addr) (xs ys:List Int) (hi:L[i]?=some (.own base 2 1 (.slice A0 N C) N (zC xs))) (hj:L[j]?=some (.rd B (zC ys)))
  (hy:ys.length=n) (hx:lo+n≤xs.length) (hN:xs.length=N) (hA:0<n→A=A0.map fun p=>p.add lo) (hc:n≤c) (hcw:n≤cw) (hn:N≤1000000000) :
  Calls Tryz.prog 209 #[.slice A n c,.slice B n cw] w fun e w'=>e=.returned (.bool true)∧Mem w' (L.set i (.own base 2 1 (.slice A0 N C) N (zC (addTo lo ys xs n)))):=by
 have HI:=K1 hi
 have HJ:=K1 hj
 have HM0:=K1 (show Mem w (L.set i (.own base 2 1 (.slice A0 N C) N (zC (addTo lo ys xs 0)))) by
  rw [show addTo lo ys xs 0=xs from rfl,set_same hi];exact h)
 have HX:=K1 (And.intro hx (And.intro hy (And.intro hN hA)))
 have HN:=K1 (idx_ne hi hj (by simp))
 have hlN:lo+n≤N:=by omega
 clear h hi hj hx hy hN hA
 go_enter Tryz.func209,Tryz.ntmps209
 go_wp2_with fail
 go_loopw [13] (fun iv wr=>∃ k:Nat,k≤n∧iv=.int .i64 k∧Hid (Mem wr (L.set i (.own base 2 1 (.slice A0 N C) N (zC (addTo lo ys xs k)))))) (fun iv _=>n-(intOf iv).toNat)
 case atStart=>exact ⟨0,Nat.zero_le _,rfl,HM0⟩
 case round =>
  clear HM0
  obtain ⟨k,hk,rfl,HM⟩:=hrel
  by_cases hlt:k<n
  · obtain ⟨g,hg⟩:=HM.out.ownA i (at_set HI.out) (by omega)
    have ha:=HX.out.2.2.2 (by omega)
    obtain ⟨b1,o1,hb1⟩:∃ b off,B=some ⟨b,off,none⟩:=by
     obtain ⟨b,off,e,_⟩:=HM.out.rd j (at_ne HN.out HJ.out) (by rw [zC_len];have:=HX.out.2.1;omega)
     exact ⟨b,off,e⟩
    subst hg;subst hb1
    simp only [Option.map_some,add_none,Nat.zero_add] at ha
    subst ha
    obtain ⟨y,hyk⟩:=get_some ys k (by have:=HX.out.2.1;omega)
    obtain ⟨x,hxk⟩:=get_some (addTo lo ys xs k) (lo+k) (by rw [addTo_len];have:=HX.out.1;omega)
    have hc1:wr.cell? ⟨g,lo+k,none⟩=some (.int .i64 x):=((HM.out.own i (at_set HI.out)).cellAt (lo+k) (by omega)).trans (zC_at hxk)
    have hc2:wr.cell? ⟨b1,o1+k,none⟩=some (.int .i64 y):=HM.out.rdAt j (at_ne HN.out HJ.out) (zC_at hyk)
    have kf:=HM.out.ownF i (at_set HI.out)
    have HS:Hid (zC (addTo lo ys xs (k+1))=(zC (addTo lo ys xs k)).set (lo+k) (.int .i64 (wrap64 (x+y)))):=K1 (by rw [addTo,zC_set,hxk,hyk];rfl)
    clear hyk hxk
    generalize hs:wrap64 (x+y)=s at *
    have hm2:=(HM.out.setOwn (j:=lo+k) (at_set HI.out) (.int .i64 s))
    rw [List.set_set,← HS.out] at hm2
    have HM2:=K1 hm2
    clear HM hm2
    go_wp2_with fail
    go_region
    go_wp2_with fail
    go_roundw
    case rel=>exact ⟨k+1,by omega,by go_num,K1 (by first | exact HM2.out.drew | exact HM2.out)⟩
    case measure=>simp [intOf];omega
  · have hkn:k=n:=by omega
    subst hkn
    go_wp2_with fail
    go_ret
    exact ⟨rfl,HM.out⟩
def dotTo (xs ys:List Int) (q:Nat):Nat→Int
 | 0=>0
 | k+1=>wrap64 (dotTo xs ys q k+mulF (xs[k]?.getD 0) (ys[k]?.getD 0) q)
set_option maxRecDepth 100000 in
theorem dot_any (w:World) (A B:Option Addr) (n ca cb q:Nat) (xs ys:List Int) (hA:Rd w w.heap.size A (zC xs)) (hB:Rd w w.heap.size B (zC ys)) (hx:xs.length=n) (hy:ys.length=n) (h1:In64 xs) (h2:In64 ys) (hq:q≤62) (hn:n≤1000000000) (hca:n≤ca) (hcb:n≤cb) :
  Calls Tryz.prog 250 #[.slice A n ca,.slice B n cb,.int .i64 q] w fun e w'=>e=.returned (.tuple #[.int .i64 (dotTo xs ys q n),.bool true])∧Below w.heap.size w w':=by
 have HM0:=K1 (((Mem.start w).add_rd (i:=0) rfl hA).add_rd (i:=0) rfl hB)
 have HX:=K1 (And.intro hx (And.intro hy (And.intro h1 h2)))
 have CM:=K1 (fun W a b h3 h4=>mul_any W a b q hq h3 h4)
 clear hA hB hx hy h1 h2
 go_enter Tryz.func250,Tryz.ntmps250
 go_wp2_with fail
 go_loopw [8,18] (fun s iv wr=>∃ k:Nat,k≤n∧iv=.int .i64 k∧s=.int .i64 (dotTo xs ys q k)∧Hid (Mem wr [.bel w.heap.size w,.rd A (zC xs),.rd B (zC ys)])) (fun _ iv _=>n-(intOf iv).toNat)
 case atStart=>exact ⟨0,Nat.zero_le _,rfl,rfl,HM0⟩
 case round =>
  clear HM0
  obtain ⟨k,hk,rfl,rfl,HM⟩:=hrel
  by_cases hlt:k<n
  · obtain ⟨x,hxk⟩:=get_some xs k (by have:=HX.out.1;omega)
    obtain ⟨y,hyk⟩:=get_some ys k (by have:=HX.out.2.1;omega)
    obtain ⟨b1,o1,rfl,_⟩:=HM.out.rd 1 rfl (by rw [zC_len];have:=HX.out.1;omega)
    obtain ⟨b2,o2,rfl,_⟩:=HM.out.rd 2 rfl (by rw [zC_len];have:=HX.out.2.1;omega)
    have c1:=HM.out.rdAt 1 rfl (zC_at hxk)
    have c2:=HM.out.rdAt 2 rfl (zC_at hyk)
    have HS:Hid (dotTo xs ys q (k+1)=wrap64 (dotTo xs ys q k+mulF x y q)):=K1 (by rw [dotTo,hxk,hyk];rfl)
    have CK:=K1 (fun W=>CM.out W x y (HX.out.2.2.1.at_ hxk) (HX.out.2.2.2.at_ hyk))
    clear hxk hyk
    generalize dotTo xs ys q k=s0 at *
    generalize mulF x y q=p at *
    go_wp2_with fail
    (with_reducible refine (CK.out _).mono ?_)
    rintro e w2 ⟨rfl,hb2⟩
    have HM2:=K1 (HM.out.below hb2)
    clear hb2 HM c1 c2 CK
    go_wp2_with fail
    go_roundw
    case rel =>
     refine ⟨k+1,by omega,by go_num,?_,HM2⟩
     rw [HS.out]
    case measure=>simp [intOf];omega
  · have hkn:k=n:=by omega
    subst hkn
    go_wp2_with fail
    go_ret2
    exact ⟨rfl,HM.out.bel 0 rfl⟩
def scaleTo (xs:List Int) (a:Int) (q:Nat):Nat→List Int
 | 0=>xs
 | k+1=>(scaleTo xs a q k).set k (mulF (xs[k]?.getD 0) a q)
theorem scaleTo_len (xs:List Int) (a:Int) (q:Nat):∀ k,(scaleTo xs a q k).length=xs.length
 | 0=>rfl
 | k+1=>by rw [scaleTo,List.length_set,scaleTo_len xs a q k]
theorem scaleTo_at (xs:List Int) (a:Int) (q:Nat):∀ k j,k≤j→(scaleTo xs a q k)[j]?=xs[j]?
 | 0,_,_=>rfl
 | k+1,j,h=>by rw [scaleTo,List.getElem?_set_ne (by omega),scaleTo_at xs a q k j (by omega)]
set_option maxRecDepth 100000 in
theorem scale_any (w:World) (A:Option Addr) (n ca q:Nat) (a:Int) (xs:List Int) (hA:Rd w w.heap.size A (zC xs)) (hx:xs.length=n) (h1:In64 xs) (ha:-9223372036854775808≤a∧a≤9223372036854775807) (hq:q≤62) (hn:n≤1000000000) :
  Calls Tryz.prog 237 #[.slice A n ca,.int .i64 a,.int .i64 q] w fun e w'=>∃ A' c',e=.returned (.slice A' n c')∧w'.ownsRow w.heap.size 2 1 (.slice A' n c') n (zC (scaleTo xs a q n))∧n≤c'∧Below w.heap.size w w':=by
 have CC:=K1 (vclone_any A n ca xs w hA hx hn)
 have HX:=K1 (And.intro hx h1)
 have CM:=K1 (fun W b h3=>mul_any W b a q hq h3 ha)
 clear hA hx h1 ha
 go_enter Tryz.func237,Tryz.ntmps237
 go_wp2_with fail
 (with_reducible refine CC.out.mono ?_)
 rintro e w1 ⟨A',c',rfl,ho,hc,hb⟩
 have HM0:=K1 ((Mem.start w).push_own hb ho rfl)
 clear CC ho hb
 go_wp2_with fail
 go_loopw [14] (fun iv wr=>∃ k:Nat,k≤n∧iv=.int .i64 k∧Hid (Mem wr [.bel w.heap.size w,.own w.heap.size 2 1 (.slice A' n c') n (zC (scaleTo xs a q k))])) (fun iv _=>n-(intOf iv).toNat)
 case atStart=>exact ⟨0,Nat.zero_le _,rfl,HM0⟩
 case round =>
  clear HM0
  obtain ⟨k,hk,rfl,HM⟩:=hrel
  by_cases hlt:k<n
  · obtain ⟨g,rfl⟩:=HM.out.ownA 1 rfl (by omega)
    obtain ⟨x,hxk⟩:=get_some xs k (by have:=HX.out.1;omega)
    have hc1:wr.cell? ⟨g,k,none⟩=some (.int .i64 x):=((HM.out.own 1 rfl).cellAt k (by omega)).trans (zC_at ((scaleTo_at xs a q k k (Nat.le_refl _)).trans hxk))
    have HS:Hid (zC (scaleTo xs a q (k+1))=(zC (scaleTo xs a q k)).set k (.int .i64 (mulF x a q))):=K1 (by rw [scaleTo,zC_set,hxk];rfl)
    have CK:=K1 (fun W=>CM.out W x (HX.out.2.at_ hxk))
    clear hxk
    generalize mulF x a q=p at *
    go_wp2_with fail
    (with_reducible refine (CK.out _).mono ?_)
    rintro e w2 ⟨rfl,hb2⟩
    have HM2:=K1 (HM.out.below hb2)
    clear hb2 HM hc1 CK
    have kf:=HM2.out.ownF 1 rfl
    have hc2:∃ v,w2.cell? ⟨g,k,none⟩=some v:=⟨_,((HM2.out.own 1 rfl).cellAt k (by omega)).trans (List.getElem?_eq_getElem (by rw [zC_len,scaleTo_len,HX.out.1];exact hlt))⟩
    obtain ⟨v,hc2⟩:=hc2
    have hm3:=HM2.out.setOwn (j:=k) (i:=1) rfl (.int .i64 p)
    rw [← HS.out] at hm3
    have HM3:=K1 hm3
    clear hm3 HM2
    go_wp2_with fail
    go_roundw
    case rel=>exact ⟨k+1,by omega,by go_num,HM3⟩
    case measure=>simp [intOf];omega
  · have hkn:k=n:=by omega
    subst hkn
    go_wp2_with fail
    go_ret
    exact ⟨_,_,rfl,HM.out.own 1 rfl,hc,HM.out.bel 0 rfl⟩
end Go.Proofs.YtdpojpcoghcieaaGreat
