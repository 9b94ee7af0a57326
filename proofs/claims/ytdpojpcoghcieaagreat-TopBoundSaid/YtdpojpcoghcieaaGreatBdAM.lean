/- A part of the proof of TopBound: ItemP, Clones, ShapeNew, Region. Conditions: none. -/
import Derived.OrdersHeld
import Derived.Test.YtdpojpcoghcieaaGreatBdAL
set_option maxHeartbeats 8000000
namespace Go.Proofs.YtdpojpcoghcieaaGreat
open Lib renaming hid → K1
open Go.RowKit
structure Ac where
 send:Bool
 add:Bool
 step:Nat
 bucket:Nat
 phase:Nat
 round:Nat
 chunk:Nat
 lo:Nat
 hi:Nat
 deriving DecidableEq,Inhabited
structure It where
 kind:Nat
 step:Nat
 n:Nat
 a:Ac
 deriving DecidableEq,Inhabited
def Ac.cells (a:Ac):List Value:=[.bool a.send,.bool a.add,.int .i64 a.step,.int .i64 a.bucket,.int .i64 a.phase,.int .i64 a.round,.int .i64 a.chunk,.int .i64 a.lo,.int .i64 a.hi]
def It.cells (x:It):List Value:=[.int .i64 x.kind,.int .i64 x.step,.int .i64 x.n]++x.a.cells
def Ac.zero:Ac:=⟨false,false,0,0,0,0,0,0,0⟩
def acells (l:List Ac):List Value:=l.flatMap Ac.cells
def icells (l:List It):List Value:=l.flatMap It.cells
theorem flat_len {α:Type} (f:α→List Value) (k:Nat) (hf:∀ a,(f a).length=k):∀ l:List α,(l.flatMap f).length=l.length*k
 | []=>by simp
 | a::r=>by rw [List.flatMap_cons,List.length_append,hf,flat_len f k hf r,List.length_cons,Nat.succ_mul,Nat.add_comm]
theorem flat_at {α:Type} (f:α→List Value) (k:Nat) (hf:∀ a,(f a).length=k):∀ (l:List α) (j:Nat) (a:α),l[j]?=some a→∀ i u,(f a)[i]?=some u→(l.flatMap f)[j*k+i]?=some u
 | [],j,a,h,_,_,_=>by simp at h
 | b::r,0,a,h,i,u,hu=>by
   simp at h;subst h
   rw [List.flatMap_cons,Nat.zero_mul,Nat.zero_add]
   have hi:=(List.getElem?_eq_some_iff.1 hu).1
   rw [List.getElem?_append_left hi]
   exact hu
 | b::r,j+1,a,h,i,u,hu=>by
   have ih:=flat_at f k hf r j a (by simpa using h) i u hu
   rw [List.flatMap_cons,List.getElem?_append_right (by rw [hf,Nat.succ_mul];omega),hf,show (j+1)*k+i-k=j*k+i by rw [Nat.succ_mul];omega]
   exact ih
theorem acells_len (l:List Ac):(acells l).length=l.length*9:=flat_len _ 9 (fun _=>rfl) l
theorem acells_snoc (l:List Ac) (a:Ac):acells (l++[a])=acells l++a.cells:=by simp [acells]
theorem icells_snoc (l:List It) (a:It):icells (l++[a])=icells l++a.cells:=by simp [icells]
theorem acells_one (a:Ac):∀ u∈a.cells,u.oneCell'=true:=by
 intro u hu
 simp only [Ac.cells,List.mem_cons,List.not_mem_nil,or_false] at hu
 rcases hu with rfl | rfl | rfl | rfl | rfl | rfl | rfl | rfl | rfl <;> rfl
theorem icells_one (a:It):∀ u∈a.cells,u.oneCell'=true:=by
 intro u hu
 simp only [It.cells,List.mem_append] at hu
 rcases hu with hu | hu
 · simp only [List.mem_cons,List.not_mem_nil,or_false] at hu
   rcases hu with rfl | rfl | rfl <;> rfl
 · exact acells_one _ u hu
theorem infoAc:(Tryz.prog.info? 144).map (fun i=>(i.zero,i.size,i.bytes))=some (some (.agg Ac.zero.cells.toArray),9,64):=by kernel_rfl
theorem infoIt:(Tryz.prog.info? 146).map (fun i=>(i.zero,i.size,i.bytes))=some (some (.agg (It.cells ⟨0,0,0,Ac.zero⟩).toArray),12,88):=by kernel_rfl
theorem rowAc:RowT Tryz.prog 278 144 9 64:=by
 obtain ⟨i0,hi,hz0,hz1,hz2⟩:=info_parts infoAc
 exact ⟨i0,_,Tryz.underlying278,hi,hz0,hz1,hz2,rfl,by decide,by decide⟩
theorem rowIt:RowT Tryz.prog 166 146 12 88:=by
 obtain ⟨i0,hi,hz0,hz1,hz2⟩:=info_parts infoIt
 exact ⟨i0,_,Tryz.underlying166,hi,hz0,hz1,hz2,rfl,by decide,by decide⟩
theorem own_empty_at (w:World) (e:TypeId) (size:Nat):(w.alloc (.cells #[] e)).ownsRow w.heap.size e size (.slice (some ⟨w.heap.size,0,none⟩) 0 0) 0 [] :=
 ⟨by simp,.inr ⟨w.heap.size,0,#[],rfl,Nat.le_refl _,heap_alloc_new w _,Nat.le_refl _,by simp [maxLen],by simp,by simp⟩⟩
theorem rd_none {w:World} {B:Nat} {vs:List Value} (h:Rd w B none vs):vs=[]:=by
 cases vs with
 | nil=>rfl
 | cons v r=>obtain ⟨b,off,e,_⟩:=h (by simp);cases e
theorem infoCR:(Tryz.prog.info? 47).map (fun i=>(i.zero,i.size,i.bytes))=some (some (.agg #[.int .i64 0,.int .i64 0]),2,16):=by kernel_rfl
theorem rowCR:RowT Tryz.prog 44 47 2 16:=by
 obtain ⟨i0,hi,hz0,hz1,hz2⟩:=info_parts infoCR
 exact ⟨i0,_,Tryz.underlying44,hi,hz0,hz1,hz2,rfl,by decide,by decide⟩
theorem cloneR_any (A:Option Addr) (n cap:Nat) (vs:List Value) (w:World) (hr:Rd w w.heap.size A vs) (hl:vs.length=n*2) (h1:∀ u∈vs,u.oneCell'=true) (hn:n≤1000000000) :
  Calls Tryz.prog 113 #[.slice A n cap] w fun e w'=>∃ A' c',e=.returned (.slice A' n c')∧w'.ownsRow w.heap.size 47 2 (.slice A' n c') n vs∧n≤c'∧Below w.heap.size w w':=by
 rcases A with _ | a
 · obtain rfl:=rd_none hr
   obtain rfl:n=0:=by simp at hl;omega
   have he:=fun c=>Lib.run_eql_slice_nil (P:=Tryz.prog) w 44 47 none 0 c 0 0 Tryz.underlying44
   go_enter Tryz.func113,Tryz.ntmps113
   go_wp2
   go_ret
   exact ⟨none,0,rfl,own_nil _ _ _ _,Nat.le_refl _,Below.refl _ _⟩
 · have hM:=(Mem.start w).push_own ((Below.refl w.heap.size w).alloc (Nat.le_refl _) (.cells #[] 47)) (own_empty_at w 47 2) rfl
   have hr2:=Rd.more (hr.alloc (Nat.le_refl _) (.cells #[] 47)) (B':=(w.alloc (.cells #[] 47)).heap.size) (by simp)
   have HM:=K1 (And.intro hM (And.intro hr2 (And.intro hl (And.intro h1 hn))))
   clear hM hr2 hr hl h1 hn
   have he:=Lib.run_eql_slice_nil (P:=Tryz.prog) w 44 47 (some a) n cap 0 0 Tryz.underlying44
   go_enter Tryz.func113,Tryz.ntmps113
   go_wp2_with (at_builtin;refine wpList_append_mem rfl _ _ 44 rfl HM.out.1 1 rowCR rfl rfl (some a) n cap vs rfl HM.out.2.1 HM.out.2.2.1 HM.out.2.2.2.1 (by have:=HM.out.2.2.2.2;omega) ?_;intro A' c' w1 hM1)
   have HF:=K1 hM1
   clear hM1
   go_wp2
   go_ret
   have h2:=HF.out.own 1 rfl
   simp only [Nat.zero_add,List.nil_append] at h2
   exact ⟨A',c',by go_num,h2,own_cap h2,HF.out.bel 0 rfl⟩
theorem infoCV:(Tryz.prog.info? 2).map (fun i=>(i.zero,i.size,i.bytes))=some (some (.int .i64 0),1,8):=by kernel_rfl
theorem rowCV:RowT Tryz.prog 87 2 1 8:=by
 obtain ⟨i0,hi,hz0,hz1,hz2⟩:=info_parts infoCV
 exact ⟨i0,_,Tryz.underlying87,hi,hz0,hz1,hz2,rfl,by decide,by decide⟩
theorem cloneV_any (A:Option Addr) (n cap:Nat) (vs:List Value) (w:World) (hr:Rd w w.heap.size A vs) (hl:vs.length=n*1) (h1:∀ u∈vs,u.oneCell'=true) (hn:n≤1000000000) :
  Calls Tryz.prog 143 #[.slice A n cap] w fun e w'=>∃ A' c',e=.returned (.slice A' n c')∧w'.ownsRow w.heap.size 2 1 (.slice A' n c') n vs∧n≤c'∧Below w.heap.size w w':=by
 rcases A with _ | a
 · obtain rfl:=rd_none hr
   obtain rfl:n=0:=by simp at hl;omega
   have he:=fun c=>Lib.run_eql_slice_nil (P:=Tryz.prog) w 87 2 none 0 c 0 0 Tryz.underlying87
   go_enter Tryz.func143,Tryz.ntmps143
   go_wp2
   go_ret
   exact ⟨none,0,rfl,own_nil _ _ _ _,Nat.le_refl _,Below.refl _ _⟩
 · have hM:=(Mem.start w).push_own ((Below.refl w.heap.size w).alloc (Nat.le_refl _) (.cells #[] 2)) (own_empty_at w 2 1) rfl
   have hr2:=Rd.more (hr.alloc (Nat.le_refl _) (.cells #[] 2)) (B':=(w.alloc (.cells #[] 2)).heap.size) (by simp)
   have HM:=K1 (And.intro hM (And.intro hr2 (And.intro hl (And.intro h1 hn))))
   clear hM hr2 hr hl h1 hn
   have he:=Lib.run_eql_slice_nil (P:=Tryz.prog) w 87 2 (some a) n cap 0 0 Tryz.underlying87
   go_enter Tryz.func143,Tryz.ntmps143
   go_wp2_with (at_builtin;refine wpList_append_mem rfl _ _ 87 rfl HM.out.1 1 rowCV rfl rfl (some a) n cap vs rfl HM.out.2.1 HM.out.2.2.1 HM.out.2.2.2.1 (by have:=HM.out.2.2.2.2;omega) ?_;intro A' c' w1 hM1)
   have HF:=K1 hM1
   clear hM1
   go_wp2
   go_ret
   have h2:=HF.out.own 1 rfl
   simp only [Nat.zero_add,List.nil_append] at h2
   exact ⟨A',c',by go_num,h2,own_cap h2,HF.out.bel 0 rfl⟩
theorem infoCL:(Tryz.prog.info? 2).map (fun i=>(i.zero,i.size,i.bytes))=some (some (.int .i64 0),1,8):=by kernel_rfl
theorem rowCL:RowT Tryz.prog 26 2 1 8:=by
 obtain ⟨i0,hi,hz0,hz1,hz2⟩:=info_parts infoCL
 exact ⟨i0,_,Tryz.underlying26,hi,hz0,hz1,hz2,rfl,by decide,by decide⟩
theorem cloneL_any (A:Option Addr) (n cap:Nat) (vs:List Value) (w:World) (hr:Rd w w.heap.size A vs) (hl:vs.length=n*1) (h1:∀ u∈vs,u.oneCell'=true) (hn:n≤1000000000) :
  Calls Tryz.prog 129 #[.slice A n cap] w fun e w'=>∃ A' c',e=.returned (.slice A' n c')∧w'.ownsRow w.heap.size 2 1 (.slice A' n c') n vs∧n≤c'∧Below w.heap.size w w':=by
 rcases A with _ | a
 · obtain rfl:=rd_none hr
   obtain rfl:n=0:=by simp at hl;omega
   have he:=fun c=>Lib.run_eql_slice_nil (P:=Tryz.prog) w 26 2 none 0 c 0 0 Tryz.underlying26
   go_enter Tryz.func129,Tryz.ntmps129
   go_wp2
   go_ret
   exact ⟨none,0,rfl,own_nil _ _ _ _,Nat.le_refl _,Below.refl _ _⟩
 · have hM:=(Mem.start w).push_own ((Below.refl w.heap.size w).alloc (Nat.le_refl _) (.cells #[] 2)) (own_empty_at w 2 1) rfl
   have hr2:=Rd.more (hr.alloc (Nat.le_refl _) (.cells #[] 2)) (B':=(w.alloc (.cells #[] 2)).heap.size) (by simp)
   have HM:=K1 (And.intro hM (And.intro hr2 (And.intro hl (And.intro h1 hn))))
   clear hM hr2 hr hl h1 hn
   have he:=Lib.run_eql_slice_nil (P:=Tryz.prog) w 26 2 (some a) n cap 0 0 Tryz.underlying26
   go_enter Tryz.func129,Tryz.ntmps129
   go_wp2_with (at_builtin;refine wpList_append_mem rfl _ _ 26 rfl HM.out.1 1 rowCL rfl rfl (some a) n cap vs rfl HM.out.2.1 HM.out.2.2.1 HM.out.2.2.2.1 (by have:=HM.out.2.2.2.2;omega) ?_;intro A' c' w1 hM1)
   have HF:=K1 hM1
   clear hM1
   go_wp2
   go_ret
   have h2:=HF.out.own 1 rfl
   simp only [Nat.zero_add,List.nil_append] at h2
   exact ⟨A',c',by go_num,h2,own_cap h2,HF.out.bel 0 rfl⟩
theorem infoCU:(Tryz.prog.info? 141).map (fun i=>(i.zero,i.size,i.bytes))=some (some (.int .u64 0),1,8):=by kernel_rfl
theorem rowCU:RowT Tryz.prog 27 141 1 8:=by
 obtain ⟨i0,hi,hz0,hz1,hz2⟩:=info_parts infoCU
 exact ⟨i0,_,Tryz.underlying27,hi,hz0,hz1,hz2,rfl,by decide,by decide⟩
theorem cloneU_any (A:Option Addr) (n cap:Nat) (vs:List Value) (w:World) (hr:Rd w w.heap.size A vs) (hl:vs.length=n*1) (h1:∀ u∈vs,u.oneCell'=true) (hn:n≤1000000000) :
  Calls Tryz.prog 137 #[.slice A n cap] w fun e w'=>∃ A' c',e=.returned (.slice A' n c')∧w'.ownsRow w.heap.size 141 1 (.slice A' n c') n vs∧n≤c'∧Below w.heap.size w w':=by
 rcases A with _ | a
 · obtain rfl:=rd_none hr
   obtain rfl:n=0:=by simp at hl;omega
   have he:=fun c=>Lib.run_eql_slice_nil (P:=Tryz.prog) w 27 141 none 0 c 0 0 Tryz.underlying27
   go_enter Tryz.func137,Tryz.ntmps137
   go_wp2
   go_ret
   exact ⟨none,0,rfl,own_nil _ _ _ _,Nat.le_refl _,Below.refl _ _⟩
 · have hM:=(Mem.start w).push_own ((Below.refl w.heap.size w).alloc (Nat.le_refl _) (.cells #[] 141)) (own_empty_at w 141 1) rfl
   have hr2:=Rd.more (hr.alloc (Nat.le_refl _) (.cells #[] 141)) (B':=(w.alloc (.cells #[] 141)).heap.size) (by simp)
   have HM:=K1 (And.intro hM (And.intro hr2 (And.intro hl (And.intro h1 hn))))
   clear hM hr2 hr hl h1 hn
   have he:=Lib.run_eql_slice_nil (P:=Tryz.prog) w 27 141 (some a) n cap 0 0 Tryz.underlying27
   go_enter Tryz.func137,Tryz.ntmps137
   go_wp2_with (at_builtin;refine wpList_append_mem rfl _ _ 27 rfl HM.out.1 1 rowCU rfl rfl (some a) n cap vs rfl HM.out.2.1 HM.out.2.2.1 HM.out.2.2.2.1 (by have:=HM.out.2.2.2.2;omega) ?_;intro A' c' w1 hM1)
   have HF:=K1 hM1
   clear hM1
   go_wp2
   go_ret
   have h2:=HF.out.own 1 rfl
   simp only [Nat.zero_add,List.nil_append] at h2
   exact ⟨A',c',by go_num,h2,own_cap h2,HF.out.bel 0 rfl⟩
theorem infoCI:(Tryz.prog.info? 3).map (fun i=>(i.zero,i.size,i.bytes))=some (some (.int .i64 0),1,8):=by kernel_rfl
theorem rowCI:RowT Tryz.prog 22 3 1 8:=by
 obtain ⟨i0,hi,hz0,hz1,hz2⟩:=info_parts infoCI
 exact ⟨i0,_,Tryz.underlying22,hi,hz0,hz1,hz2,rfl,by decide,by decide⟩
theorem cloneI_any (A:Option Addr) (n cap:Nat) (vs:List Value) (w:World) (hr:Rd w w.heap.size A vs) (hl:vs.length=n*1) (h1:∀ u∈vs,u.oneCell'=true) (hn:n≤1000000000) :
  Calls Tryz.prog 98 #[.slice A n cap] w fun e w'=>∃ A' c',e=.returned (.slice A' n c')∧w'.ownsRow w.heap.size 3 1 (.slice A' n c') n vs∧n≤c'∧Below w.heap.size w w':=by
 rcases A with _ | a
 · obtain rfl:=rd_none hr
   obtain rfl:n=0:=by simp at hl;omega
   have he:=fun c=>Lib.run_eql_slice_nil (P:=Tryz.prog) w 22 3 none 0 c 0 0 Tryz.underlying22
   go_enter Tryz.func98,Tryz.ntmps98
   go_wp2
   go_ret
   exact ⟨none,0,rfl,own_nil _ _ _ _,Nat.le_refl _,Below.refl _ _⟩
 · have hM:=(Mem.start w).push_own ((Below.refl w.heap.size w).alloc (Nat.le_refl _) (.cells #[] 3)) (own_empty_at w 3 1) rfl
   have hr2:=Rd.more (hr.alloc (Nat.le_refl _) (.cells #[] 3)) (B':=(w.alloc (.cells #[] 3)).heap.size) (by simp)
   have HM:=K1 (And.intro hM (And.intro hr2 (And.intro hl (And.intro h1 hn))))
   clear hM hr2 hr hl h1 hn
   have he:=Lib.run_eql_slice_nil (P:=Tryz.prog) w 22 3 (some a) n cap 0 0 Tryz.underlying22
   go_enter Tryz.func98,Tryz.ntmps98
   go_wp2_with (at_builtin;refine wpList_append_mem rfl _ _ 22 rfl HM.out.1 1 rowCI rfl rfl (some a) n cap vs rfl HM.out.2.1 HM.out.2.2.1 HM.out.2.2.2.1 (by have:=HM.out.2.2.2.2;omega) ?_;intro A' c' w1 hM1)
   have HF:=K1 hM1
   clear hM1
   go_wp2
   go_ret
   have h2:=HF.out.own 1 rfl
   simp only [Nat.zero_add,List.nil_append] at h2
   exact ⟨A',c',by go_num,h2,own_cap h2,HF.out.bel 0 rfl⟩
def NonNeg (w:World) (e:Ending) (w':World):Prop:=∃ r:Nat,e=.returned (.int .i64 r)∧w=w'
theorem idxWrong_none (A:Option Addr) (cap:Nat) (zs:List Int) (w:World) (hr:RdI w w.heap.size A zs) (hm:zs.length≤16) (hz:zs.all okSz=true) :
  Calls Tryz.prog 136 #[.slice A zs.length cap,.func (.func 96) #[] #[]] w fun e w'=>e=.returned (.int .i64 (-1))∧w=w':=by
 have hall:∀ z∈zs,okSz z=true:=List.all_eq_true.1 hz
 have Hall:=K1 hall
 clear hall hz
 go_enter Tryz.func136,Tryz.ntmps136
 go_wp2
 go_loop [5,8] (fun j i=>∃ k:Nat,k≤zs.length∧i=.int .i64 k) (fun _ i=>zs.length-(intOf i).toNat)
 case atStart=>exact ⟨0,Nat.zero_le _,rfl⟩
 case round =>
  obtain ⟨k,hk,rfl⟩:=hrel
  by_cases hlt:k<zs.length
  · obtain ⟨b,off,rfl,_,hc⟩:=hr.at_ (by omega)
    obtain ⟨z,hz⟩:=get_some zs k hlt
    have c1:w.cell? ⟨b,off+k,none⟩=some (.int .i64 z):=hc _ _ hz
    have ok1:okSz z=true:=Hall.out z (List.mem_of_getElem? hz)
    have HZ:=K1 hz
    clear hz hc
    go_wp2_with (go_at_call 96;refine (wrong_any _ _).mono ?_;rintro e w' ⟨rfl,rfl⟩)
    go_round
    case rel=>exact ⟨k+1,by omega,by go_num⟩
    case measure=>simp [intOf];omega
  · go_wp2
    go_ret
    exact ⟨rfl,rfl⟩
theorem idxWrong_some (A:Option Addr) (cap:Nat) (zs:List Int) (w:World) (hr:RdI w w.heap.size A zs) (hm:zs.length≤16) (hz:zs.all okSz=false) :
  Calls Tryz.prog 136 #[.slice A zs.length cap,.func (.func 96) #[] #[]] w (NonNeg w):=by
 have Hno:=K1 hz
 clear hz
 go_enter Tryz.func136,Tryz.ntmps136
 go_wp2
 go_loop [5,8] (fun j i=>∃ k:Nat,k≤zs.length∧i=.int .i64 k∧Hid ((zs.take k).all okSz=true)) (fun _ i=>zs.length-(intOf i).toNat)
 case atStart=>exact ⟨0,Nat.zero_le _,rfl,K1 rfl⟩
 case round =>
  obtain ⟨k,hk,rfl,hall⟩:=hrel
  by_cases hlt:k<zs.length
  · obtain ⟨b,off,rfl,_,hc⟩:=hr.at_ (by omega)
    obtain ⟨z,hz⟩:=get_some zs k hlt
    have c1:w.cell? ⟨b,off+k,none⟩=some (.int .i64 z):=hc _ _ hz
    have HZ:=K1 hz
    clear hz hc
    cases ok1:okSz z
    · go_wp2_with (go_at_call 96;refine (wrong_any _ _).mono ?_;rintro e w' ⟨rfl,rfl⟩)
      go_ret
      exact ⟨k,rfl,rfl⟩
    · go_wp2_with (go_at_call 96;refine (wrong_any _ _).mono ?_;rintro e w' ⟨rfl,rfl⟩)
      go_round
      case rel=>exact ⟨k+1,by omega,by go_num,K1 (take_all zs k z HZ.out hall.out ok1)⟩
      case measure=>simp [intOf];omega
  · exfalso
    have:=hall.out
    rw [List.take_of_length_le (by omega),Hno.out] at this
    cases this
theorem hasWrong_any (A:Option Addr) (cap:Nat) (zs:List Int) (w:World) (hr:RdI w w.heap.size A zs) (hm:zs.length≤16) :
  Calls Tryz.prog 97 #[.slice A zs.length cap,.func (.func 96) #[] #[]] w fun e w'=>e=.returned (.bool (!zs.all okSz))∧w=w':=by
 by_cases hz:zs.all okSz=true
 · have c1:=idxWrong_none A cap zs w hr hm hz
   have C1:=K1 c1
   have HZ:=K1 hz
   clear c1 hz
   go_enter Tryz.func97,Tryz.ntmps97
   go_wp2_with (go_at_call 136;refine C1.out.mono ?_;rintro e w' ⟨rfl,rfl⟩)
   go_ret
   exact ⟨ret_bool (by rw [HZ.out];rfl),rfl⟩
 · have hz':zs.all okSz=false:=by simpa using hz
   have c1:=idxWrong_some A cap zs w hr hm hz'
   have C1:=K1 c1
   have HZ:=K1 hz'
   clear c1 hz hz'
   go_enter Tryz.func97,Tryz.ntmps97
   go_wp2_with (go_at_call 136;refine C1.out.mono ?_;rintro e w' ⟨r,rfl,rfl⟩)
   go_ret
   exact ⟨ret_bool (by rw [HZ.out];simp),rfl⟩
structure Mid (w:World) (B g:Nat) (vs vw vb:Value) (c:Int) (zs:List Int) (kw kb:Nat):Prop where
 blk:w.heap[g]?=some (.cells #[vs,vw,vb,.int .i64 c] 199 (0,0))
 box:w.heap[g+1]?=some (.cells #[.pointer (some ⟨g,0,none⟩)] 150 (0,0))
 sz:w.ownsRow B 3 1 vs zs.length (zs.map (Value.int .i64))
 ow:w.ownsRow B 47 2 vw kw (wcells zs kw)
 ob:w.ownsRow B 47 2 vb kb (bcells zs kb)
 ne:vw.ownBlock=none∨vw.ownBlock≠vb.ownBlock
 lo:B≤g
section
variable {w w':World} {B g:Nat} {vs vw vb:Value} {c c':Int} {zs:List Int} {kw kb:Nat}
theorem Mid.next (h:Mid w B g vs vw vb c zs kw kb) (hg:w'.heap[g]?=some (.cells #[vs,vw,vb,.int .i64 c'] 199 (0,0))) (hb:w.grownBy w' (some g)):Mid w' B g vs vw vb c' zs kw kb :=
 ⟨hg,blk_grown h.box hb (by simp),h.sz.kept hb (.inr (own_ne h.sz h.blk (by decide))),h.ow.kept hb (.inr (own_ne h.ow h.blk (by decide))),h.ob.kept hb (.inr (own_ne h.ob h.blk (by decide))),h.ne,h.lo⟩
theorem Mid.alloc (h:Mid w B g vs vw vb c zs kw kb) (o:Obj):Mid (w.alloc o) B g vs vw vb c zs kw kb :=
 ⟨blk_alloc h.blk o,blk_alloc h.box o,h.sz.alloc o,h.ow.alloc o,h.ob.alloc o,h.ne,h.lo⟩
theorem Mid.drew (h:Mid w B g vs vw vb c zs kw kb):Mid w.drew B g vs vw vb c zs kw kb:=⟨h.blk,h.box,h.sz,h.ow,h.ob,h.ne,h.lo⟩
theorem Mid.blkW (h:Mid w B g vs vw vb c zs kw kb) (hgr:w.grownBy w' vw.ownBlock):w'.heap[g]?=some (.cells #[vs,vw,vb,.int .i64 c] 199 (0,0)) :=
 blk_grown h.blk hgr (Ne.symm (own_ne h.ow h.blk (by decide)))
theorem Mid.blkB (h:Mid w B g vs vw vb c zs kw kb) (hgr:w.grownBy w' vb.ownBlock):w'.heap[g]?=some (.cells #[vs,vw,vb,.int .i64 c] 199 (0,0)) :=
 blk_grown h.blk hgr (Ne.symm (own_ne h.ob h.blk (by decide)))
theorem Mid.setW (h:Mid w B g vs vw vb c zs kw kb) {gg cap:Nat} (hown:w'.ownsRow B 47 2 (.slice (some ⟨gg,0,none⟩) (kw+1) cap) (kw+1) (wcells zs (kw+1))) (hgr:w.grownBy w' vw.ownBlock)
  (hat:vw.ownBlock=some gg∨gg=w.heap.size):Mid (w'.setCell ⟨g,1,none⟩ (.slice (some ⟨gg,0,none⟩) (kw+1) cap)) B g vs (.slice (some ⟨gg,0,none⟩) (kw+1) cap) vb c zs (kw+1) kb:=by
 have hgb:=blk_grown h.blk hgr (Ne.symm (own_ne h.ow h.blk (by decide)))
 have hbx:=blk_grown h.box hgr (Ne.symm (own_ne h.ow h.box (by decide)))
 have hset:w'.grownBy (w'.setCell ⟨g,1,none⟩ (.slice (some ⟨gg,0,none⟩) (kw+1) cap)) (some g):=only_setCell (World.grownBy.refl _ _) (.inl rfl) _
 have hs:=h.sz.kept hgr (own_ne2 h.sz h.ow (by decide))
 have hbo:vb.ownBlock=none∨vb.ownBlock≠vw.ownBlock:=by
  rcases h.ne with e | e
  · rw [e];cases hv:vb.ownBlock
    · exact .inl rfl
    · exact .inr (by simp)
  · exact .inr (Ne.symm e)
 have hb:=h.ob.kept hgr hbo
 refine ⟨?_,blk_far hbx (by simp) _,hs.kept hset (.inr (own_ne hs hgb (by decide))),hown.kept hset (.inr (own_ne hown hgb (by decide))),hb.kept hset (.inr (own_ne hb hgb (by decide))),?_,h.lo⟩
 · have:=blk_set hgb 1 (.slice (some ⟨gg,0,none⟩) (kw+1) cap)
   simpa using this
 · rcases hat with e | e
   · rcases h.ne with e' | e'
     · rw [e'] at e;cases e
     · right;rw [show (Value.slice (some ⟨gg,0,none⟩) (kw+1) cap).ownBlock=some gg from rfl,← e];exact e'
   · right
     subst e
     intro e2
     exact absurd (h.ob.lt _ e2.symm).2 (Nat.lt_irrefl _)
theorem Mid.setB (h:Mid w B g vs vw vb c zs kw kb) {gg cap:Nat} (hown:w'.ownsRow B 47 2 (.slice (some ⟨gg,0,none⟩) (kb+1) cap) (kb+1) (bcells zs (kb+1))) (hgr:w.grownBy w' vb.ownBlock)
  (hat:vb.ownBlock=some gg∨gg=w.heap.size):Mid (w'.setCell ⟨g,2,none⟩ (.slice (some ⟨gg,0,none⟩) (kb+1) cap)) B g vs vw (.slice (some ⟨gg,0,none⟩) (kb+1) cap) c zs kw (kb+1):=by
 have hgb:=blk_grown h.blk hgr (Ne.symm (own_ne h.ob h.blk (by decide)))
 have hbx:=blk_grown h.box hgr (Ne.symm (own_ne h.ob h.box (by decide)))
 have hset:w'.grownBy (w'.setCell ⟨g,2,none⟩ (.slice (some ⟨gg,0,none⟩) (kb+1) cap)) (some g):=only_setCell (World.grownBy.refl _ _) (.inl rfl) _
 have hs:=h.sz.kept hgr (own_ne2 h.sz h.ob (by decide))
 have hw:=h.ow.kept hgr h.ne
 refine ⟨?_,blk_far hbx (by simp) _,hs.kept hset (.inr (own_ne hs hgb (by decide))),hw.kept hset (.inr (own_ne hw hgb (by decide))),hown.kept hset (.inr (own_ne hown hgb (by decide))),?_,h.lo⟩
 · have:=blk_set hgb 2 (.slice (some ⟨gg,0,none⟩) (kb+1) cap)
   simpa using this
 · rcases hat with e | e
   · rw [show (Value.slice (some ⟨gg,0,none⟩) (kb+1) cap).ownBlock=some gg from rfl,← e];exact h.ne
   · cases hv:vw.ownBlock
     · exact .inl rfl
     · right
       subst e
       intro e2
       have h1:vw.ownBlock=some w.heap.size:=hv.trans e2
       have:=(h.ow.lt _ h1).2
       omega
end
def NextPost (w:World) (g:Nat) (vs vw vb:Value) (c n:Int) (e:Ending) (w':World):Prop :=
 e=.returned (.agg #[.int .i64 c,.int .i64 (c+n)])∧w'.heap[g]?=some (.cells #[vs,vw,vb,.int .i64 (c+n)] 199 (0,0))∧w.grownBy w' (some g)
theorem next_any (g bx:Nat) (vs vw vb:Value) (c n:Int) (w:World) (hg:w.heap[g]?=some (.cells #[vs,vw,vb,.int .i64 c] 199 (0,0))) (hbx:w.heap[bx]?=some (.cells #[.pointer (some ⟨g,0,none⟩)] 150 (0,0)))
  (c0:0≤c) (c1:c≤1000000000000000) (n0:0≤n) (n1:n≤1000000000000000) :
  Calls Tryz.prog 99 #[.int .i64 n,.pointer (some ⟨bx,0,none⟩)] w (NextPost w g vs vw vb c n):=by
 have hg1:w.cell? ⟨g,3,none⟩=some (.int .i64 c):=by simp [World.cell?,hg]
 have hg2:w.frozen? ⟨g,3,none⟩=false:=by simp [World.frozen?,hg]
 have hb1:w.cell? ⟨bx,0,none⟩=some (.pointer (some ⟨g,0,none⟩)):=by simp [World.cell?,hbx]
 have lg:=World.block_lt_of_cell? w _ hg1
 have lb:=World.block_lt_of_cell? w _ hb1
 have Hg:=K1 hg
 clear hg hbx
 go_enter Tryz.func99,Tryz.ntmps99
 go_wp2
 go_region_held3 (fun w'=>w'.cell? ⟨g,3,none⟩=some (.int .i64 c)∧w'.cell? ⟨bx,0,none⟩=some (.pointer (some ⟨g,0,none⟩))) (go_keep) (fail)
 go_wp2
 refine bodyPost_ret (v:=.agg #[.int .i64 c,.int .i64 (c+n)]) (by simp [results,Tryz.results99,go_sem]) rfl ⟨rfl,?_,?_⟩
 · have:=blk_alloc (blk_alloc (blk_set Hg.out 3 (.int .i64 (c+n))) (.cells #[.int .i64 c,.int .i64 (c+n)] 47)) (.cells #[.int .i64 c,.int .i64 (c+n)] 47)
   simp at this
   exact this
 · exact only_drew (only_alloc (only_alloc (only_setCell (World.grownBy.refl _ _) (.inl rfl) _) _) _)
end Go.Proofs.YtdpojpcoghcieaaGreat
namespace Go.Proofs.YtdpojpcoghcieaaGreat
open Lib renaming hid → K1
open Go.RowKit
section
variable {P:Program} {ops:Array Oper} {Q:Exit→Act→World→Prop} {md:Region.Mode} {S:World→Prop} {L:Nat}
def AnyBut (P:Program) (md:Region.Mode) (ops:Array Oper) (Q:Exit→Act→World→Prop) (S:World→Prop) (L:Nat):Nat→Array Bool→Act→World→Prop
 | 0,listed,a,w=>Region.ready md ops listed=[]∧Q .normal a w
 | fuel+1,listed,a,w =>
   (Region.ready md ops listed=[]→Q .normal a w) ∧
   ∀ i∈Region.ready md ops listed,wpOp P ops Q i (fun a' w'=>(i≠L→S w')∧AnyBut P md ops Q S L fuel (listed.setIfInBounds i true) a' w') a w
theorem AnyBut.any:∀ (fuel:Nat) (listed:Array Bool) (a:Act) (w:World),AnyBut P md ops Q S L fuel listed a w→wpAny P md ops Q fuel listed a w
 | 0,_,_,_,h=>h
 | fuel+1,_,_,_,h=>⟨h.1,fun i hi=>wpOp_mono (fun a' w' h'=>AnyBut.any fuel _ a' w' h'.2) (h.2 i hi)⟩
def waits (md:Region.Mode) (ops:Array Oper) (L i:Nat):Bool :=
 match ops[L]? with
 | none=>false
 | some o=>o.after.any fun e=>Region.binds md e && e.on == i
theorem waits_ne {i:Nat} {listed:Array Bool} (hw:waits md ops L i=true) (hr:i∈Region.ready md ops listed) {j:Nat} (hj:j∈Region.ready md ops listed):j≠L:=by
 rintro rfl
 obtain ⟨_,oj,hoj,hall⟩:=mem_ready.1 hj
 unfold waits at hw
 rw [hoj] at hw
 simp only [Array.any_eq_true',Bool.and_eq_true,beq_iff_eq] at hw
 obtain ⟨e,he,hb,heq⟩:=hw
 have h1:=hall e he hb
 have h0:=(mem_ready.1 hr).1
 rw [heq] at h1
 rcases Nat.lt_or_ge i listed.size with h' | h'
 · simp [h'] at h0 h1;rw [h0] at h1;cases h1
 · simp [Array.getElem?_eq_none h'] at h1
theorem AnyBut.first {i:Nat} {oi:Oper} {v:Value} (hi:ops[i]?=some oi) (hsel:∀ (j:Nat) (o:Oper) cs b,ops[j]?=some o→o.op≠.select cs b)
  (hQ:∀ c a w,Q (.panic c) (a.put oi.dst v) w→Q (.panic c) a w) (hL:waits md ops L i=true) :
  ∀ (fuel:Nat) (listed:Array Bool) (a:Act) (w:World),
    (∀ j oj,ops[j]?=some oj→j≠i→listed.getD j true=false→(∀ e∈oj.after,Region.binds md e=true→e.on≠i)→oi.apart ops oj=true) →
    i∈Region.ready md ops listed→YieldsIf P ops S oi v a→S w →
    AnyBut P md ops Q S L fuel (listed.setIfInBounds i true) (a.put oi.dst v) w→AnyBut P md ops Q S L (fuel+1) listed a w:=by
 intro fuel
 induction fuel with
 | zero =>
   intro listed a w _ hr hy hS H
   refine ⟨fun h=>(by rw [h] at hr;cases hr),fun j hj=>?_⟩
   by_cases hji:j=i
   · subst hji;exact hy.wpOp hi hS ⟨fun _=>hS,H⟩
   · have:=ready_mono hj hji
     rw [H.1] at this
     cases this
 | succ fuel ih =>
   intro listed a w hfree hr hy hS H
   refine ⟨fun h=>(by rw [h] at hr;cases hr),fun j hj=>?_⟩
   by_cases hji:j=i
   · subst hji;exact hy.wpOp hi hS ⟨fun _=>hS,H⟩
   have hjL:j≠L:=waits_ne hL hr hj
   obtain ⟨hjun,oj,hoj,hall⟩:=mem_ready.1 hj
   have hnot:∀ e∈oj.after,Region.binds md e=true→e.on≠i:=fun e he hb heq=>by
    have h1:=hall e he hb
    have h0:=(mem_ready.1 hr).1
    rw [heq] at h1
    rcases Nat.lt_or_ge i listed.size with h' | h'
    · simp [h'] at h0 h1;rw [h0] at h1;cases h1
    · simp [Array.getElem?_eq_none h'] at h1
   have h2:=wpOp_putIf hoj (hfree j oj hoj hji hjun hnot) (fun cs b=>hsel i oi cs b hi) (fun cs b=>hsel j oj cs b hoj) hQ hy (H.2 j (ready_mono hj hji))
   refine wpOp_mono (fun a' w' h3=>⟨fun _=>h3.2.1 hjL,ih (listed.setIfInBounds j true) a' w' (fun k ok hk hki hun hno=>?_) (ready_mono hr (Ne.symm hji)) h3.1 (h3.2.1 hjL) ?_⟩) h2
   · refine hfree k ok hk hki ?_ hno
     by_cases hjk:j=k
     · subst hjk;exact hjun
     · rw [getD_set_ne true hjk] at hun;exact hun
   · rw [Array.setIfInBounds_comm _ _ hji]
     exact h3.2.2
theorem AnyBut.take (i:Nat) {oi:Oper} {d:Option Tmp} {v:Value} {fuel:Nat} {listed:Array Bool} {a:Act} {w:World} (hi:ops[i]?=some oi) (hd:oi.dst=d)
  (hs:Region.noSelect ops=true) (hf:Region.free md ops listed i=true) (hr:(Region.ready md ops listed).contains i=true) (hL:waits md ops L i=true)
  (hQ:∀ c a w,Q (.panic c) (a.put d v) w→Q (.panic c) a w) (hw:Region.wanted oi (yielded ops a.tmps)=true) (hS:S w) (hy:∀ w,S w→(execOp a.eval oi).run P w=.ok (.value v) w)
  (h:AnyBut P md ops Q S L fuel (listed.setIfInBounds i true) (a.put d v) w):AnyBut P md ops Q S L (fuel+1) listed a w:=by
 subst hd
 exact AnyBut.first hi (Region.noSelect_spec hs) hQ hL fuel listed a w (Region.free_spec hi hf) (by simpa using hr) (.inl ⟨hw,hy⟩) hS h
theorem AnyBut.step (i:Nat) {o:Oper} {fuel:Nat} {listed:Array Bool} {a:Act} {w:World} (hr:Region.ready md ops listed=[i]) (ho:ops[i]?=some o) (hne:i≠L) (hw:Region.wanted o (yielded ops a.tmps)=true)
  (h:∀ K:Act→World→Prop,Hid (∀ a' w',S w'→AnyBut P md ops Q S L fuel (listed.setIfInBounds i true) a' w'→K a' w')→Oper.wp P o a w K Q):AnyBut P md ops Q S L (fuel+1) listed a w:=by
 refine ⟨fun h0=>absurd (hr ▸ h0) (by simp),fun j hj=>?_⟩
 rw [hr] at hj
 obtain rfl:j=i:=by simpa using hj
 refine wpOp_step ho fun K' hK=>?_
 rw [if_pos hw]
 exact h K' (K1 fun a' w' hS' hA=>hK _ _ ⟨fun _=>hS',hA⟩)
theorem AnyBut.last {o:Oper} {fuel:Nat} {listed:Array Bool} {a:Act} {w:World} (hr:Region.ready md ops listed=[L]) (hr2:Region.ready md ops (listed.setIfInBounds L true)=[]) (ho:ops[L]?=some o) (hw:Region.wanted o (yielded ops a.tmps)=true)
  (h:∀ K:Act→World→Prop,Hid (∀ a' w',Q .normal a' w'→K a' w')→Oper.wp P o a w K Q):AnyBut P md ops Q S L (fuel+1) listed a w:=by
 refine ⟨fun h0=>absurd (hr ▸ h0) (by simp),fun j hj=>?_⟩
 rw [hr] at hj
 obtain rfl:j=L:=by simpa using hj
 refine wpOp_step ho fun K' hK=>?_
 rw [if_pos hw]
 refine h K' (K1 fun a' w' hq=>hK _ _ ⟨fun hne=>absurd rfl hne,?_⟩)
 cases fuel with
 | zero=>exact ⟨hr2,hq⟩
 | succ f=>exact ⟨fun _=>hq,by rw [hr2];simp⟩
theorem wp_region_but {id:Nat} {a:Act} {w:World} (L:Nat) (S:World→Prop) (hm:P.follows .mixedOrders=true) (hS:S w.drew)
  (h:S w.drew→AnyBut P .any ops Q S L ops.size (Array.replicate ops.size false) a w.drew):(Code.region id ops true).wp P Q a w :=
 wp_region_any hm (AnyBut.any _ _ _ _ (h hS))
end
end Go.Proofs.YtdpojpcoghcieaaGreat
