/- A part of the proof of TopTags: ItemP, Clones, ShapeNew, Region, ConfPlain, Spine. Conditions: none. -/
import Derived.OrdersHeld
import Derived.StillTactics
import Derived.StillTail
import Derived.Test.YtdpojpcoghcieaaGreatSxAA
set_option maxHeartbeats 8000000
set_option linter.all false
namespace Go.Proofs.YtdpojpcoghcieaaGreat
open Lib renaming hid → K1
open Go.RowKit
open Value renaming int → U, slice → Us
open IntKind renaming i64 → O
open And renaming intro → Vi
open Nat renaming le_refl → Vj, zero_add → Vo, lt_or_ge → Vu, succ_mul → Vy, add_comm → Vz
open Region renaming ready → Vk, Mode → Vn, binds → Vt, wanted → Vv, noSelect → V0, noSelect_spec → VC, free_spec → VD, waitsFor → VE
open Lib renaming run_eql_slice_nil → Vl
open Below renaming refl → Vm
open Bool renaming and_eq_true → Vp
open Mem renaming start → Vq
open Rd renaming more → Vr
open List renaming nil_append → Vs, flatMap_cons → Vw, length_cons → Vx, not_mem_nil → V9
open World renaming block_lt_of_cell? → VB
section
structure Ac where
 send:Bool
 add:Bool
 step:Nat
 bucket:Nat
 phase:Nat
 round:Nat
 chunk:Nat
 lo:Nat
 hi:Nat
 deriving DecidableEq,Inhabited
structure It where
 kind:Nat
 step:Nat
 n:Nat
 a:Ac
 deriving DecidableEq,Inhabited
def Ac.cells (a:Ac):List Value:=[.bool a.send,.bool a.add,U O a.step,U O a.bucket,U O a.phase,U O a.round,U O a.chunk,U O a.lo,U O a.hi]
def It.cells (x:It):List Value:=[U O x.kind,U O x.step,U O x.n]++x.a.cells
def Ac.zero:Ac:=⟨false,false,0,0,0,0,0,0,0⟩
def acells (l:List Ac):List Value:=l.flatMap Ac.cells
def icells (l:List It):List Value:=l.flatMap It.cells
theorem Dx {α:Type} (f:α->List Value) (k:Nat) (hf:∀ a,(f a).length=k):∀ l:List α,(l.flatMap f).length=l.length*k
 | []=>by simp
 | a::r=>by rw [Vw,List.length_append,hf,Dx f k hf r,Vx,Vy,Vz]
theorem Ef {α:Type} (f:α->List Value) (k:Nat) (hf:∀ a,(f a).length=k):∀ (l:List α) (j:Nat) (a:α),l[j]?=some a->∀ i u,(f a)[i]?=some u->(l.flatMap f)[j*k+i]?=some u
 | [],j,a,h,_,_,_=>by simp at h
 | b::r,0,a,h,i,u,hu=>by
   simp at h;subst h
   rw [Vw,Nat.zero_mul,Vo];have hi:=(List.getElem?_eq_some_iff.1 hu).1;rw [List.getElem?_append_left hi];exact hu
 | b::r,j+1,a,h,i,u,hu=>by
   have ih:=Ef f k hf r j a (by simpa using h) i u hu;rw [Vw,List.getElem?_append_right (by rw [hf,Vy];omega),hf,show (j+1)*k+i-k=j*k+i by rw [Vy];omega];exact ih
theorem JX (l:List Ac):(acells l).length=l.length*9:=Dx _ 9 (fun _=>rfl) l
theorem Eg (l:List Ac) (a:Ac):acells (l++[a])=acells l++a.cells:=by simp [acells]
theorem JY (l:List It) (a:It):icells (l++[a])=icells l++a.cells:=by simp [icells]
theorem DP (a:Ac):∀ u∈a.cells,u.oneCell'=true:=by
 intro u hu;simp only [Ac.cells,List.mem_cons,V9,or_false] at hu
 rcases hu with rfl | rfl | rfl | rfl | rfl | rfl | rfl | rfl | rfl <;> rfl
theorem JZ (a:It):∀ u∈a.cells,u.oneCell'=true:=by
 intro u hu;simp only [It.cells,List.mem_append] at hu
 rcases hu with hu | hu
 . simp only [List.mem_cons,V9,or_false] at hu
   rcases hu with rfl | rfl | rfl <;> rfl
 . exact DP _ u hu
theorem NH:(Tryz.prog.info? 144).map (fun i=>(i.zero,i.size,i.bytes))=some (some (.agg Ac.zero.cells.toArray),9,64):=by kernel_rfl
theorem NI:(Tryz.prog.info? 146).map (fun i=>(i.zero,i.size,i.bytes))=some (some (.agg (It.cells ⟨0,0,0,Ac.zero⟩).toArray),12,88):=by kernel_rfl
theorem NJ:RowT Tryz.prog 278 144 9 64:=by
 obtain ⟨i0,hi,hz0,hz1,hz2⟩:=info_parts NH;exact ⟨i0,_,Tryz.underlying278,hi,hz0,hz1,hz2,rfl,by decide,by decide⟩
theorem NK:RowT Tryz.prog 166 146 12 88:=by
 obtain ⟨i0,hi,hz0,hz1,hz2⟩:=info_parts NI;exact ⟨i0,_,Tryz.underlying166,hi,hz0,hz1,hz2,rfl,by decide,by decide⟩
theorem FG (w:World) (e:TypeId) (size:Nat):(w.alloc (.cells #[] e)).ownsRow w.heap.size e size (Us (some ⟨w.heap.size,0,none⟩) 0 0) 0 [] :=
 ⟨by simp,.inr ⟨w.heap.size,0,#[],rfl,Vj _,heap_alloc_new w _,Vj _,by simp [maxLen],by simp,by simp⟩⟩
theorem FH {w:World} {B:Nat} {vs:List Value} (h:Rd w B none vs):vs=[]:=by
 cases vs with
 | nil=>rfl
 | cons v r=>obtain ⟨b,off,e,_⟩:=h (by simp);cases e
theorem NL:(Tryz.prog.info? 47).map (fun i=>(i.zero,i.size,i.bytes))=some (some (.agg #[U O 0,U O 0]),2,16):=by kernel_rfl
theorem NM:RowT Tryz.prog 44 47 2 16:=by
 obtain ⟨i0,hi,hz0,hz1,hz2⟩:=info_parts NL;exact ⟨i0,_,Tryz.underlying44,hi,hz0,hz1,hz2,rfl,by decide,by decide⟩
theorem NN (A:Option Addr) (n cap:Nat) (vs:List Value) (w:World) (hr:Rd w w.heap.size A vs) (hl:vs.length=n*2) (h1:∀ u∈vs,u.oneCell'=true) (hn:n<=1000000000) :
  Calls Tryz.prog 113 #[Us A n cap] w fun e w'=>∃ A' c',e=.returned (Us A' n c')/\w'.ownsRow w.heap.size 47 2 (Us A' n c') n vs/\n<=c'/\Below w.heap.size w w':=by
 rcases A with _ | a
 . obtain rfl:=FH hr;obtain rfl:n=0:=by simp at hl;omega
   have he:=fun c=>Vl (P:=Tryz.prog) w 44 47 none 0 c 0 0 Tryz.underlying44
   go_enter Tryz.func113,Tryz.ntmps113
   go_wp2
   go_ret;exact ⟨none,0,rfl,Bh _ _ _ _,Vj _,Vm _ _⟩
 . have hM:=(Vq w).push_own ((Vm w.heap.size w).alloc (Vj _) (.cells #[] 47)) (FG w 47 2) rfl;have hr2:=Vr (hr.alloc (Vj _) (.cells #[] 47)) (B':=(w.alloc (.cells #[] 47)).heap.size) (by simp);have HM:=K1 (Vi hM (Vi hr2 (Vi hl (Vi h1 hn))));clear hM hr2 hr hl h1 hn;have he:=Vl (P:=Tryz.prog) w 44 47 (some a) n cap 0 0 Tryz.underlying44;go_enter Tryz.func113,Tryz.ntmps113
   go_wp2_with (at_builtin;refine AQ rfl _ _ 44 rfl HM.out.1 1 NM rfl rfl (some a) n cap vs rfl HM.out.2.1 HM.out.2.2.1 HM.out.2.2.2.1 (by have:=HM.out.2.2.2.2;omega) ?_;intro A' c' w1 hM1)
   have HF:=K1 hM1;clear hM1
   go_wp2
   go_ret;have h2:=HF.out.own 1 rfl;simp only [Vo,Vs] at h2;exact ⟨A',c',by go_num,h2,Be h2,HF.out.bel 0 rfl⟩
theorem IG:(Tryz.prog.info? 2).map (fun i=>(i.zero,i.size,i.bytes))=some (some (U O 0),1,8):=by kernel_rfl
theorem Ka:RowT Tryz.prog 87 2 1 8:=by
 obtain ⟨i0,hi,hz0,hz1,hz2⟩:=info_parts IG;exact ⟨i0,_,Tryz.underlying87,hi,hz0,hz1,hz2,rfl,by decide,by decide⟩
theorem NO (A:Option Addr) (n cap:Nat) (vs:List Value) (w:World) (hr:Rd w w.heap.size A vs) (hl:vs.length=n*1) (h1:∀ u∈vs,u.oneCell'=true) (hn:n<=1000000000) :
  Calls Tryz.prog 143 #[Us A n cap] w fun e w'=>∃ A' c',e=.returned (Us A' n c')/\w'.ownsRow w.heap.size 2 1 (Us A' n c') n vs/\n<=c'/\Below w.heap.size w w':=by
 rcases A with _ | a
 . obtain rfl:=FH hr;obtain rfl:n=0:=by simp at hl;omega
   have he:=fun c=>Vl (P:=Tryz.prog) w 87 2 none 0 c 0 0 Tryz.underlying87
   go_enter Tryz.func143,Tryz.ntmps143
   go_wp2
   go_ret;exact ⟨none,0,rfl,Bh _ _ _ _,Vj _,Vm _ _⟩
 . have hM:=(Vq w).push_own ((Vm w.heap.size w).alloc (Vj _) (.cells #[] 2)) (FG w 2 1) rfl;have hr2:=Vr (hr.alloc (Vj _) (.cells #[] 2)) (B':=(w.alloc (.cells #[] 2)).heap.size) (by simp);have HM:=K1 (Vi hM (Vi hr2 (Vi hl (Vi h1 hn))));clear hM hr2 hr hl h1 hn;have he:=Vl (P:=Tryz.prog) w 87 2 (some a) n cap 0 0 Tryz.underlying87;go_enter Tryz.func143,Tryz.ntmps143
   go_wp2_with (at_builtin;refine AQ rfl _ _ 87 rfl HM.out.1 1 Ka rfl rfl (some a) n cap vs rfl HM.out.2.1 HM.out.2.2.1 HM.out.2.2.2.1 (by have:=HM.out.2.2.2.2;omega) ?_;intro A' c' w1 hM1)
   have HF:=K1 hM1;clear hM1
   go_wp2
   go_ret;have h2:=HF.out.own 1 rfl;simp only [Vo,Vs] at h2;exact ⟨A',c',by go_num,h2,Be h2,HF.out.bel 0 rfl⟩
theorem NP:(Tryz.prog.info? 2).map (fun i=>(i.zero,i.size,i.bytes))=some (some (U O 0),1,8):=by kernel_rfl
theorem DQ:RowT Tryz.prog 26 2 1 8:=by
 obtain ⟨i0,hi,hz0,hz1,hz2⟩:=info_parts NP;exact ⟨i0,_,Tryz.underlying26,hi,hz0,hz1,hz2,rfl,by decide,by decide⟩
theorem IH (A:Option Addr) (n cap:Nat) (vs:List Value) (w:World) (hr:Rd w w.heap.size A vs) (hl:vs.length=n*1) (h1:∀ u∈vs,u.oneCell'=true) (hn:n<=1000000000) :
  Calls Tryz.prog 129 #[Us A n cap] w fun e w'=>∃ A' c',e=.returned (Us A' n c')/\w'.ownsRow w.heap.size 2 1 (Us A' n c') n vs/\n<=c'/\Below w.heap.size w w':=by
 rcases A with _ | a
 . obtain rfl:=FH hr;obtain rfl:n=0:=by simp at hl;omega
   have he:=fun c=>Vl (P:=Tryz.prog) w 26 2 none 0 c 0 0 Tryz.underlying26
   go_enter Tryz.func129,Tryz.ntmps129
   go_wp2
   go_ret;exact ⟨none,0,rfl,Bh _ _ _ _,Vj _,Vm _ _⟩
 . have hM:=(Vq w).push_own ((Vm w.heap.size w).alloc (Vj _) (.cells #[] 2)) (FG w 2 1) rfl;have hr2:=Vr (hr.alloc (Vj _) (.cells #[] 2)) (B':=(w.alloc (.cells #[] 2)).heap.size) (by simp);have HM:=K1 (Vi hM (Vi hr2 (Vi hl (Vi h1 hn))));clear hM hr2 hr hl h1 hn;have he:=Vl (P:=Tryz.prog) w 26 2 (some a) n cap 0 0 Tryz.underlying26;go_enter Tryz.func129,Tryz.ntmps129
   go_wp2_with (at_builtin;refine AQ rfl _ _ 26 rfl HM.out.1 1 DQ rfl rfl (some a) n cap vs rfl HM.out.2.1 HM.out.2.2.1 HM.out.2.2.2.1 (by have:=HM.out.2.2.2.2;omega) ?_;intro A' c' w1 hM1)
   have HF:=K1 hM1;clear hM1
   go_wp2
   go_ret;have h2:=HF.out.own 1 rfl;simp only [Vo,Vs] at h2;exact ⟨A',c',by go_num,h2,Be h2,HF.out.bel 0 rfl⟩
theorem NQ:(Tryz.prog.info? 141).map (fun i=>(i.zero,i.size,i.bytes))=some (some (.int .u64 0),1,8):=by kernel_rfl
theorem NR:RowT Tryz.prog 27 141 1 8:=by
 obtain ⟨i0,hi,hz0,hz1,hz2⟩:=info_parts NQ;exact ⟨i0,_,Tryz.underlying27,hi,hz0,hz1,hz2,rfl,by decide,by decide⟩
theorem NS (A:Option Addr) (n cap:Nat) (vs:List Value) (w:World) (hr:Rd w w.heap.size A vs) (hl:vs.length=n*1) (h1:∀ u∈vs,u.oneCell'=true) (hn:n<=1000000000) :
  Calls Tryz.prog 137 #[Us A n cap] w fun e w'=>∃ A' c',e=.returned (Us A' n c')/\w'.ownsRow w.heap.size 141 1 (Us A' n c') n vs/\n<=c'/\Below w.heap.size w w':=by
 rcases A with _ | a
 . obtain rfl:=FH hr;obtain rfl:n=0:=by simp at hl;omega
   have he:=fun c=>Vl (P:=Tryz.prog) w 27 141 none 0 c 0 0 Tryz.underlying27
   go_enter Tryz.func137,Tryz.ntmps137
   go_wp2
   go_ret;exact ⟨none,0,rfl,Bh _ _ _ _,Vj _,Vm _ _⟩
 . have hM:=(Vq w).push_own ((Vm w.heap.size w).alloc (Vj _) (.cells #[] 141)) (FG w 141 1) rfl;have hr2:=Vr (hr.alloc (Vj _) (.cells #[] 141)) (B':=(w.alloc (.cells #[] 141)).heap.size) (by simp);have HM:=K1 (Vi hM (Vi hr2 (Vi hl (Vi h1 hn))));clear hM hr2 hr hl h1 hn;have he:=Vl (P:=Tryz.prog) w 27 141 (some a) n cap 0 0 Tryz.underlying27;go_enter Tryz.func137,Tryz.ntmps137
   go_wp2_with (at_builtin;refine AQ rfl _ _ 27 rfl HM.out.1 1 NR rfl rfl (some a) n cap vs rfl HM.out.2.1 HM.out.2.2.1 HM.out.2.2.2.1 (by have:=HM.out.2.2.2.2;omega) ?_;intro A' c' w1 hM1)
   have HF:=K1 hM1;clear hM1
   go_wp2
   go_ret;have h2:=HF.out.own 1 rfl;simp only [Vo,Vs] at h2;exact ⟨A',c',by go_num,h2,Be h2,HF.out.bel 0 rfl⟩
theorem Kb:(Tryz.prog.info? 3).map (fun i=>(i.zero,i.size,i.bytes))=some (some (U O 0),1,8):=by kernel_rfl
theorem EC:RowT Tryz.prog 22 3 1 8:=by
 obtain ⟨i0,hi,hz0,hz1,hz2⟩:=info_parts Kb;exact ⟨i0,_,Tryz.underlying22,hi,hz0,hz1,hz2,rfl,by decide,by decide⟩
theorem II (A:Option Addr) (n cap:Nat) (vs:List Value) (w:World) (hr:Rd w w.heap.size A vs) (hl:vs.length=n*1) (h1:∀ u∈vs,u.oneCell'=true) (hn:n<=1000000000) :
  Calls Tryz.prog 98 #[Us A n cap] w fun e w'=>∃ A' c',e=.returned (Us A' n c')/\w'.ownsRow w.heap.size 3 1 (Us A' n c') n vs/\n<=c'/\Below w.heap.size w w':=by
 rcases A with _ | a
 . obtain rfl:=FH hr;obtain rfl:n=0:=by simp at hl;omega
   have he:=fun c=>Vl (P:=Tryz.prog) w 22 3 none 0 c 0 0 Tryz.underlying22
   go_enter Tryz.func98,Tryz.ntmps98
   go_wp2
   go_ret;exact ⟨none,0,rfl,Bh _ _ _ _,Vj _,Vm _ _⟩
 . have hM:=(Vq w).push_own ((Vm w.heap.size w).alloc (Vj _) (.cells #[] 3)) (FG w 3 1) rfl;have hr2:=Vr (hr.alloc (Vj _) (.cells #[] 3)) (B':=(w.alloc (.cells #[] 3)).heap.size) (by simp);have HM:=K1 (Vi hM (Vi hr2 (Vi hl (Vi h1 hn))));clear hM hr2 hr hl h1 hn;have he:=Vl (P:=Tryz.prog) w 22 3 (some a) n cap 0 0 Tryz.underlying22;go_enter Tryz.func98,Tryz.ntmps98
   go_wp2_with (at_builtin;refine AQ rfl _ _ 22 rfl HM.out.1 1 EC rfl rfl (some a) n cap vs rfl HM.out.2.1 HM.out.2.2.1 HM.out.2.2.2.1 (by have:=HM.out.2.2.2.2;omega) ?_;intro A' c' w1 hM1)
   have HF:=K1 hM1;clear hM1
   go_wp2
   go_ret;have h2:=HF.out.own 1 rfl;simp only [Vo,Vs] at h2;exact ⟨A',c',by go_num,h2,Be h2,HF.out.bel 0 rfl⟩
def NT (w:World) (e:Ending) (w':World):Prop:=∃ r:Nat,e=.returned (U O r)/\w=w'
theorem NU (A:Option Addr) (cap:Nat) (zs:List Int) (w:World) (hr:RdI w w.heap.size A zs) (hm:zs.length<=16) (hz:zs.all okSz=true) :
  Calls Tryz.prog 136 #[Us A zs.length cap,.func (.func 96) #[] #[]] w fun e w'=>e=.returned (U O (-1))/\w=w':=by
 have hall:∀ z∈zs,okSz z=true:=List.all_eq_true.1 hz;have Hall:=K1 hall;clear hall hz;go_enter Tryz.func136,Tryz.ntmps136
 go_wp2
 go_loop [5,8] (fun j i=>∃ k:Nat,k<=zs.length/\i=U O k) (fun _ i=>zs.length-(intOf i).toNat)
 case atStart=>exact ⟨0,Nat.zero_le _,rfl⟩
 case round =>
  obtain ⟨k,hk,rfl⟩:=hrel
  by_cases hlt:k<zs.length
  . obtain ⟨b,off,rfl,_,hc⟩:=hr.at_ (by omega);obtain ⟨z,hz⟩:=Au zs k hlt;have c1:w.cell? ⟨b,off+k,none⟩=some (U O z):=hc _ _ hz;have ok1:okSz z=true:=Hall.out z (List.mem_of_getElem? hz);have HZ:=K1 hz;clear hz hc
    go_wp2_with (go_at_call 96;refine (ID _ _).mono ?_;rintro e w' ⟨rfl,rfl⟩)
    go_round
    case rel=>exact ⟨k+1,by omega,by go_num⟩
    case measure=>simp [intOf];omega
  . go_wp2
    go_ret;exact ⟨rfl,rfl⟩
theorem NV (A:Option Addr) (cap:Nat) (zs:List Int) (w:World) (hr:RdI w w.heap.size A zs) (hm:zs.length<=16) (hz:zs.all okSz=false) :
  Calls Tryz.prog 136 #[Us A zs.length cap,.func (.func 96) #[] #[]] w (NT w):=by
 have Hno:=K1 hz;clear hz;go_enter Tryz.func136,Tryz.ntmps136
 go_wp2
 go_loop [5,8] (fun j i=>∃ k:Nat,k<=zs.length/\i=U O k/\Hid ((zs.take k).all okSz=true)) (fun _ i=>zs.length-(intOf i).toNat)
 case atStart=>exact ⟨0,Nat.zero_le _,rfl,K1 rfl⟩
 case round =>
  obtain ⟨k,hk,rfl,hall⟩:=hrel
  by_cases hlt:k<zs.length
  . obtain ⟨b,off,rfl,_,hc⟩:=hr.at_ (by omega);obtain ⟨z,hz⟩:=Au zs k hlt;have c1:w.cell? ⟨b,off+k,none⟩=some (U O z):=hc _ _ hz;have HZ:=K1 hz;clear hz hc
    cases ok1:okSz z
    . go_wp2_with (go_at_call 96;refine (ID _ _).mono ?_;rintro e w' ⟨rfl,rfl⟩)
      go_ret;exact ⟨k,rfl,rfl⟩
    . go_wp2_with (go_at_call 96;refine (ID _ _).mono ?_;rintro e w' ⟨rfl,rfl⟩)
      go_round
      case rel=>exact ⟨k+1,by omega,by go_num,K1 (IE zs k z HZ.out hall.out ok1)⟩
      case measure=>simp [intOf];omega
  . exfalso
    have:=hall.out;rw [List.take_of_length_le (by omega),Hno.out] at this
    cases this
theorem Kc (A:Option Addr) (cap:Nat) (zs:List Int) (w:World) (hr:RdI w w.heap.size A zs) (hm:zs.length<=16) :
  Calls Tryz.prog 97 #[Us A zs.length cap,.func (.func 96) #[] #[]] w fun e w'=>e=.returned (.bool (!zs.all okSz))/\w=w':=by
 by_cases hz:zs.all okSz=true
 . have c1:=NU A cap zs w hr hm hz;have C1:=K1 c1;have HZ:=K1 hz;clear c1 hz;go_enter Tryz.func97,Tryz.ntmps97
   go_wp2_with (go_at_call 136;refine C1.out.mono ?_;rintro e w' ⟨rfl,rfl⟩)
   go_ret;exact ⟨AY (by rw [HZ.out];rfl),rfl⟩
 . have hz':zs.all okSz=false:=by simpa using hz
   have c1:=NV A cap zs w hr hm hz';have C1:=K1 c1;have HZ:=K1 hz';clear c1 hz hz';go_enter Tryz.func97,Tryz.ntmps97
   go_wp2_with (go_at_call 136;refine C1.out.mono ?_;rintro e w' ⟨r,rfl,rfl⟩)
   go_ret;exact ⟨AY (by rw [HZ.out];simp),rfl⟩
structure Mid (w:World) (B g:Nat) (vs vw vb:Value) (c:Int) (zs:List Int) (kw kb:Nat):Prop where
 blk:w.heap[g]?=some (.cells #[vs,vw,vb,U O c] 199 (0,0))
 box:w.heap[g+1]?=some (.cells #[.pointer (some ⟨g,0,none⟩)] 150 (0,0))
 sz:w.ownsRow B 3 1 vs zs.length (zs.map (Value.int .i64))
 ow:w.ownsRow B 47 2 vw kw (wcells zs kw)
 ob:w.ownsRow B 47 2 vb kb (bcells zs kb)
 ne:vw.ownBlock=none\/vw.ownBlock≠vb.ownBlock
 lo:B<=g
section
variable {w w':World} {B g:Nat} {vs vw vb:Value} {c c':Int} {zs:List Int} {kw kb:Nat}
theorem Mid.next (h:Mid w B g vs vw vb c zs kw kb) (hg:w'.heap[g]?=some (.cells #[vs,vw,vb,U O c'] 199 (0,0))) (hb:w.grownBy w' (some g)):Mid w' B g vs vw vb c' zs kw kb :=
 ⟨hg,DE h.box hb (by simp),h.sz.kept hb (.inr (Cl h.sz h.blk (by decide))),h.ow.kept hb (.inr (Cl h.ow h.blk (by decide))),h.ob.kept hb (.inr (Cl h.ob h.blk (by decide))),h.ne,h.lo⟩
theorem Mid.alloc (h:Mid w B g vs vw vb c zs kw kb) (o:Obj):Mid (w.alloc o) B g vs vw vb c zs kw kb :=
 ⟨Ct h.blk o,Ct h.box o,h.sz.alloc o,h.ow.alloc o,h.ob.alloc o,h.ne,h.lo⟩
theorem Mid.drew (h:Mid w B g vs vw vb c zs kw kb):Mid w.drew B g vs vw vb c zs kw kb:=⟨h.blk,h.box,h.sz,h.ow,h.ob,h.ne,h.lo⟩
theorem Mid.blkW (h:Mid w B g vs vw vb c zs kw kb) (hgr:w.grownBy w' vw.ownBlock):w'.heap[g]?=some (.cells #[vs,vw,vb,U O c] 199 (0,0)) :=
 DE h.blk hgr (Ne.symm (Cl h.ow h.blk (by decide)))
theorem Mid.blkB (h:Mid w B g vs vw vb c zs kw kb) (hgr:w.grownBy w' vb.ownBlock):w'.heap[g]?=some (.cells #[vs,vw,vb,U O c] 199 (0,0)) :=
 DE h.blk hgr (Ne.symm (Cl h.ob h.blk (by decide)))
theorem Mid.setW (h:Mid w B g vs vw vb c zs kw kb) {gg cap:Nat} (hown:w'.ownsRow B 47 2 (Us (some ⟨gg,0,none⟩) (kw+1) cap) (kw+1) (wcells zs (kw+1))) (hgr:w.grownBy w' vw.ownBlock)
  (hat:vw.ownBlock=some gg\/gg=w.heap.size):Mid (w'.setCell ⟨g,1,none⟩ (Us (some ⟨gg,0,none⟩) (kw+1) cap)) B g vs (Us (some ⟨gg,0,none⟩) (kw+1) cap) vb c zs (kw+1) kb:=by
 have hgb:=DE h.blk hgr (Ne.symm (Cl h.ow h.blk (by decide)));have hbx:=DE h.box hgr (Ne.symm (Cl h.ow h.box (by decide)));have hset:w'.grownBy (w'.setCell ⟨g,1,none⟩ (Us (some ⟨gg,0,none⟩) (kw+1) cap)) (some g):=I4 (World.grownBy.refl _ _) (.inl rfl) _;have hs:=h.sz.kept hgr (JQ h.sz h.ow (by decide))
 have hbo:vb.ownBlock=none\/vb.ownBlock≠vw.ownBlock:=by
  rcases h.ne with e | e
  . rw [e];cases hv:vb.ownBlock
    . exact .inl rfl
    . exact .inr (by simp)
  . exact .inr (Ne.symm e)
 have hb:=h.ob.kept hgr hbo;refine ⟨?_,GD hbx (by simp) _,hs.kept hset (.inr (Cl hs hgb (by decide))),hown.kept hset (.inr (Cl hown hgb (by decide))),hb.kept hset (.inr (Cl hb hgb (by decide))),?_,h.lo⟩
 . have:=Ec hgb 1 (Us (some ⟨gg,0,none⟩) (kw+1) cap)
   simpa using this
 . rcases hat with e | e
   . rcases h.ne with e' | e'
     . rw [e'] at e;cases e
     . right;rw [show (Value.slice (some ⟨gg,0,none⟩) (kw+1) cap).ownBlock=some gg from rfl,<- e];exact e'
   . right
     subst e;intro e2;exact absurd (h.ob.lt _ e2.symm).2 (Nat.lt_irrefl _)
theorem Mid.setB (h:Mid w B g vs vw vb c zs kw kb) {gg cap:Nat} (hown:w'.ownsRow B 47 2 (Us (some ⟨gg,0,none⟩) (kb+1) cap) (kb+1) (bcells zs (kb+1))) (hgr:w.grownBy w' vb.ownBlock)
  (hat:vb.ownBlock=some gg\/gg=w.heap.size):Mid (w'.setCell ⟨g,2,none⟩ (Us (some ⟨gg,0,none⟩) (kb+1) cap)) B g vs vw (Us (some ⟨gg,0,none⟩) (kb+1) cap) c zs kw (kb+1):=by
 have hgb:=DE h.blk hgr (Ne.symm (Cl h.ob h.blk (by decide)));have hbx:=DE h.box hgr (Ne.symm (Cl h.ob h.box (by decide)));have hset:w'.grownBy (w'.setCell ⟨g,2,none⟩ (Us (some ⟨gg,0,none⟩) (kb+1) cap)) (some g):=I4 (World.grownBy.refl _ _) (.inl rfl) _;have hs:=h.sz.kept hgr (JQ h.sz h.ob (by decide));have hw:=h.ow.kept hgr h.ne;refine ⟨?_,GD hbx (by simp) _,hs.kept hset (.inr (Cl hs hgb (by decide))),hw.kept hset (.inr (Cl hw hgb (by decide))),hown.kept hset (.inr (Cl hown hgb (by decide))),?_,h.lo⟩
 . have:=Ec hgb 2 (Us (some ⟨gg,0,none⟩) (kb+1) cap)
   simpa using this
 . rcases hat with e | e
   . rw [show (Value.slice (some ⟨gg,0,none⟩) (kb+1) cap).ownBlock=some gg from rfl,<- e];exact h.ne
   . cases hv:vw.ownBlock
     . exact .inl rfl
     . right
       subst e;intro e2;have h1:vw.ownBlock=some w.heap.size:=hv.trans e2;have:=(h.ow.lt _ h1).2;omega
end
def NW (w:World) (g:Nat) (vs vw vb:Value) (c n:Int) (e:Ending) (w':World):Prop :=
 e=.returned (.agg #[U O c,U O (c+n)])/\w'.heap[g]?=some (.cells #[vs,vw,vb,U O (c+n)] 199 (0,0))/\w.grownBy w' (some g)
theorem Kd (g bx:Nat) (vs vw vb:Value) (c n:Int) (w:World) (hg:w.heap[g]?=some (.cells #[vs,vw,vb,U O c] 199 (0,0))) (hbx:w.heap[bx]?=some (.cells #[.pointer (some ⟨g,0,none⟩)] 150 (0,0)))
  (c0:0<=c) (c1:c<=1000000000000000) (n0:0<=n) (n1:n<=1000000000000000) :
  Calls Tryz.prog 99 #[U O n,.pointer (some ⟨bx,0,none⟩)] w (NW w g vs vw vb c n):=by
 have hg1:w.cell? ⟨g,3,none⟩=some (U O c):=by simp [World.cell?,hg]
 have hg2:w.frozen? ⟨g,3,none⟩=false:=by simp [World.frozen?,hg]
 have hb1:w.cell? ⟨bx,0,none⟩=some (.pointer (some ⟨g,0,none⟩)):=by simp [World.cell?,hbx]
 have lg:=VB w _ hg1;have lb:=VB w _ hb1;have Hg:=K1 hg;clear hg hbx;go_enter Tryz.func99,Tryz.ntmps99
 go_wp2
 go_region_held3 (fun w'=>w'.cell? ⟨g,3,none⟩=some (U O c)/\w'.cell? ⟨bx,0,none⟩=some (.pointer (some ⟨g,0,none⟩))) (go_keep) (fail)
 go_wp2
 refine bodyPost_ret (v:=.agg #[U O c,U O (c+n)]) (by simp [results,Tryz.results99,go_sem]) rfl ⟨rfl,?_,?_⟩
 . have:=Ct (Ct (Ec Hg.out 3 (U O (c+n))) (.cells #[U O c,U O (c+n)] 47)) (.cells #[U O c,U O (c+n)] 47);simp at this;exact this
 . exact N8 (JR (JR (I4 (World.grownBy.refl _ _) (.inl rfl) _) _) _)
end
section
section
variable {P:Program} {ops:Array Oper} {Q:Exit->Act->World->Prop} {md:Vn} {S:World->Prop} {L:Nat}
def Ba (P:Program) (md:Vn) (ops:Array Oper) (Q:Exit->Act->World->Prop) (S:World->Prop) (L:Nat):Nat->Array Bool->Act->World->Prop
 | 0,listed,a,w=>Vk md ops listed=[]/\Q .normal a w
 | fuel+1,listed,a,w =>
   (Vk md ops listed=[]->Q .normal a w) /\
   ∀ i∈Vk md ops listed,wpOp P ops Q i (fun a' w'=>(i≠L->S w')/\Ba P md ops Q S L fuel (listed.setIfInBounds i true) a' w') a w
theorem Ba.any:∀ (fuel:Nat) (listed:Array Bool) (a:Act) (w:World),Ba P md ops Q S L fuel listed a w->wpAny P md ops Q fuel listed a w
 | 0,_,_,_,h=>h
 | fuel+1,_,_,_,h=>⟨h.1,fun i hi=>wpOp_mono (fun a' w' h'=>Ba.any fuel _ a' w' h'.2) (h.2 i hi)⟩
def waits (md:Vn) (ops:Array Oper) (L i:Nat):Bool :=
 match ops[L]? with
 | none=>false
 | some o=>o.after.any fun e=>Vt md e && e.on == i
theorem NX {i:Nat} {listed:Array Bool} (hw:waits md ops L i=true) (hr:i∈Vk md ops listed) {j:Nat} (hj:j∈Vk md ops listed):j≠L:=by
 rintro rfl;obtain ⟨_,oj,hoj,hall⟩:=mem_ready.1 hj;unfold waits at hw;rw [hoj] at hw;simp only [Array.any_eq_true',Vp,beq_iff_eq] at hw;obtain ⟨e,he,hb,heq⟩:=hw;have h1:=hall e he hb;have h0:=(mem_ready.1 hr).1;rw [heq] at h1
 rcases Vu i listed.size with h' | h'
 . simp [h'] at h0 h1;rw [h0] at h1;cases h1
 . simp [Array.getElem?_eq_none h'] at h1
theorem Ba.first {i:Nat} {oi:Oper} {v:Value} (hi:ops[i]?=some oi) (hsel:∀ (j:Nat) (o:Oper) cs b,ops[j]?=some o->o.op≠.select cs b)
  (hQ:∀ c a w,Q (.panic c) (a.put oi.dst v) w->Q (.panic c) a w) (hL:waits md ops L i=true) :
  ∀ (fuel:Nat) (listed:Array Bool) (a:Act) (w:World),
    (∀ j oj,ops[j]?=some oj->j≠i->listed.getD j true=false->(∀ e∈oj.after,Vt md e=true->e.on≠i)->oi.apart ops oj=true) ->
    i∈Vk md ops listed->YieldsIf P ops S oi v a->S w ->
    Ba P md ops Q S L fuel (listed.setIfInBounds i true) (a.put oi.dst v) w->Ba P md ops Q S L (fuel+1) listed a w:=by
 intro fuel
 induction fuel with
 | zero =>
   intro listed a w _ hr hy hS H;refine ⟨fun h=>(by rw [h] at hr;cases hr),fun j hj=>?_⟩
   by_cases hji:j=i
   . subst hji;exact hy.wpOp hi hS ⟨fun _=>hS,H⟩
   . have:=ready_mono hj hji;rw [H.1] at this
     cases this
 | succ fuel ih =>
   intro listed a w hfree hr hy hS H;refine ⟨fun h=>(by rw [h] at hr;cases hr),fun j hj=>?_⟩
   by_cases hji:j=i
   . subst hji;exact hy.wpOp hi hS ⟨fun _=>hS,H⟩
   have hjL:j≠L:=NX hL hr hj;obtain ⟨hjun,oj,hoj,hall⟩:=mem_ready.1 hj
   have hnot:∀ e∈oj.after,Vt md e=true->e.on≠i:=fun e he hb heq=>by
    have h1:=hall e he hb;have h0:=(mem_ready.1 hr).1;rw [heq] at h1
    rcases Vu i listed.size with h' | h'
    . simp [h'] at h0 h1;rw [h0] at h1;cases h1
    . simp [Array.getElem?_eq_none h'] at h1
   have h2:=wpOp_putIf hoj (hfree j oj hoj hji hjun hnot) (fun cs b=>hsel i oi cs b hi) (fun cs b=>hsel j oj cs b hoj) hQ hy (H.2 j (ready_mono hj hji));refine wpOp_mono (fun a' w' h3=>⟨fun _=>h3.2.1 hjL,ih (listed.setIfInBounds j true) a' w' (fun k ok hk hki hun hno=>?_) (ready_mono hr (Ne.symm hji)) h3.1 (h3.2.1 hjL) ?_⟩) h2
   . refine hfree k ok hk hki ?_ hno
     by_cases hjk:j=k
     . subst hjk;exact hjun
     . rw [getD_set_ne true hjk] at hun;exact hun
   . rw [Array.setIfInBounds_comm _ _ hji];exact h3.2.2
theorem Ba.take (i:Nat) {oi:Oper} {d:Option Tmp} {v:Value} {fuel:Nat} {listed:Array Bool} {a:Act} {w:World} (hi:ops[i]?=some oi) (hd:oi.dst=d)
  (hs:V0 ops=true) (hf:Region.free md ops listed i=true) (hr:(Vk md ops listed).contains i=true) (hL:waits md ops L i=true)
  (hQ:∀ c a w,Q (.panic c) (a.put d v) w->Q (.panic c) a w) (hw:Vv oi (yielded ops a.tmps)=true) (hS:S w) (hy:∀ w,S w->(execOp a.eval oi).run P w=.ok (.value v) w)
  (h:Ba P md ops Q S L fuel (listed.setIfInBounds i true) (a.put d v) w):Ba P md ops Q S L (fuel+1) listed a w:=by
 subst hd;exact Ba.first hi (VC hs) hQ hL fuel listed a w (VD hi hf) (by simpa using hr) (.inl ⟨hw,hy⟩) hS h
theorem Ba.step (i:Nat) {o:Oper} {fuel:Nat} {listed:Array Bool} {a:Act} {w:World} (hr:Vk md ops listed=[i]) (ho:ops[i]?=some o) (hne:i≠L) (hw:Vv o (yielded ops a.tmps)=true)
  (h:∀ K:Act->World->Prop,Hid (∀ a' w',S w'->Ba P md ops Q S L fuel (listed.setIfInBounds i true) a' w'->K a' w')->Oper.wp P o a w K Q):Ba P md ops Q S L (fuel+1) listed a w:=by
 refine ⟨fun h0=>absurd (hr ▸ h0) (by simp),fun j hj=>?_⟩;rw [hr] at hj;obtain rfl:j=i:=by simpa using hj
 refine wpOp_step ho fun K' hK=>?_;rw [if_pos hw];exact h K' (K1 fun a' w' hS' hA=>hK _ _ ⟨fun _=>hS',hA⟩)
theorem Ba.last {o:Oper} {fuel:Nat} {listed:Array Bool} {a:Act} {w:World} (hr:Vk md ops listed=[L]) (hr2:Vk md ops (listed.setIfInBounds L true)=[]) (ho:ops[L]?=some o) (hw:Vv o (yielded ops a.tmps)=true)
  (h:∀ K:Act->World->Prop,Hid (∀ a' w',Q .normal a' w'->K a' w')->Oper.wp P o a w K Q):Ba P md ops Q S L (fuel+1) listed a w:=by
 refine ⟨fun h0=>absurd (hr ▸ h0) (by simp),fun j hj=>?_⟩;rw [hr] at hj;obtain rfl:j=L:=by simpa using hj
 refine wpOp_step ho fun K' hK=>?_;rw [if_pos hw];refine h K' (K1 fun a' w' hq=>hK _ _ ⟨fun hne=>absurd rfl hne,?_⟩)
 cases fuel with
 | zero=>exact ⟨hr2,hq⟩
 | succ f=>exact ⟨fun _=>hq,by rw [hr2];simp⟩
theorem Ke {id:Nat} {a:Act} {w:World} (L:Nat) (S:World->Prop) (hm:P.follows .mixedOrders=true) (hS:S w.drew)
  (h:S w.drew->Ba P .any ops Q S L ops.size (Array.replicate ops.size false) a w.drew):(Code.region id ops true).wp P Q a w :=
 wp_region_any hm (Ba.any _ _ _ _ (h hS))
end
end
section
structure Cf where
 sh:Int
 ra:Int
 mo:Int
 wo:Int
 ba:Int
 mi:Int
 st:Int
 bu:Int
 ch:Int
 wi:Int
 ca:Int
def B7 (A:Option Addr) (n cap:Nat) (c:Cf):Value :=
 .agg #[Us A n cap,U O c.sh,U O c.ra,U O c.mo,U O c.wo,U O c.ba,U O c.mi,U O c.st,U O c.bu,U O c.ch,U O c.wi,U O c.ca]
def BL (c:Cf):Bool:=okSz c.mi && okSz c.bu && okSz c.ch && okSz c.wi && okSz c.ca && (decide (c.st=0) || okSz c.st)
def AT (zs:List Int) (c:Cf):Int :=
 if c.wo<1\/64<c.wo then 6
 else if c.sh<1\/62<c.sh then 9
 else if AV zs≠0 then AV zs
 else if BL c=false then 2
 else if c.ba<c.wo\/1048576<c.ba then 7 else 0
section
variable {zs:List Int} {c:Cf}
theorem code6 (h:c.wo<1\/64<c.wo):AT zs c=6:=if_pos h
theorem code9 (h:¬ c.wo<1) (h':¬ 64<c.wo) (h1:c.sh<1\/62<c.sh):AT zs c=9:=by
 unfold AT;rw [if_neg (by omega),if_pos h1]
theorem Kg (h:¬ c.wo<1) (h':¬ 64<c.wo) (h1:¬ c.sh<1) (h1':¬ 62<c.sh) (h2:AV zs≠0):AT zs c=AV zs:=by
 unfold AT;rw [if_neg (by omega),if_neg (by omega),if_pos h2]
theorem code2 (h:¬ c.wo<1) (h':¬ 64<c.wo) (h1:¬ c.sh<1) (h1':¬ 62<c.sh) (h2:AV zs=0) (h3:BL c=false):AT zs c=2:=by
 unfold AT;rw [if_neg (by omega),if_neg (by omega),if_neg (by simp [h2]),if_pos h3]
theorem code7 (h:¬ c.wo<1) (h':¬ 64<c.wo) (h1:¬ c.sh<1) (h1':¬ 62<c.sh) (h2:AV zs=0) (h3:BL c=true) (h4:c.ba<c.wo\/1048576<c.ba):AT zs c=7:=by
 unfold AT;rw [if_neg (by omega),if_neg (by omega),if_neg (by simp [h2]),if_neg (by simp [h3]),if_pos h4]
theorem code0 (h:¬ c.wo<1) (h':¬ 64<c.wo) (h1:¬ c.sh<1) (h1':¬ 62<c.sh) (h2:AV zs=0) (h3:BL c=true) (h4:¬ c.ba<c.wo) (h4':¬ 1048576<c.ba):AT zs c=0:=by
 unfold AT;rw [if_neg (by omega),if_neg (by omega),if_neg (by simp [h2]),if_neg (by simp [h3]),if_neg (by omega)]
end
end
section
section
variable {P:Program} {ops:Array Oper} {Q:Exit->Act->World->Prop} {md:Vn} {S:World->Prop} {t:Nat}
def AnyT (P:Program) (md:Vn) (ops:Array Oper) (Q:Exit->Act->World->Prop) (S:World->Prop) (t:Nat):Nat->Array Bool->Act->World->Prop
 | 0,listed,a,w=>Vk md ops listed=[]/\Q .normal a w
 | fuel+1,listed,a,w =>
   (Vk md ops listed=[]->Q .normal a w) /\
   ∀ i∈Vk md ops listed,wpOp P ops Q i (fun a' w'=>(i<t->S w')/\AnyT P md ops Q S t fuel (listed.setIfInBounds i true) a' w') a w
theorem AnyT.any:∀ (fuel:Nat) (listed:Array Bool) (a:Act) (w:World),AnyT P md ops Q S t fuel listed a w->wpAny P md ops Q fuel listed a w
 | 0,_,_,_,h=>h
 | fuel+1,_,_,_,h=>⟨h.1,fun i hi=>wpOp_mono (fun a' w' h'=>AnyT.any fuel _ a' w' h'.2) (h.2 i hi)⟩
theorem AnyT.of_any:∀ (fuel:Nat) (listed:Array Bool) (a:Act) (w:World),(∀ j∈Vk md ops listed,t<=j)->(∀ j ok,ops[j]?=some ok->j<t->listed.getD j true=true)->wpAny P md ops Q fuel listed a w->AnyT P md ops Q S t fuel listed a w
 | 0,_,_,_,_,_,h=>h
 | fuel+1,listed,a,w,hr,hl,h=>⟨h.1,fun i hi=>wpOp_mono (fun a' w' h'=>⟨fun hlt=>absurd (hr i hi) (by omega),AnyT.of_any fuel _ a' w' (fun j hj=>by
   obtain ⟨h0,oj,hoj,_⟩:=mem_ready.1 hj
   rcases Vu j t with h1 | h1
   . have h2:=hl j oj hoj h1;have hne:i≠j:=fun e=>by subst e;have:=hr i hi;omega
     rw [getD_set_ne true hne] at h0;rw [h0] at h2
     cases h2
   . exact h1) (fun j ok hok hlt=>by
     have hne:i≠j:=fun e=>by subst e;have:=hr i hi;omega
     rw [getD_set_ne true hne]
     exact hl j ok hok hlt) h'⟩) (h.2 i hi)⟩
def YA (P:Program) (ops:Array Oper) (S:World->Prop) (o:Oper) (v:Value) (a:Act):Prop:=∀ w,S w->YieldsAt P ops w o v a
theorem YA.of_same {o:Oper} {v:Value} {a a':Act} (hy:YA P ops S o v a) (he:execOp a'.eval o=execOp a.eval o) (hw:Vv o (yielded ops a'.tmps)=Vv o (yielded ops a.tmps)):YA P ops S o v a':=fun w hS=>(hy w hS).of_same he hw
theorem YA.wpOp {i:Nat} {o:Oper} {v:Value} {a:Act} (hi:ops[i]?=some o) (hy:YA P ops S o v a) {K:Act->World->Prop} {w:World} (hS:S w) (h:K (a.put o.dst v) w):wpOp P ops Q i K a w :=
 wpOp_of_stOp (K:=fun a'=>K a' w) (fun _ h=>h) ((hy w hS).stOp hi h)
theorem YA.comm {j:Nat} {oi oj:Oper} {v:Value} (hj:ops[j]?=some oj) (hap:oi.apart ops oj=true)
  (hsi:∀ cs b,oi.op≠.select cs b) (hsj:∀ cs b,oj.op≠.select cs b)
  (hQ:∀ c a w,Q (.panic c) (a.put oi.dst v) w->Q (.panic c) a w) {K:Act->World->Prop} {a:Act} {w:World}
  (hy:YA P ops S oi v a) (h:Go.wpOp P ops Q j K (a.put oi.dst v) w) :
  Go.wpOp P ops Q j (fun a' w'=>YA P ops S oi v a'/\K (a'.put oi.dst v) w') a w:=by
 obtain ⟨h1,h2,h3⟩:=Oper.apart_spec hap
 have keep:∀ (a:Act),YA P ops S oi v a->∀ u,YA P ops S oi v (a.put oj.dst u):=fun a hy u =>
  hy.of_same (execOp_put oi hsi a oj.dst u h3) (wanted_put oi a oj.dst u h3)
 have keepD:∀ d,YA P ops S oi v { a with defers:=d::a.defers }:=fun d=>hy.of_same rfl rfl
 unfold Go.wpOp at *;simp only [hj] at *;rw [wanted_put oj a oi.dst v h1] at h
 split
 . rename_i hw
   simp only [hw,if_true] at h
   rcases h with h | ⟨hasks,hlets⟩
   case inr=>exact .inr ⟨by unfold Oper.asks at *;rw [execOp_put oj hsj a oi.dst v h1] at hasks;exact hasks,hlets⟩
   refine .inl ?_;unfold Oper.wp at *;rw [execOp_put oj hsj a oi.dst v h1] at h;generalize (execOp a.eval oj).run P w=r at *
   cases r with
   | ok n w' =>
     cases n <;> simp only [Oper.upon] at h ⊢
     case value u=>exact ⟨keep a hy u,by rw [<- Act.put_comm a v u h2];exact h⟩
     case skip=>exact ⟨keep a hy _,by rw [<- Act.put_comm a v undef h2];exact h⟩
     case defer d =>
      refine ⟨keep _ (keepD d) _,?_⟩;rw [<- Act.put_comm _ v undef h2,<- Act.put_defers];exact h
     case enter f args =>
      refine Calls.mono h fun e w'' he=>?_
      cases e with
      | returned u=>exact ⟨keep a hy u,by rw [<- Act.put_comm a v u h2];exact he⟩
      | panicked c=>exact hQ _ _ _ he
      | outgrown=>exact he
     case row row args=>exact Rows.mono h fun u w'' he=>⟨keep a hy u,by rw [<- Act.put_comm a v u h2];exact he⟩
   | halt x w' =>
     cases x <;> simp only [Oper.upon] at h ⊢
     case panic u=>exact hQ _ _ _ h
 . rename_i hw
   simp only [hw] at h;exact ⟨keep a hy _,by rw [<- Act.put_comm a v undef h2];exact h⟩
theorem AnyT.first {i:Nat} {oi:Oper} {v:Value} (hi:ops[i]?=some oi) (hsel:∀ (j:Nat) (o:Oper) cs b,ops[j]?=some o->o.op≠.select cs b)
  (hQ:∀ c a w,Q (.panic c) (a.put oi.dst v) w->Q (.panic c) a w) (ht:∀ j,t<=j->j<ops.size->VE md ops j i=true) :
  ∀ (fuel:Nat) (listed:Array Bool) (a:Act) (w:World),
    (∀ j oj,ops[j]?=some oj->j≠i->listed.getD j true=false->(∀ e∈oj.after,Vt md e=true->e.on≠i)->oi.apart ops oj=true) ->
    i∈Vk md ops listed->YA P ops S oi v a->S w ->
    AnyT P md ops Q S t fuel (listed.setIfInBounds i true) (a.put oi.dst v) w->AnyT P md ops Q S t (fuel+1) listed a w:=by
 intro fuel
 induction fuel with
 | zero =>
   intro listed a w _ hr hy hS H;refine ⟨fun h=>(by rw [h] at hr;cases hr),fun j hj=>?_⟩
   by_cases hji:j=i
   . subst hji;exact hy.wpOp hi hS ⟨fun _=>hS,H⟩
   . have:=ready_mono hj hji;rw [H.1] at this
     cases this
 | succ fuel ih =>
   intro listed a w hfree hr hy hS H;refine ⟨fun h=>(by rw [h] at hr;cases hr),fun j hj=>?_⟩
   by_cases hji:j=i
   . subst hji;exact hy.wpOp hi hS ⟨fun _=>hS,H⟩
   obtain ⟨hjun,oj,hoj,hall⟩:=mem_ready.1 hj
   have hnot:∀ e∈oj.after,Vt md e=true->e.on≠i:=fun e he hb heq=>by
    have h1:=hall e he hb;have h0:=(mem_ready.1 hr).1;rw [heq] at h1
    rcases Vu i listed.size with h' | h'
    . simp [h'] at h0 h1;rw [h0] at h1;cases h1
    . simp [Array.getElem?_eq_none h'] at h1
   have hjt:j<t:=by
    rcases Vu j t with h | h
    . exact h
    . obtain ⟨oj',hoj',e,he,hb,heq⟩:=Region.waitsFor_spec (ht j h (Array.getElem?_eq_some_iff.1 hoj).1);rw [hoj] at hoj';injection hoj' with hoj'
      subst hoj';exact absurd heq (hnot e he hb)
   have h2:=YA.comm hoj (hfree j oj hoj hji hjun hnot) (fun cs b=>hsel i oi cs b hi) (fun cs b=>hsel j oj cs b hoj) hQ hy (H.2 j (ready_mono hj hji));refine wpOp_mono (fun a' w' h3=>⟨fun _=>h3.2.1 hjt,ih (listed.setIfInBounds j true) a' w' (fun k ok hk hki hun hno=>?_) (ready_mono hr (Ne.symm hji)) h3.1 (h3.2.1 hjt) ?_⟩) h2
   . refine hfree k ok hk hki ?_ hno
     by_cases hjk:j=k
     . subst hjk;exact hjun
     . rw [getD_set_ne true hjk] at hun;exact hun
   . rw [Array.setIfInBounds_comm _ _ hji];exact h3.2.2
theorem NY {w:World} {o:Oper} {a:Act} {K:Act->Prop} (h:o.still P a w K):∃ v,K (a.put o.dst v):=by
 unfold Oper.still at h;generalize (execOp a.eval o).run P w=r at h
 cases r with
 | ok n w' =>
   cases n <;> simp only [Oper.stillUpon] at h
   case value u=>exact ⟨u,h.2⟩
   case skip=>exact ⟨_,h.2⟩
   case enter f args=>obtain ⟨_,v,_,h2⟩:=h;exact ⟨v,h2⟩
 | halt x w'=>simp only [Oper.stillUpon] at h
theorem GI {w:World} {a':Act} (d:Tmp):∀ (l:List Oper) (a:Act),(∀ o∈l,o.dst≠some d)->wpStill P ops w (fun x=>x=a') l a->a'.tmps[d]?=a.tmps[d]?/\a'.tmps.size=a.tmps.size
 | [],a,_,h=>by cases h;exact ⟨rfl,rfl⟩
 | o::r,a,hd,h=>by
   have key:∃ v,wpStill P ops w (fun x=>x=a') r (a.put o.dst v):=by
    unfold wpStill at h
    split at h
    . exact NY h
    . exact ⟨_,h⟩
   obtain ⟨v,hv⟩:=key;obtain ⟨h1,h2⟩:=GI d r _ (fun o' ho'=>hd o' (List.mem_cons_of_mem _ ho')) hv;have hne:=hd o (List.mem_cons_self ..);rw [h1,h2]
   cases ho:o.dst with
   | none=>exact ⟨rfl,rfl⟩
   | some e =>
     rw [ho] at hne;refine ⟨?_,by simp [Act.put]⟩;simp only [Act.put];exact Array.getElem?_setIfInBounds_ne (fun e'=>hne (by rw [e']))
def dstB (size:Nat):List Oper->Bool
 | []=>true
 | o::r=>(match o.dst with | some d=>decide (d<size) && r.all (fun o'=>o'.dst != some d) | none=>false) && dstB size r
def EY (md:Vn) (ops:Array Oper) (t:Nat):Nat->Nat->Array Bool->Array Bool × Bool
 | 0,_,listed=>(listed,true)
 | f+1,k,listed=>let r:=EY md ops t f (k+1) (listed.setIfInBounds k true)
   (r.1,(Vk md ops listed).contains k && Region.free md ops listed k && (List.range (ops.size-t)).all (fun j=>VE md ops (t+j) k) && r.2)
theorem AnyT.reads (hsel:V0 ops=true) (hQ:∀ d v c a w,Q (.panic c) (a.put d v) w->Q (.panic c) a w) {a':Act} {w:World} (hS:S w) :
  ∀ (l:List Oper) (k fuel:Nat) (listed:Array Bool) (a:Act),(∀ j,j<l.length->l[j]?=ops[k+j]?)->(EY md ops t l.length k listed).2=true->dstB a.tmps.size l=true ->
  (∀ W,S W->wpStill P ops W (fun x=>x=a') l a)->AnyT P md ops Q S t fuel (EY md ops t l.length k listed).1 a' w->AnyT P md ops Q S t (l.length+fuel) listed a w
 | [],k,fuel,listed,a,_,_,_,hR,H=>by
   have:a=a':=hR w hS;subst this
   simpa [EY] using H
 | o::l,k,fuel,listed,a,hl,hB,hD,hR,H=>by
   have h0:ops[k]?=some o:=by simpa using (hl 0 (by simp)).symm
   simp only [Vx,EY,Vp] at hB H;obtain ⟨⟨⟨hr,hf⟩,hw⟩,hB'⟩:=hB;simp only [dstB,Vp] at hD;obtain ⟨hd1,hd2⟩:=hD
   cases hod:o.dst with
   | none=>rw [hod] at hd1;cases hd1
   | some d =>
     rw [hod] at hd1;simp only [Vp,decide_eq_true_eq,List.all_eq_true,bne_iff_ne,ne_eq] at hd1
     have get:∀ W,S W->∃ v,YieldsAt P ops W o v a/\wpStill P ops W (fun x=>x=a') l (a.put o.dst v)/\a'.tmps[d]?=some v:=fun W hW=>by
      have hst:stOp P ops W k (wpStill P ops W (fun x=>x=a') l) a:=by unfold stOp;simp only [h0];exact hR W hW
      obtain ⟨v,hy,hK⟩:=yieldsAt_of_stOp h0 hst;refine ⟨v,hy,hK,?_⟩;rw [(GI d l _ (fun o' ho'=>hd1.2 o' ho') hK).1,hod];simp [Act.put,hd1.1]
     obtain ⟨v,hy,hK,hv⟩:=get w hS
     have hYA:YA P ops S o v a:=fun W hW=>by
      obtain ⟨u,hyu,_,hu⟩:=get W hW;rw [hv] at hu;injection hu with hu
      subst hu;exact hyu
     have hsz:(a.put o.dst v).tmps.size=a.tmps.size:=by rw [hod];simp [Act.put]
     rw [show (o::l).length+fuel=(l.length+fuel)+1 by simp;omega];refine AnyT.first h0 (VC hsel) (hQ _ _) (fun j hj hjs=>?_) _ _ _ _ (VD h0 hf) (by simpa using hr) hYA hS ?_
     . have:=List.all_eq_true.1 hw (j-t) (List.mem_range.2 (by omega))
       rwa [show t+(j-t)=j by omega] at this
     . refine AnyT.reads hsel hQ hS l (k+1) fuel _ _ (fun j hj=>by have:=hl (j+1) (by simp;omega);simpa [Nat.add_assoc,Vz 1 j] using this) hB' (by rw [hsz];exact hd2) (fun W hW=>?_) H;obtain ⟨u,hyu,hKu,hu⟩:=get W hW;rw [hv] at hu;injection hu with hu
       subst hu;exact hKu
def Spine (P:Program) (ops:Array Oper) (Q:Exit->Act->World->Prop) (S:World->Prop) (rest:List Oper):List Oper->Act->World->Prop
 | [],a,w=>wpList P ops Q rest a w
 | o::l,a,w=>wpList P ops (fun e a' w'=>match e with | .normal=>S w'/\Spine P ops Q S rest l a' w' | e=>Q e a' w') [o] a w
theorem Spine.nil_ {rest:List Oper} {a:Act} {w:World} (h:wpList P ops Q rest a w):Spine P ops Q S rest [] a w:=h
def Behind (P:Program) (ops:Array Oper) (Q:Exit->Act->World->Prop) (S:World->Prop) (rest l:List Oper) (e:Exit) (a:Act) (w:World):Prop :=
 match e with | .normal=>S w/\Spine P ops Q S rest l a w | e=>Q e a w
theorem Behind.go {rest l:List Oper} {a:Act} {w:World} (hS:S w) (h:Spine P ops Q S rest l a w):Behind P ops Q S rest l .normal a w:=⟨hS,h⟩
theorem FI {rest l:List Oper} {e:Exit} {a:Act} {w:World} (h:∀ W,Hid (W=w)->Behind P ops Q S rest l e a W):Behind P ops Q S rest l e a w:=h w (K1 rfl)
theorem Spine.step {rest l:List Oper} {o:Oper} {a:Act} {w:World} (h:wpList P ops (Behind P ops Q S rest l) [o] a w):Spine P ops Q S rest (o::l) a w:=by
 have e:(Behind P ops Q S rest l)=(fun e a' w'=>match e with | .normal=>S w'/\Spine P ops Q S rest l a' w' | e=>Q e a' w'):=by
  funext e a' w'
  cases e <;> rfl
 rw [e] at h;exact h
theorem Kh {o:Oper} {a:Act} {K:Act->World->Prop} {Q Q':Exit->Act->World->Prop} (hp:∀ c a w,Q (.panic c) a w->Q' (.panic c) a w) (ho:LetsOut Q->LetsOut Q') {r:Result Next} (h:o.upon P a K Q r):o.upon P a K Q' r:=by
 cases r with
 | ok n w' =>
   cases n <;> simp only [Oper.upon] at h ⊢
   case enter f args =>
    refine Calls.mono h fun e w'' he=>?_
    cases e with
    | returned u=>exact he
    | panicked c=>exact hp _ _ _ he
    | outgrown=>exact ho he
   all_goals exact h
 | halt x w' =>
   cases x <;> simp only [Oper.upon] at h ⊢
   case panic u=>exact hp _ _ _ h
theorem Ki {i:Nat} {o:Oper} {a:Act} {w:World} {rest l:List Oper} (hi:ops[i]?=some o) (h:wpList P ops (Behind P ops Q S rest l) [o] a w):Go.wpOp P ops Q i (fun a' w'=>S w'/\Spine P ops Q S rest l a' w') a w:=by
 unfold Go.wpOp;simp only [hi];unfold wpList at h
 have hlo:LetsOut (Behind P ops Q S rest l)->LetsOut Q:=fun ⟨a,w,h⟩=>⟨a,w,h⟩
 split
 . rename_i hw
   rw [if_pos hw] at h
   rcases h with h | ⟨h1,h2⟩
   . exact .inl (Kh (K:=fun a' w'=>S w'/\Spine P ops Q S rest l a' w') (fun _ _ _ h=>h) hlo h)
   . exact .inr ⟨h1,hlo h2⟩
 . rename_i hw
   rw [if_neg hw] at h;exact h
def EZ (md:Vn) (ops:Array Oper):Nat->Nat->Array Bool->Array Bool × Bool
 | 0,_,listed=>(listed,true)
 | g+1,k,listed=>let r:=EZ md ops g (k+1) (listed.setIfInBounds k true)
   (r.1,decide (Vk md ops listed=[k]) && r.2)
theorem AnyT.spine {rest:List Oper} {fuel:Nat}:∀ (l:List Oper) (k:Nat) (listed:Array Bool) (a:Act) (w:World),(∀ j,j<l.length->l[j]?=ops[k+j]?)->(EZ md ops l.length k listed).2=true ->
  (∀ a w,wpList P ops Q rest a w->AnyT P md ops Q S t fuel (EZ md ops l.length k listed).1 a w)->Spine P ops Q S rest l a w->AnyT P md ops Q S t (l.length+fuel) listed a w
 | [],k,listed,a,w,_,_,H,h=>by simpa [EZ] using H a w h
 | o::l,k,listed,a,w,hl,hB,H,h=>by
   have h0:ops[k]?=some o:=by simpa using (hl 0 (by simp)).symm
   simp only [Vx,EZ,Vp,decide_eq_true_eq] at hB H;rw [show (o::l).length+fuel=(l.length+fuel)+1 by simp;omega];refine ⟨fun h1=>(by rw [hB.1] at h1;cases h1),fun i hi=>?_⟩;rw [hB.1] at hi;obtain rfl:i=k:=by simpa using hi
   refine wpOp_mono (fun a' w' h'=>⟨fun _=>h'.1,AnyT.spine l (i+1) _ a' w' (fun j hj=>by have:=hl (j+1) (by simp;omega);simpa [Nat.add_assoc,Vz 1 j] using this) hB.2 H h'.2⟩) (?_:Go.wpOp P ops Q i (fun a' w'=>S w'/\Spine P ops Q S rest l a' w') a w);refine Ki h0 (?_:wpList P ops (Behind P ops Q S rest l) [o] a w)
   have e:(Behind P ops Q S rest l)=(fun e a' w'=>match e with | .normal=>S w'/\Spine P ops Q S rest l a' w' | e=>Q e a' w'):=by
    funext e a' w'
    cases e <;> rfl
   rw [e];exact h
def Kj (ops:Array Oper) (n m:Nat):Bool :=
 let r:=EY .any ops (n+m) n 0 (Array.replicate ops.size false)
 let s:=EZ .any ops m n r.1
 V0 ops && decide (n+m<=ops.size) && r.2 && s.2 && Region.seqB .any ops (ops.size-(n+m)) (n+m) s.1 &&
  (List.range (n+m)).all (fun j=>s.1.getD j true)
theorem FJ {id:Nat} {a:Act} {w:World} {l:List Oper} (n m:Nat) (S:World->Prop) (hm:P.follows .mixedOrders=true) (hB:Kj l.toArray n m=true) (hD:dstB a.tmps.size (l.take n)=true)
  (hQ:∀ d v c a w,Q (.panic c) (a.put d v) w->Q (.panic c) a w) (hS:S w.drew)
  (hRT:∃ a',(∀ W,S W->wpStill P l.toArray W (fun x=>x=a') (l.take n) a)/\Spine P l.toArray Q S (l.drop (n+m)) ((l.drop n).take m) a' w.drew):(Code.region id l.toArray true).wp P Q a w:=by
 obtain ⟨a',hR,hT⟩:=hRT;simp only [Kj,Vp,decide_eq_true_eq] at hB;obtain ⟨⟨⟨⟨⟨hsel,hsz⟩,h1⟩,h2⟩,h3⟩,h4⟩:=hB;have hsz':n+m<=l.length:=by simpa using hsz
 have e1:(l.take n).length=n:=by simp;omega
 have e2:((l.drop n).take m).length=m:=by simp;omega
 have e3:(l.drop (n+m)).length=l.toArray.size-(n+m):=by simp
 refine wp_region_any hm ?_
 have H:AnyT P .any l.toArray Q S (n+m) ((l.take n).length+(((l.drop n).take m).length+(l.drop (n+m)).length)) (Array.replicate l.toArray.size false) a w.drew:=by
  refine AnyT.reads hsel hQ (a':=a') hS (l.take n) 0 _ _ a (fun j hj=>by
   have hj':j<n:=by rw [e1] at hj;exact hj
   simp [hj']) (by rw [e1];exact h1) hD hR ?_
  rw [e1]
  refine AnyT.spine ((l.drop n).take m) n _ a' _ (fun j hj=>by
   have hj':j<m:=by rw [e2] at hj;exact hj
   simp [hj']) (by rw [e2];exact h2) (fun a w h=>?_) hT
  rw [e2];refine AnyT.of_any _ _ _ _ (seqB_ready h3) (fun j ok hok hlt=>?_) ?_
  . have:=List.all_eq_true.1 h4 j (List.mem_range.2 hlt);exact this
  . exact wpAny_of_seq (l.drop (n+m)) (n+m) _ a w (fun j=>by simp [List.getElem?_drop]) (by rw [e3];exact h3) h
 have e4:(l.take n).length+(((l.drop n).take m).length+(l.drop (n+m)).length)=l.toArray.size:=by rw [e1,e2,e3];simp;omega
 rw [e4] at H;exact AnyT.any _ _ _ _ H
end
end
end Go.Proofs.YtdpojpcoghcieaaGreat
