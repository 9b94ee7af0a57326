/- Walks: data.numbers and what it returns, a sequence of all numbers of examples. Conditions: none. -/
import Derived.Test.YtnifbipbpengeaaDoorConcat
import Derived.Test.YtnifbipbpengeaaDoorRangePlain
import Derived.Test.YtnifbipbpengeaaDoorOwn
import Derived.RangeFuncNested
import Derived.RangeFuncBound
import Derived.RangeFuncCalls
import Derived.RangeFuncLeaves
import Derived.RangeFuncBox
import Derived.Shelf.Abstract
import Derived.Shelf.RegionOpen
import Derived.WalkKit
import Derived.OwnWalkIn
import Derived.TacticsInMore
import Derived.LoopNIn
import Derived.LoopIn
namespace Go.Proofs.YtnifbipbpengeaaDoor
open Go.RowKit Go.Shelf
attribute [local go_sem] Oper.semAt_some

/-- What a round keeps: all cells but those of the blocks from n₁ up to n₂. -/
structure KeepsBut (n₁ n₂ : Nat) (W W' : World) : Prop where
  size : W.heap.size ≤ W'.heap.size
  cells : ∀ (b o : Nat) (v : Value), (b < n₁ ∨ n₂ ≤ b) → W.cell? ⟨b, o, none⟩ = some v → W'.cell? ⟨b, o, none⟩ = some v
theorem KeepsBut.refl (n₁ n₂ : Nat) (W : World) : KeepsBut n₁ n₂ W W := ⟨Nat.le_refl _, fun _ _ _ _ h => h⟩
theorem KeepsBut.trans {n₁ n₂ : Nat} {A B C : World} (h : KeepsBut n₁ n₂ A B) (k : KeepsBut n₁ n₂ B C) : KeepsBut n₁ n₂ A C :=
  ⟨Nat.le_trans h.size k.size, fun b o v hb hc => k.cells b o v hb (h.cells b o v hb hc)⟩
theorem KeepsBut.put {n₁ n₂ : Nat} (W : World) (l : Nat) (o o' : Obj) (h : W.heap[l]? = some o) (ho : o.isCells = false) : KeepsBut n₁ n₂ W (W.putObj l o') := by
  have hg := grownBy_putObj' W l o'
  refine ⟨hg.size, fun b off _ _ hc => ?_⟩
  have hlt := World.block_lt_of_cell? W _ hc
  by_cases hb : b = l
  · subst hb
    unfold World.cell? at hc
    dsimp only at hc
    rw [h] at hc
    cases o with
    | cells _ _ _ => cases ho
    | _ => cases hc
  · exact (World.cell?_of_block (a := ⟨b, off, none⟩) (hg.block b hlt (fun e => hb (by cases e; rfl)))).trans hc
theorem KeepsBut.below {n₁ n₂ : Nat} {W W' : World} (h : Below W.heap.size W W') : KeepsBut n₁ n₂ W W' :=
  ⟨h.size, fun b o _ _ hc => (h.cell (p := ⟨b, o, none⟩) (World.block_lt_of_cell? W _ hc)).trans hc⟩
theorem KeepsBut.rd {n₁ n₂ : Nat} {W W' : World} {A : Option Addr} {vs : List Value} (h : KeepsBut n₁ n₂ W W') (hr : Rd W n₁ A vs) : Rd W' n₁ A vs := fun h0 => by
  obtain ⟨b, off, e, hb, hc⟩ := hr h0
  exact ⟨b, off, e, hb, fun j u hu => h.cells b _ u (.inl hb) (hc j u hu)⟩
theorem KeepsBut.rdE {n₁ n₂ : Nat} {W W' : World} {A : Option Addr} {l : List Ex} (h : KeepsBut n₁ n₂ W W') (hr : RdE W n₁ A l) : RdE W' n₁ A l :=
  ⟨h.rd hr.1, fun e he => ⟨h.rd (hr.2 e he).1, h.rd (hr.2 e he).2.1, (hr.2 e he).2.2⟩⟩

/-- A row of numbers in a block from n₂ on. -/
def RowK (n₂ : Nat) (W : World) (G : Option Addr) (zs : List Int) : Prop :=
  0 < zs.length → ∃ b off, G = some ⟨b, off, none⟩ ∧ n₂ ≤ b ∧ ∀ j u, zs[j]? = some u → W.cell? ⟨b, off + j, none⟩ = some (.int .i64 u)
theorem RowK.keep {n₁ n₂ : Nat} {W W' : World} {G : Option Addr} {zs : List Int} (hr : RowK n₂ W G zs) (h : KeepsBut n₁ n₂ W W') : RowK n₂ W' G zs := fun h0 => by
  obtain ⟨b, off, e, hb, hc⟩ := hr h0
  exact ⟨b, off, e, hb, fun j u hu => h.cells b _ _ (.inr hb) (hc j u hu)⟩
theorem RowK.of_own {w : World} {base n₂ cap : Nat} {G : Option Addr} {zs : List Int} (h : w.ownsRow base 2 1 (.slice G zs.length cap) zs.length (zs.map (Value.int .i64))) (hb : n₂ ≤ base) : RowK n₂ w G zs := fun h0 => by
  obtain ⟨b, off, e, _, hc⟩ := rd_of_own h (by simpa using h0)
  refine ⟨b, off, e, ?_, fun j u hu => hc j _ (by simp [hu])⟩
  rcases h.2 with ⟨_, hz⟩ | ⟨g, c, cur, hv, hge, _⟩
  · omega
  · rw [e] at hv
    injection hv with hv _ _
    injection hv with hv
    injection hv with hv _ _
    omega

set_option maxHeartbeats 400000 in
theorem numbers_any (A : Option Addr) (len cap : Nat) (w : World) :
    Calls Tryd.prog 9 #[.slice A len cap] w fun e w' => e = .returned (.func (.func 11) #[] #[.pointer (some ⟨w.heap.size, 0, none⟩)]) ∧ w' = w.alloc (.cells #[.slice A len cap] 22) := by
  go_enter Tryd.func9, Tryd.ntmps9
  go_wp2
  go_ret
  exact ⟨rfl, rfl⟩

theorem two_of (w : World) (e : Ex) (hX : RdX w w.heap.size e) : Two (w.alloc (.cells #[.slice e.ax e.xs.length e.cx, .slice e.ay e.ys.length e.cy] 28)) w.heap.size e.ax e.ay e.cx e.cy e.xs e.ys :=
  ⟨heap_alloc_new w _, ((hX.1.alloc (Nat.le_refl _) _).more (by simp)), ((hX.2.1.alloc (Nat.le_refl _) _).more (by simp))⟩

/-- What the iterator owes. -/
def IterPost (ex : List Ex) (J Jx : List Int → World → Prop) (e : Ending) (W' : World) : Prop :=
  (∃ v, e = .returned v) ∧ ((∃ ys, ys = exAll ex ∧ J ys W') ∨ (∃ pre, pre <+: exAll ex ∧ Jx pre W'))

theorem pre_lt {ex : List Ex} {k m : Nat} {e : Ex} (he : ex[k]? = some e) (hm : m < (exNums e).length) : (exAll (ex.take k) ++ (exNums e).take m).length < (exAll ex).length := by
  have h := (exAll_pre he).length_le
  rw [List.length_append] at h ⊢
  have : ((exNums e).take m).length = m := by rw [List.length_take]; omega
  omega
theorem pre_step {ex : List Ex} {k m : Nat} {e : Ex} {x : Int} (hx : (exNums e)[m]? = some x) : exAll (ex.take k) ++ (exNums e).take m ++ [x] = exAll (ex.take k) ++ (exNums e).take (m + 1) := by
  rw [List.take_add_one, hx, List.append_assoc]; rfl
theorem pre_pre {ex : List Ex} {k m : Nat} {e : Ex} {x : Int} (he : ex[k]? = some e) (hx : (exNums e)[m]? = some x) : exAll (ex.take k) ++ (exNums e).take m ++ [x] <+: exAll ex := by
  rw [pre_step hx]
  refine List.IsPrefix.trans ?_ (exAll_pre he)
  exact (List.prefix_append_right_inj _).2 (List.take_prefix _ _)

set_option maxRecDepth 100000 in
set_option maxHeartbeats 4000000 in
theorem nums1_in (n : Nat) (l Bn n₁ n₂ B : Nat) (A : Option Addr) (ex : List Ex) (cap : Nat) (hm : ex.length ≤ 60) (hl : ∀ e ∈ ex, e.xs.length ≤ 600 ∧ e.ys.length ≤ 600) (J Jx : List Int → World → Prop) (hJ : AbidesFrom B J)
    (hY : ∀ pre x W, J pre W → pre.length < (exAll ex).length → YieldAt Fence.wide (n - 1) Tryd.prog l #[.int .i64 x] W fun e W' =>
      (e = .returned (.bool true) ∧ J (pre ++ [x]) W' ∧ KeepsBut n₁ n₂ W W') ∨ (e = .returned (.bool false) ∧ Jx (pre ++ [x]) W'))
    (W : World) (hBn : W.cell? ⟨Bn, 0, none⟩ = some (.slice A ex.length cap)) (hr : RdE W n₁ A ex) (hn : n₁ ≤ n₂) (hW : n₂ ≤ W.heap.size) (h0 : J [] W) :
    CallsIn Fence.wide n Tryd.prog 11 #[.func (.yield l) #[] #[], .pointer (some ⟨Bn, 0, none⟩)] W (IterPost ex J Jx) := by
  have HY := Lib.hid hY
  have HJ := Lib.hid hJ
  have HL := Lib.hid hl
  clear hY hJ hl
  refine callsIn_of_wp Tryd.func11 rfl trivial ?_ rfl
  simp only [Tryd.ntmps11, List.size_toArray, List.length_cons, List.length_nil, Nat.reduceAdd, Nat.reduceSub, Array.replicate_succ, Array.replicate_zero, List.push_toArray, List.append_toArray, List.nil_append, List.cons_append]
  gi_wp2_with fail
  gi_loopw [9] (fun i wr => ∃ k : Nat, k ≤ ex.length ∧ i = .int .i64 k ∧ Hid (J (exAll (ex.take k)) wr ∧ RdE wr n₁ A ex) ∧ n₂ ≤ wr.heap.size) (fun i _ => ex.length - (intOf i).toNat)
  case atStart => exact ⟨0, Nat.zero_le _, rfl, Lib.hid ⟨h0, hr⟩, hW⟩
  case round =>
    obtain ⟨k, hk, rfl, HS, hwr⟩ := hrel
    by_cases hlt : k < ex.length
    · obtain ⟨b, off, rfl, hb, hc⟩ := HS.out.2.at_ (by omega)
      obtain ⟨e, he⟩ := get_some ex k hlt
      have c1 := (hc k e he).1
      have c2 := (hc k e he).2
      have HE := Lib.hid he
      have HX := Lib.hid (HS.out.2.2 e (List.mem_of_getElem? he))
      have HLE := Lib.hid (HL.out e (List.mem_of_getElem? he))
      clear hc he
      have HB := Lib.hid (((Below.refl wr.heap.size wr).alloc (Nat.le_refl _) (.cells #[.slice e.ax e.xs.length e.cx, .slice e.ay e.ys.length e.cy] 30)).alloc (by simp) (.cells #[.slice e.ax e.xs.length e.cx, .slice e.ay e.ys.length e.cy] 28))
      have HT := Lib.hid (two_of (wr.alloc (.cells #[.slice e.ax e.xs.length e.cx, .slice e.ay e.ys.length e.cy] 30)) e ((HX.out.below (((Below.refl wr.heap.size wr).alloc (Nat.le_refl _) _).mono (by omega))).more (by simp; omega)))
      rw [World.size_alloc] at HT
      have hz : (exNums e).length = e.xs.length + e.ys.length := List.length_append
      have HZL := Lib.hid hz
      clear hz HX
      gi_wp2_with fail
      refine ⟨trivial, fun h => (by cases h), (callsIn_wide.2 (concat_two _ _ _ _ _ _ _ _ HT.out ⟨by have := HLE.out; omega, by have := HLE.out; omega⟩)).mono ?_⟩
      rintro e' w3 ⟨v, rfl, ho, hb3⟩
      obtain ⟨G, cp, rfl⟩ := own_slice ho
      rw [← HZL.out] at ho ⊢
      have HBB := Lib.hid (HB.out.trans (hb3.mono HB.out.size))
      have HRK := Lib.hid (RowK.of_own (zs := exNums e) (n₂ := n₂) ho (by simp; omega))
      have HJ3 := Lib.hid (HJ.out _ wr w3 none HS.out.1 ⟨HBB.out.os, HBB.out.tape, HBB.out.output, HBB.out.size, fun i hi _ => HBB.out.block i hi⟩ (fun r h => by cases h))
      have HR3 := Lib.hid ((KeepsBut.below (n₁ := n₁) (n₂ := n₂) HBB.out).rdE HS.out.2)
      have hsz := HBB.out.size
      have hw3 : n₂ ≤ w3.heap.size := by omega
      have hl3 : (exNums e).length ≤ 1200 := by have := HLE.out; have := HZL.out; omega
      clear ho hb3 hsz HB HT HZL HBB HS c1 c2
      obtain ⟨zs, hzs⟩ : ∃ zs, exNums e = zs := ⟨_, rfl⟩
      rw [hzs] at HRK hl3 ⊢
      have HZ := Lib.hid hzs
      clear hzs
      gi_wp2_with fail
      gi_loopw [20] (fun i wi => ∃ m : Nat, m ≤ zs.length ∧ i = .int .i64 m ∧ Hid (J (exAll (ex.take k) ++ zs.take m) wi ∧ RdE wi n₁ (some ⟨b, off, none⟩) ex ∧ RowK n₂ wi G zs) ∧ n₂ ≤ wi.heap.size) (fun i _ => zs.length - (intOf i).toNat)
      case atStart => exact ⟨0, Nat.zero_le _, rfl, Lib.hid ⟨by simpa using HJ3.out, HR3.out, HRK.out⟩, hw3⟩
      case round =>
        obtain ⟨m, hm2, rfl, HS, hwi⟩ := hrel
        clear HJ3 HR3 HRK hw3
        by_cases hmt : m < zs.length
        · obtain ⟨g, o2, rfl, hg, hcs⟩ := HS.out.2.2 (by omega)
          obtain ⟨x, hx⟩ := get_some zs m hmt
          have cx := hcs m x hx
          have HXX := Lib.hid hx
          obtain ⟨fn, tmps, assign, body, hy, hR⟩ := HY.out _ x wr HS.out.1 (by have h := pre_lt (m := m) HE.out (by rw [HZ.out]; exact hmt); rw [HZ.out] at h; exact h)
          clear hcs hx
          gi_wp2_with fail
          refine ⟨fun h => (by cases h), hR.mono ?_⟩
          rintro e' w4 (⟨rfl, hJ4, hk4⟩ | ⟨rfl, hJx4⟩)
          · have H4 := Lib.hid (And.intro (show J (exAll (ex.take k) ++ zs.take (m + 1)) w4 by have h := pre_step (ex := ex) (k := k) (m := m) (e := e) (x := x) (by rw [HZ.out]; exact HXX.out); rw [HZ.out] at h; rw [← h]; exact hJ4) (And.intro (hk4.rdE HS.out.2.1) (HS.out.2.2.keep hk4)))
            have hs4 := hk4.size
            have hw4 : n₂ ≤ w4.heap.size := by omega
            clear hJ4 hk4 hs4 hy hR cx HS
            gi_wp2_with fail
            go_roundw
            case rel => exact ⟨m + 1, by omega, by go_num, H4, hw4⟩
            case measure => simp [intOf]; omega
          · have H4 := Lib.hid hJx4
            clear hJx4 hy hR cx
            gi_wp2_with fail
            refine bodyPost_ret (results_none rfl _ _ _) rfl ?_
            refine ⟨⟨_, rfl⟩, .inr ⟨_, ?_, H4.out⟩⟩
            have h := pre_pre (m := m) (x := x) HE.out (by rw [HZ.out]; exact HXX.out)
            rw [HZ.out] at h
            exact h
        · have H4 := Lib.hid (And.intro (show J (exAll (ex.take (k + 1))) wr by rw [exAll_snoc HE.out, HZ.out]; have h := HS.out.1; rw [show zs.take m = zs from List.take_of_length_le (by omega)] at h; exact h) HS.out.2.1)
          clear HS
          gi_wp2_with fail
          go_roundw
          case rel => exact ⟨k + 1, by omega, by go_num, H4, hwi⟩
          case measure => simp [intOf]; omega
    · have H4 := Lib.hid (show J (exAll ex) wr by have h := HS.out.1; rw [show ex.take k = ex from List.take_of_length_le (by omega)] at h; exact h)
      clear HS
      gi_wp2_with fail
      go_end0
      exact ⟨⟨_, rfl⟩, .inl ⟨_, rfl, H4.out⟩⟩

end Go.Proofs.YtnifbipbpengeaaDoor
