/- Walks: shape.New and what it calls. Conditions: none. -/
import Derived.Test.YtjjoendjgiiknaaDoorShapeRef
import Derived.Test.YtjjoendjgiiknaaDoorShelf
namespace Go.Proofs.YtjjoendjgiiknaaDoor
open Go.RowKit

def NonNeg (w : World) (e : Ending) (w' : World) : Prop := ∃ r : Nat, e = .returned (.int .i64 r) ∧ w = w'

set_option maxHeartbeats 400000 in
theorem idxWrong_none (A : Option Addr) (cap : Nat) (zs : List Int) (w : World) (hr : RdI w w.heap.size A zs) (hm : zs.length ≤ 16) (hz : zs.all okSz = true) :
    Calls Tryd.prog 37 #[.slice A zs.length cap, .func (.func 28) #[] #[]] w fun e w' => e = .returned (.int .i64 (-1)) ∧ w = w' := by
  have hall : ∀ z ∈ zs, okSz z = true := List.all_eq_true.1 hz
  have Hall := Lib.hid hall
  clear hall hz
  go_enter Tryd.func37, Tryd.ntmps37
  go_wp2
  go_loop [5, 8] (fun j i => ∃ k : Nat, k ≤ zs.length ∧ i = .int .i64 k) (fun _ i => zs.length - (intOf i).toNat)
  case atStart => exact ⟨0, Nat.zero_le _, rfl⟩
  case round =>
    obtain ⟨k, hk, rfl⟩ := hrel
    by_cases hlt : k < zs.length
    · obtain ⟨b, off, rfl, _, hc⟩ := hr.at_ (by omega)
      obtain ⟨z, hz⟩ := get_some zs k hlt
      have c1 : w.cell? ⟨b, off + k, none⟩ = some (.int .i64 z) := hc _ _ hz
      have ok1 : okSz z = true := Hall.out z (List.mem_of_getElem? hz)
      have HZ := Lib.hid hz
      clear hz hc
      go_wp2_with (go_at_call 28; refine (wrong_any _ _).mono ?_; rintro e w' ⟨rfl, rfl⟩)
      go_round
      case rel => exact ⟨k + 1, by omega, by go_num⟩
      case measure => simp [intOf]; omega
    · go_wp2
      go_ret
      exact ⟨rfl, rfl⟩

set_option maxHeartbeats 400000 in
theorem idxWrong_some (A : Option Addr) (cap : Nat) (zs : List Int) (w : World) (hr : RdI w w.heap.size A zs) (hm : zs.length ≤ 16) (hz : zs.all okSz = false) :
    Calls Tryd.prog 37 #[.slice A zs.length cap, .func (.func 28) #[] #[]] w (NonNeg w) := by
  have Hno := Lib.hid hz
  clear hz
  go_enter Tryd.func37, Tryd.ntmps37
  go_wp2
  go_loop [5, 8] (fun j i => ∃ k : Nat, k ≤ zs.length ∧ i = .int .i64 k ∧ Hid ((zs.take k).all okSz = true)) (fun _ i => zs.length - (intOf i).toNat)
  case atStart => exact ⟨0, Nat.zero_le _, rfl, Lib.hid rfl⟩
  case round =>
    obtain ⟨k, hk, rfl, hall⟩ := hrel
    by_cases hlt : k < zs.length
    · obtain ⟨b, off, rfl, _, hc⟩ := hr.at_ (by omega)
      obtain ⟨z, hz⟩ := get_some zs k hlt
      have c1 : w.cell? ⟨b, off + k, none⟩ = some (.int .i64 z) := hc _ _ hz
      have HZ := Lib.hid hz
      clear hz hc
      cases ok1 : okSz z
      · go_wp2_with (go_at_call 28; refine (wrong_any _ _).mono ?_; rintro e w' ⟨rfl, rfl⟩)
        go_ret
        exact ⟨k, rfl, rfl⟩
      · go_wp2_with (go_at_call 28; refine (wrong_any _ _).mono ?_; rintro e w' ⟨rfl, rfl⟩)
        go_round
        case rel => exact ⟨k + 1, by omega, by go_num, Lib.hid (take_all zs k z HZ.out hall.out ok1)⟩
        case measure => simp [intOf]; omega
    · exfalso
      have := hall.out
      rw [List.take_of_length_le (by omega), Hno.out] at this
      cases this

set_option maxHeartbeats 400000 in
theorem hasWrong_any (A : Option Addr) (cap : Nat) (zs : List Int) (w : World) (hr : RdI w w.heap.size A zs) (hm : zs.length ≤ 16) :
    Calls Tryd.prog 29 #[.slice A zs.length cap, .func (.func 28) #[] #[]] w fun e w' => e = .returned (.bool (!zs.all okSz)) ∧ w = w' := by
  by_cases hz : zs.all okSz = true
  · have c1 := idxWrong_none A cap zs w hr hm hz
    have C1 := Lib.hid c1
    have HZ := Lib.hid hz
    clear c1 hz
    go_enter Tryd.func29, Tryd.ntmps29
    go_wp2_with (go_at_call 37; refine C1.out.mono ?_; rintro e w' ⟨rfl, rfl⟩)
    go_ret
    exact ⟨ret_bool (by rw [HZ.out]; rfl), rfl⟩
  · have hz' : zs.all okSz = false := by simpa using hz
    have c1 := idxWrong_some A cap zs w hr hm hz'
    have C1 := Lib.hid c1
    have HZ := Lib.hid hz'
    clear c1 hz hz'
    go_enter Tryd.func29, Tryd.ntmps29
    go_wp2_with (go_at_call 37; refine C1.out.mono ?_; rintro e w' ⟨r, rfl, rfl⟩)
    go_ret
    exact ⟨ret_bool (by rw [HZ.out]; simp), rfl⟩


/-- A shape that is being built in block g, with its variable in block g + 1. -/
structure Mid (w : World) (B g : Nat) (vs vw vb : Value) (c : Int) (zs : List Int) (kw kb : Nat) : Prop where
  blk : w.heap[g]? = some (.cells #[vs, vw, vb, .int .i64 c] 58 (0, 0))
  box : w.heap[g + 1]? = some (.cells #[.pointer (some ⟨g, 0, none⟩)] 24 (0, 0))
  sz : w.ownsRow B 3 1 vs zs.length (zs.map (Value.int .i64))
  ow : w.ownsRow B 35 2 vw kw (wcells zs kw)
  ob : w.ownsRow B 35 2 vb kb (bcells zs kb)
  ne : vw.ownBlock = none ∨ vw.ownBlock ≠ vb.ownBlock
  lo : B ≤ g

section
variable {w w' : World} {B g : Nat} {vs vw vb : Value} {c c' : Int} {zs : List Int} {kw kb : Nat}

theorem Mid.next (h : Mid w B g vs vw vb c zs kw kb) (hg : w'.heap[g]? = some (.cells #[vs, vw, vb, .int .i64 c'] 58 (0, 0))) (hb : w.grownBy w' (some g)) : Mid w' B g vs vw vb c' zs kw kb :=
  ⟨hg, blk_grown h.box hb (by simp), h.sz.kept hb (.inr (own_ne h.sz h.blk (by decide))), h.ow.kept hb (.inr (own_ne h.ow h.blk (by decide))), h.ob.kept hb (.inr (own_ne h.ob h.blk (by decide))), h.ne, h.lo⟩
theorem Mid.alloc (h : Mid w B g vs vw vb c zs kw kb) (o : Obj) : Mid (w.alloc o) B g vs vw vb c zs kw kb :=
  ⟨blk_alloc h.blk o, blk_alloc h.box o, h.sz.alloc o, h.ow.alloc o, h.ob.alloc o, h.ne, h.lo⟩
theorem Mid.heap (h : Mid w B g vs vw vb c zs kw kb) (e : w'.heap = w.heap) : Mid w' B g vs vw vb c zs kw kb := by
  have own : ∀ (t size n : Nat) (v : Value) (xs : List Value), w.ownsRow B t size v n xs → w'.ownsRow B t size v n xs := fun t size n v xs ho => by
    unfold World.ownsRow at ho ⊢; rw [e]; exact ho
  exact ⟨e ▸ h.blk, e ▸ h.box, own _ _ _ _ _ h.sz, own _ _ _ _ _ h.ow, own _ _ _ _ _ h.ob, h.ne, h.lo⟩
theorem Mid.drew (h : Mid w B g vs vw vb c zs kw kb) : Mid w.drew B g vs vw vb c zs kw kb := ⟨h.blk, h.box, h.sz, h.ow, h.ob, h.ne, h.lo⟩

theorem Mid.blkW (h : Mid w B g vs vw vb c zs kw kb) (hgr : w.grownBy w' vw.ownBlock) : w'.heap[g]? = some (.cells #[vs, vw, vb, .int .i64 c] 58 (0, 0)) :=
  blk_grown h.blk hgr (Ne.symm (own_ne h.ow h.blk (by decide)))
theorem Mid.blkB (h : Mid w B g vs vw vb c zs kw kb) (hgr : w.grownBy w' vb.ownBlock) : w'.heap[g]? = some (.cells #[vs, vw, vb, .int .i64 c] 58 (0, 0)) :=
  blk_grown h.blk hgr (Ne.symm (own_ne h.ob h.blk (by decide)))

theorem Mid.setW (h : Mid w B g vs vw vb c zs kw kb) {gg cap : Nat} (hown : w'.ownsRow B 35 2 (.slice (some ⟨gg, 0, none⟩) (kw + 1) cap) (kw + 1) (wcells zs (kw + 1))) (hgr : w.grownBy w' vw.ownBlock)
    (hat : vw.ownBlock = some gg ∨ gg = w.heap.size) : Mid (w'.setCell ⟨g, 1, none⟩ (.slice (some ⟨gg, 0, none⟩) (kw + 1) cap)) B g vs (.slice (some ⟨gg, 0, none⟩) (kw + 1) cap) vb c zs (kw + 1) kb := by
  have hgb := blk_grown h.blk hgr (Ne.symm (own_ne h.ow h.blk (by decide)))
  have hbx := blk_grown h.box hgr (Ne.symm (own_ne h.ow h.box (by decide)))
  have hset : w'.grownBy (w'.setCell ⟨g, 1, none⟩ (.slice (some ⟨gg, 0, none⟩) (kw + 1) cap)) (some g) := only_setCell (World.grownBy.refl _ _) (.inl rfl) _
  have hs := h.sz.kept hgr (own_ne2 h.sz h.ow (by decide))
  have hbo : vb.ownBlock = none ∨ vb.ownBlock ≠ vw.ownBlock := by
    rcases h.ne with e | e
    · rw [e]; cases hv : vb.ownBlock
      · exact .inl rfl
      · exact .inr (by simp)
    · exact .inr (Ne.symm e)
  have hb := h.ob.kept hgr hbo
  refine ⟨?_, blk_far hbx (by simp) _, hs.kept hset (.inr (own_ne hs hgb (by decide))), hown.kept hset (.inr (own_ne hown hgb (by decide))), hb.kept hset (.inr (own_ne hb hgb (by decide))), ?_, h.lo⟩
  · have := blk_set hgb 1 (.slice (some ⟨gg, 0, none⟩) (kw + 1) cap)
    simpa using this
  · rcases hat with e | e
    · rcases h.ne with e' | e'
      · rw [e'] at e; cases e
      · right; rw [show (Value.slice (some ⟨gg, 0, none⟩) (kw + 1) cap).ownBlock = some gg from rfl, ← e]; exact e'
    · right
      subst e
      intro e2
      exact absurd (h.ob.lt _ e2.symm).2 (Nat.lt_irrefl _)

theorem Mid.setB (h : Mid w B g vs vw vb c zs kw kb) {gg cap : Nat} (hown : w'.ownsRow B 35 2 (.slice (some ⟨gg, 0, none⟩) (kb + 1) cap) (kb + 1) (bcells zs (kb + 1))) (hgr : w.grownBy w' vb.ownBlock)
    (hat : vb.ownBlock = some gg ∨ gg = w.heap.size) : Mid (w'.setCell ⟨g, 2, none⟩ (.slice (some ⟨gg, 0, none⟩) (kb + 1) cap)) B g vs vw (.slice (some ⟨gg, 0, none⟩) (kb + 1) cap) c zs kw (kb + 1) := by
  have hgb := blk_grown h.blk hgr (Ne.symm (own_ne h.ob h.blk (by decide)))
  have hbx := blk_grown h.box hgr (Ne.symm (own_ne h.ob h.box (by decide)))
  have hset : w'.grownBy (w'.setCell ⟨g, 2, none⟩ (.slice (some ⟨gg, 0, none⟩) (kb + 1) cap)) (some g) := only_setCell (World.grownBy.refl _ _) (.inl rfl) _
  have hs := h.sz.kept hgr (own_ne2 h.sz h.ob (by decide))
  have hw := h.ow.kept hgr h.ne
  refine ⟨?_, blk_far hbx (by simp) _, hs.kept hset (.inr (own_ne hs hgb (by decide))), hw.kept hset (.inr (own_ne hw hgb (by decide))), hown.kept hset (.inr (own_ne hown hgb (by decide))), ?_, h.lo⟩
  · have := blk_set hgb 2 (.slice (some ⟨gg, 0, none⟩) (kb + 1) cap)
    simpa using this
  · rcases hat with e | e
    · rw [show (Value.slice (some ⟨gg, 0, none⟩) (kb + 1) cap).ownBlock = some gg from rfl, ← e]; exact h.ne
    · cases hv : vw.ownBlock
      · exact .inl rfl
      · right
        subst e
        intro e2
        have h1 : vw.ownBlock = some w.heap.size := hv.trans e2
        have := (h.ow.lt _ h1).2
        omega
end

/-- What a call of 'next' leaves. -/
def NextPost (w : World) (g : Nat) (vs vw vb : Value) (c n : Int) (e : Ending) (w' : World) : Prop :=
  e = .returned (.agg #[.int .i64 c, .int .i64 (c + n)]) ∧ w'.heap[g]? = some (.cells #[vs, vw, vb, .int .i64 (c + n)] 58 (0, 0)) ∧ w.grownBy w' (some g)

set_option maxHeartbeats 400000 in
theorem next_any (g bx : Nat) (vs vw vb : Value) (c n : Int) (w : World) (hg : w.heap[g]? = some (.cells #[vs, vw, vb, .int .i64 c] 58 (0, 0))) (hbx : w.heap[bx]? = some (.cells #[.pointer (some ⟨g, 0, none⟩)] 24 (0, 0)))
    (c0 : 0 ≤ c) (c1 : c ≤ 1000000000000000) (n0 : 0 ≤ n) (n1 : n ≤ 1000000000000000) :
    Calls Tryd.prog 31 #[.int .i64 n, .pointer (some ⟨bx, 0, none⟩)] w (NextPost w g vs vw vb c n) := by
  have hg1 : w.cell? ⟨g, 3, none⟩ = some (.int .i64 c) := by simp [World.cell?, hg]
  have hg2 : w.frozen? ⟨g, 3, none⟩ = false := by simp [World.frozen?, hg]
  have hb1 : w.cell? ⟨bx, 0, none⟩ = some (.pointer (some ⟨g, 0, none⟩)) := by simp [World.cell?, hbx]
  have lg := World.block_lt_of_cell? w _ hg1
  have lb := World.block_lt_of_cell? w _ hb1
  have Hg := Lib.hid hg
  clear hg hbx
  go_enter Tryd.func31, Tryd.ntmps31
  go_wp2
  go_region_held3 (fun w' => w'.cell? ⟨g, 3, none⟩ = some (.int .i64 c) ∧ w'.cell? ⟨bx, 0, none⟩ = some (.pointer (some ⟨g, 0, none⟩))) (go_keep) (fail)
  go_wp2
  refine bodyPost_ret (v := .agg #[.int .i64 c, .int .i64 (c + n)]) (by simp [results, Tryd.results31, go_sem]) rfl ⟨rfl, ?_, ?_⟩
  · have := blk_alloc (blk_alloc (blk_set Hg.out 3 (.int .i64 (c + n))) (.cells #[.int .i64 c, .int .i64 (c + n)] 35)) (.cells #[.int .i64 c, .int .i64 (c + n)] 35)
    simp at this
    exact this
  · exact only_drew (only_alloc (only_alloc (only_setCell (World.grownBy.refl _ _) (.inl rfl) _) _) _)

end Go.Proofs.YtjjoendjgiiknaaDoor
