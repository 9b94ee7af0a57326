/- Walk: the reference's Check of a configuration. Conditions: none. -/
import Derived.Test.YtiokdfkddcokoaaShapeRef
import Derived.Test.YtiokdfkddcokoaaConfPlain
namespace Go.Proofs.Ytiokdfkddcokoaa
open Go.RowKit

/-- What a checked configuration comes to. -/
def CodedR (w : World) (k : Int) (e : Ending) (w' : World) : Prop := e = .returned (.int .i64 k) ∧ Below w.heap.size w w'

def five (c : Cf) : List Int := [c.mi, c.bu, c.ch, c.wi, c.ca]
theorem betw_yes {x a b : Int} (h : betw x a b = true) : a ≤ x ∧ x ≤ b := by simpa [betw] using h
theorem betw_no {x a b : Int} (h : betw x a b = false) : x < a ∨ b < x := by
  unfold betw at h; rw [decide_eq_false_iff_not] at h; omega
theorem nums_five (c : Cf) (h : (five c).all okSz = true) (h0 : 0 ≤ c.st) (h1 : c.st ≤ 1048576) : numsOk c = true := by
  simp [five] at h
  have hs : c.st = 0 ∨ okSz c.st = true := by
    by_cases e : c.st = 0
    · exact .inl e
    · exact .inr (okSz_iff.2 (by omega))
  simp [numsOk, h, hs]
theorem nums_five_no (c : Cf) (h : (five c).all okSz = false) : numsOk c = false := by
  simp only [five, List.all_cons, List.all_nil, Bool.and_true] at h
  rw [numsOk]
  revert h
  cases okSz c.mi <;> cases okSz c.bu <;> cases okSz c.ch <;> cases okSz c.wi <;> cases okSz c.ca <;> simp
theorem nums_st (c : Cf) (h : c.st < 0 ∨ 1048576 < c.st) : numsOk c = false := by
  have h1 : decide (c.st = 0) = false := by simp; omega
  have h2 : okSz c.st = false := okSz_no.2 (by omega)
  rw [numsOk, h1, h2]
  simp

theorem five_cell (c : Cf) (s : Int) : ∀ (k : Nat) (z : Int), (five c)[k]? = some z → (#[.int .i64 c.mi, .int .i64 c.bu, .int .i64 c.ch, .int .i64 c.wi, .int .i64 c.ca, .int .i64 s] : Array Value)[k]? = some (.int .i64 z)
  | 0, _, h | 1, _, h | 2, _, h | 3, _, h | 4, _, h => by simp [five] at h; subst h; rfl
  | _ + 5, _, h => by simp [five] at h

set_option maxHeartbeats 1000000 in
theorem refConf6 (A : Option Addr) (cap : Nat) (zs : List Int) (c : Cf) (w : World) (h1 : betw c.wo 1 64 = false) :
    Calls Try.prog 8 #[cfVal A zs.length cap c] w (CodedR w (confCode zs c)) := by
  obtain ⟨sh, ra, mo, wo, ba, mi, st, bu, ch, wi, ca⟩ := c
  dsimp only [cfVal]
  dsimp only at h1
  have hfin := Lib.hid (code6 (zs := zs) (c := ⟨sh, ra, mo, wo, ba, mi, st, bu, ch, wi, ca⟩) (by have := betw_no h1; dsimp only; omega))
  go_enter Try.func8, Try.ntmps8
  go_wp2_with (go_at_call 18; refine (between_any _ _ _ _).mono ?_; rintro e w' ⟨rfl, rfl⟩)
  go_ret
  exact ⟨ret_int hfin.out.symm, (Below.refl _ _).alloc (Nat.le_refl _) _⟩

set_option maxHeartbeats 1000000 in
theorem refConf9 (A : Option Addr) (cap : Nat) (zs : List Int) (c : Cf) (w : World) (h1 : betw c.wo 1 64 = true) (h2 : betw c.sh 1 62 = false) :
    Calls Try.prog 8 #[cfVal A zs.length cap c] w (CodedR w (confCode zs c)) := by
  obtain ⟨sh, ra, mo, wo, ba, mi, st, bu, ch, wi, ca⟩ := c
  dsimp only [cfVal]
  dsimp only at h1 h2
  have hfin := Lib.hid (code9 (zs := zs) (c := ⟨sh, ra, mo, wo, ba, mi, st, bu, ch, wi, ca⟩) (by have := betw_yes h1; dsimp only; omega) (by have := betw_yes h1; dsimp only; omega) (by have := betw_no h2; dsimp only; omega))
  go_enter Try.func8, Try.ntmps8
  go_wp2_with (go_at_call 18; refine (between_any _ _ _ _).mono ?_; rintro e w' ⟨rfl, rfl⟩)
  go_ret
  exact ⟨ret_int hfin.out.symm, (Below.refl _ _).alloc (Nat.le_refl _) _⟩

set_option maxHeartbeats 1000000 in
theorem refConfS (A : Option Addr) (cap : Nat) (zs : List Int) (c : Cf) (w : World) (hr : RdI w w.heap.size A zs) (hm : zs.length ≤ 9223372036854775807) (h1 : betw c.wo 1 64 = true) (h2 : betw c.sh 1 62 = true) (h3 : shCode zs ≠ 0) :
    Calls Try.prog 8 #[cfVal A zs.length cap c] w (CodedR w (confCode zs c)) := by
  obtain ⟨sh, ra, mo, wo, ba, mi, st, bu, ch, wi, ca⟩ := c
  dsimp only [cfVal]
  dsimp only at h1 h2
  have hfin := Lib.hid (codeS (zs := zs) (c := ⟨sh, ra, mo, wo, ba, mi, st, bu, ch, wi, ca⟩) (by have := betw_yes h1; dsimp only; omega) (by have := betw_yes h1; dsimp only; omega) (by have := betw_yes h2; dsimp only; omega) (by have := betw_yes h2; dsimp only; omega) h3)
  have hr1 : RdI (w.alloc (.cells #[.slice A zs.length cap, .int .i64 sh, .int .i64 ra, .int .i64 mo, .int .i64 wo, .int .i64 ba, .int .i64 mi, .int .i64 st, .int .i64 bu, .int .i64 ch, .int .i64 wi, .int .i64 ca] 24)) (w.alloc (.cells #[.slice A zs.length cap, .int .i64 sh, .int .i64 ra, .int .i64 mo, .int .i64 wo, .int .i64 ba, .int .i64 mi, .int .i64 st, .int .i64 bu, .int .i64 ch, .int .i64 wi, .int .i64 ca] 24)).heap.size A zs :=
    (hr.alloc (Nat.le_refl _) _).more (by simp)
  have C := Lib.hid (refShape_any A cap zs _ hr1 hm)
  clear hr1
  have h0 : (shCode zs != 0) = true := by simpa using h3
  generalize shCode zs = k at *
  go_enter Try.func8, Try.ntmps8
  go_wp2_with (first | (go_at_call 18; refine (between_any _ _ _ _).mono ?_; rintro e w' ⟨rfl, rfl⟩) | (go_at_call 19; refine C.out.mono ?_; rintro e w1 ⟨rfl, n1, rfl⟩))
  go_ret
  exact ⟨ret_int hfin.out.symm, below_drewN ((Below.refl _ _).alloc (Nat.le_refl _) _) _⟩

set_option maxHeartbeats 1000000 in
theorem refConfA (A : Option Addr) (cap : Nat) (zs : List Int) (c : Cf) (w : World) (hr : RdI w w.heap.size A zs) (hm : zs.length ≤ 9223372036854775807) (h1 : betw c.wo 1 64 = true) (h2 : betw c.sh 1 62 = true) (h3 : shCode zs = 0) (h4 : c.st < 0) :
    Calls Try.prog 8 #[cfVal A zs.length cap c] w (CodedR w (confCode zs c)) := by
  obtain ⟨sh, ra, mo, wo, ba, mi, st, bu, ch, wi, ca⟩ := c
  dsimp only [cfVal]
  dsimp only at h1 h2 h4
  have hfin := Lib.hid (code2 (zs := zs) (c := ⟨sh, ra, mo, wo, ba, mi, st, bu, ch, wi, ca⟩) (by have := betw_yes h1; dsimp only; omega) (by have := betw_yes h1; dsimp only; omega) (by have := betw_yes h2; dsimp only; omega) (by have := betw_yes h2; dsimp only; omega) h3 (nums_st _ (by dsimp only; omega)))
  have hr1 : RdI (w.alloc (.cells #[.slice A zs.length cap, .int .i64 sh, .int .i64 ra, .int .i64 mo, .int .i64 wo, .int .i64 ba, .int .i64 mi, .int .i64 st, .int .i64 bu, .int .i64 ch, .int .i64 wi, .int .i64 ca] 24)) (w.alloc (.cells #[.slice A zs.length cap, .int .i64 sh, .int .i64 ra, .int .i64 mo, .int .i64 wo, .int .i64 ba, .int .i64 mi, .int .i64 st, .int .i64 bu, .int .i64 ch, .int .i64 wi, .int .i64 ca] 24)).heap.size A zs :=
    (hr.alloc (Nat.le_refl _) _).more (by simp)
  have C := Lib.hid (refShape_any A cap zs _ hr1 hm)
  clear hr1
  have H3 := Lib.hid h3
  clear h3
  go_enter Try.func8, Try.ntmps8
  go_wp2_with (first | (go_at_call 18; refine (between_any _ _ _ _).mono ?_; rintro e w' ⟨rfl, rfl⟩) | (go_at_call 19; refine C.out.mono ?_; rintro e w1 ⟨rfl, n1, rfl⟩; rw [H3.out]))
  go_ret
  exact ⟨ret_int hfin.out.symm, below_drewN (((Below.refl _ _).alloc (Nat.le_refl _) _).alloc (by simp) _) _⟩

set_option maxHeartbeats 1000000 in
theorem refConfB (A : Option Addr) (cap : Nat) (zs : List Int) (c : Cf) (w : World) (hr : RdI w w.heap.size A zs) (hm : zs.length ≤ 9223372036854775807) (h1 : betw c.wo 1 64 = true) (h2 : betw c.sh 1 62 = true) (h3 : shCode zs = 0) (h4 : ¬ c.st < 0) (h5 : 1048576 < c.st) :
    Calls Try.prog 8 #[cfVal A zs.length cap c] w (CodedR w (confCode zs c)) := by
  obtain ⟨sh, ra, mo, wo, ba, mi, st, bu, ch, wi, ca⟩ := c
  dsimp only [cfVal]
  dsimp only at h1 h2 h4 h5
  have hfin := Lib.hid (code2 (zs := zs) (c := ⟨sh, ra, mo, wo, ba, mi, st, bu, ch, wi, ca⟩) (by have := betw_yes h1; dsimp only; omega) (by have := betw_yes h1; dsimp only; omega) (by have := betw_yes h2; dsimp only; omega) (by have := betw_yes h2; dsimp only; omega) h3 (nums_st _ (by dsimp only; omega)))
  have hr1 : RdI (w.alloc (.cells #[.slice A zs.length cap, .int .i64 sh, .int .i64 ra, .int .i64 mo, .int .i64 wo, .int .i64 ba, .int .i64 mi, .int .i64 st, .int .i64 bu, .int .i64 ch, .int .i64 wi, .int .i64 ca] 24)) (w.alloc (.cells #[.slice A zs.length cap, .int .i64 sh, .int .i64 ra, .int .i64 mo, .int .i64 wo, .int .i64 ba, .int .i64 mi, .int .i64 st, .int .i64 bu, .int .i64 ch, .int .i64 wi, .int .i64 ca] 24)).heap.size A zs :=
    (hr.alloc (Nat.le_refl _) _).more (by simp)
  have C := Lib.hid (refShape_any A cap zs _ hr1 hm)
  clear hr1
  have H3 := Lib.hid h3
  clear h3
  go_enter Try.func8, Try.ntmps8
  go_wp2_with (first | (go_at_call 18; refine (between_any _ _ _ _).mono ?_; rintro e w' ⟨rfl, rfl⟩) | (go_at_call 19; refine C.out.mono ?_; rintro e w1 ⟨rfl, n1, rfl⟩; rw [H3.out]))
  go_ret
  exact ⟨ret_int hfin.out.symm, below_drewN (((Below.refl _ _).alloc (Nat.le_refl _) _).alloc (by simp) _) _⟩

set_option maxHeartbeats 1000000 in
theorem refConfL (A : Option Addr) (cap : Nat) (zs : List Int) (c : Cf) (w : World) (hr : RdI w w.heap.size A zs) (hm : zs.length ≤ 9223372036854775807) (h1 : betw c.wo 1 64 = true) (h2 : betw c.sh 1 62 = true) (h3 : shCode zs = 0) (h4 : ¬ c.st < 0) (h5 : ¬ 1048576 < c.st) :
    Calls Try.prog 8 #[cfVal A zs.length cap c] w (CodedR w (confCode zs c)) := by
  obtain ⟨sh, ra, mo, wo, ba, mi, st, bu, ch, wi, ca⟩ := c
  dsimp only [cfVal]
  dsimp only at h1 h2 h4 h5
  have f2 : Hid ((five ⟨sh, ra, mo, wo, ba, mi, st, bu, ch, wi, ca⟩).all okSz = false → confCode zs ⟨sh, ra, mo, wo, ba, mi, st, bu, ch, wi, ca⟩ = 2) := Lib.hid fun hb => code2 (zs := zs) (c := ⟨sh, ra, mo, wo, ba, mi, st, bu, ch, wi, ca⟩) (by have := betw_yes h1; dsimp only; omega) (by have := betw_yes h1; dsimp only; omega) (by have := betw_yes h2; dsimp only; omega) (by have := betw_yes h2; dsimp only; omega) h3 (nums_five_no _ hb)
  have f7 : Hid ((five ⟨sh, ra, mo, wo, ba, mi, st, bu, ch, wi, ca⟩).all okSz = true → betw ba wo 1048576 = false → confCode zs ⟨sh, ra, mo, wo, ba, mi, st, bu, ch, wi, ca⟩ = 7) :=
    Lib.hid fun hb h6 => code7 (zs := zs) (c := ⟨sh, ra, mo, wo, ba, mi, st, bu, ch, wi, ca⟩) (by have := betw_yes h1; dsimp only; omega) (by have := betw_yes h1; dsimp only; omega) (by have := betw_yes h2; dsimp only; omega) (by have := betw_yes h2; dsimp only; omega) h3 (nums_five _ hb (by dsimp only; omega) (by dsimp only; omega)) (by have := betw_no h6; dsimp only; omega)
  have f0 : Hid ((five ⟨sh, ra, mo, wo, ba, mi, st, bu, ch, wi, ca⟩).all okSz = true → betw ba wo 1048576 = true → confCode zs ⟨sh, ra, mo, wo, ba, mi, st, bu, ch, wi, ca⟩ = 0) :=
    Lib.hid fun hb h6 => code0 (zs := zs) (c := ⟨sh, ra, mo, wo, ba, mi, st, bu, ch, wi, ca⟩) (by have := betw_yes h1; dsimp only; omega) (by have := betw_yes h1; dsimp only; omega) (by have := betw_yes h2; dsimp only; omega) (by have := betw_yes h2; dsimp only; omega) h3 (nums_five _ hb (by dsimp only; omega) (by dsimp only; omega)) (by have := betw_yes h6; dsimp only; omega) (by have := betw_yes h6; dsimp only; omega)
  have hr1 : RdI (w.alloc (.cells #[.slice A zs.length cap, .int .i64 sh, .int .i64 ra, .int .i64 mo, .int .i64 wo, .int .i64 ba, .int .i64 mi, .int .i64 st, .int .i64 bu, .int .i64 ch, .int .i64 wi, .int .i64 ca] 24)) (w.alloc (.cells #[.slice A zs.length cap, .int .i64 sh, .int .i64 ra, .int .i64 mo, .int .i64 wo, .int .i64 ba, .int .i64 mi, .int .i64 st, .int .i64 bu, .int .i64 ch, .int .i64 wi, .int .i64 ca] 24)).heap.size A zs :=
    (hr.alloc (Nat.le_refl _) _).more (by simp)
  have C := Lib.hid (refShape_any A cap zs _ hr1 hm)
  clear hr1
  have H3 := Lib.hid h3
  clear h3
  go_enter Try.func8, Try.ntmps8
  go_wp2_with (first | (go_at_call 18; refine (between_any _ _ _ _).mono ?_; rintro e w' ⟨rfl, rfl⟩) | (go_at_call 19; refine C.out.mono ?_; rintro e w1 ⟨rfl, n1, rfl⟩; rw [H3.out]))
  have hX := blk_alloc (w := (w.alloc (.cells #[.slice A zs.length cap, .int .i64 sh, .int .i64 ra, .int .i64 mo, .int .i64 wo, .int .i64 ba, .int .i64 mi, .int .i64 st, .int .i64 bu, .int .i64 ch, .int .i64 wi, .int .i64 ca] 24)).drewN n1) (heap_alloc_new w (.cells #[.slice A zs.length cap, .int .i64 sh, .int .i64 ra, .int .i64 mo, .int .i64 wo, .int .i64 ba, .int .i64 mi, .int .i64 st, .int .i64 bu, .int .i64 ch, .int .i64 wi, .int .i64 ca] 24)) (.cells #[.int .i64 mi, .int .i64 bu, .int .i64 ch, .int .i64 wi, .int .i64 ca, .int .i64 (st + 1)] 3)
  have hL := heap_alloc_new ((w.alloc (.cells #[.slice A zs.length cap, .int .i64 sh, .int .i64 ra, .int .i64 mo, .int .i64 wo, .int .i64 ba, .int .i64 mi, .int .i64 st, .int .i64 bu, .int .i64 ch, .int .i64 wi, .int .i64 ca] 24)).drewN n1) (.cells #[.int .i64 mi, .int .i64 bu, .int .i64 ch, .int .i64 wi, .int .i64 ca, .int .i64 (st + 1)] 3)
  have hB : Below w.heap.size w (((w.alloc (.cells #[.slice A zs.length cap, .int .i64 sh, .int .i64 ra, .int .i64 mo, .int .i64 wo, .int .i64 ba, .int .i64 mi, .int .i64 st, .int .i64 bu, .int .i64 ch, .int .i64 wi, .int .i64 ca] 24)).drewN n1).alloc (.cells #[.int .i64 mi, .int .i64 bu, .int .i64 ch, .int .i64 wi, .int .i64 ca, .int .i64 (st + 1)] 3)) := (below_drewN ((Below.refl _ _).alloc (Nat.le_refl _) _) _).alloc (by simp) _
  rw [show ((w.alloc (.cells #[.slice A zs.length cap, .int .i64 sh, .int .i64 ra, .int .i64 mo, .int .i64 wo, .int .i64 ba, .int .i64 mi, .int .i64 st, .int .i64 bu, .int .i64 ch, .int .i64 wi, .int .i64 ca] 24)).drewN n1).heap.size = w.heap.size + 1 from World.size_alloc _ _] at hL
  generalize ((w.alloc (.cells #[.slice A zs.length cap, .int .i64 sh, .int .i64 ra, .int .i64 mo, .int .i64 wo, .int .i64 ba, .int .i64 mi, .int .i64 st, .int .i64 bu, .int .i64 ch, .int .i64 wi, .int .i64 ca] 24)).drewN n1).alloc (.cells #[.int .i64 mi, .int .i64 bu, .int .i64 ch, .int .i64 wi, .int .i64 ca, .int .i64 (st + 1)] 3) = W at *
  have HL := Lib.hid hL
  have c4 : W.cell? ⟨w.heap.size, 4, none⟩ = some (.int .i64 wo) := blk_cell hX 4
  have c5 : W.cell? ⟨w.heap.size, 5, none⟩ = some (.int .i64 ba) := blk_cell hX 5
  clear hL hX
  go_loop [5] (fun i => ∃ k : Nat, k ≤ 5 ∧ i = .int .i64 k ∧ Hid (((five ⟨sh, ra, mo, wo, ba, mi, st, bu, ch, wi, ca⟩).take k).all okSz = true)) (fun i => 5 - (intOf i).toNat)
  case atStart => exact ⟨0, Nat.zero_le _, rfl, Lib.hid rfl⟩
  case round =>
    obtain ⟨k, hk, rfl, hall⟩ := hrel
    by_cases hlt : k < 5
    · obtain ⟨z, hz⟩ := get_some (five ⟨sh, ra, mo, wo, ba, mi, st, bu, ch, wi, ca⟩) k hlt
      have c1 : W.cell? ⟨w.heap.size + 1, k, none⟩ = some (.int .i64 z) := (blk_cell HL.out k).trans (five_cell ⟨sh, ra, mo, wo, ba, mi, st, bu, ch, wi, ca⟩ (st + 1) k z hz)
      have HZ := Lib.hid hz
      clear hz
      cases hb : betw z 1 1048576
      · have hfin := Lib.hid (f2.out (not_all _ k z HZ.out hb))
        go_wp2_with (go_at_call 18; refine (between_any _ _ _ _).mono ?_; rintro e w' ⟨rfl, rfl⟩)
        go_ret
        exact ⟨ret_int hfin.out.symm, hB⟩
      · go_wp2_with (go_at_call 18; refine (between_any _ _ _ _).mono ?_; rintro e w' ⟨rfl, rfl⟩)
        go_round
        case rel => exact ⟨k + 1, by omega, by go_num, Lib.hid (take_all _ k z HZ.out hall.out hb)⟩
        case measure => simp [intOf]; omega
    · have hall' : Hid ((five ⟨sh, ra, mo, wo, ba, mi, st, bu, ch, wi, ca⟩).all okSz = true) := by
        have := hall.out
        rw [List.take_of_length_le (by simp [five]; omega)] at this
        exact Lib.hid this
      cases hb : betw ba wo 1048576
      · have hfin := Lib.hid (f7.out hall'.out hb)
        go_wp2_with (go_at_call 18; refine (between_any _ _ _ _).mono ?_; rintro e w' ⟨rfl, rfl⟩)
        go_ret
        exact ⟨ret_int hfin.out.symm, hB⟩
      · have hfin := Lib.hid (f0.out hall'.out hb)
        go_wp2_with (go_at_call 18; refine (between_any _ _ _ _).mono ?_; rintro e w' ⟨rfl, rfl⟩)
        go_ret
        exact ⟨ret_int hfin.out.symm, hB⟩

theorem refConf_any (A : Option Addr) (cap : Nat) (zs : List Int) (c : Cf) (w : World) (hr : RdI w w.heap.size A zs) (hm : zs.length ≤ 9223372036854775807) :
    Calls Try.prog 8 #[cfVal A zs.length cap c] w (CodedR w (confCode zs c)) := by
  cases h1 : betw c.wo 1 64
  · exact refConf6 A cap zs c w h1
  cases h2 : betw c.sh 1 62
  · exact refConf9 A cap zs c w h1 h2
  by_cases h3 : shCode zs = 0
  · by_cases h4 : c.st < 0
    · exact refConfA A cap zs c w hr hm h1 h2 h3 h4
    by_cases h5 : 1048576 < c.st
    · exact refConfB A cap zs c w hr hm h1 h2 h3 h4 h5
    · exact refConfL A cap zs c w hr hm h1 h2 h3 h4 h5
  · exact refConfS A cap zs c w hr hm h1 h2 h3

end Go.Proofs.Ytiokdfkddcokoaa
