/- Walks: Place of a shape. Conditions: none. -/
import Derived.Test.YtjjoendjgiiknaaDoorPartOf
namespace Go.Proofs.YtjjoendjgiiknaaDoor
open Go.RowKit

/-- The cells of a shape. -/
theorem IsShape.parts {w : World} {B g : Nat} {zs : List Int} (h : IsShape w B g zs) : ∃ (As Aw Ab : Option Addr) (cs cw cb : Nat),
    (w.cell? ⟨g, 0, none⟩ = some (.slice As zs.length cs) ∧ w.cell? ⟨g, 1, none⟩ = some (.slice Aw (zs.length - 1) cw) ∧ w.cell? ⟨g, 2, none⟩ = some (.slice Ab (zs.length - 1) cb) ∧ w.cell? ⟨g, 3, none⟩ = some (.int .i64 (cnt zs))) ∧
    RdI w B As zs ∧ Rd w B Aw (flatR (wr zs (zs.length - 1))) ∧ Rd w B Ab (flatR (br zs (zs.length - 1))) := by
  obtain ⟨_, As, Aw, Ab, cs, cw, cb, h1, _, _, _, h2, h3, h4⟩ := h
  refine ⟨As, Aw, Ab, cs, cw, cb, ⟨blk_cell h1 0, blk_cell h1 1, blk_cell h1 2, blk_cell h1 3⟩, h2, ?_, ?_⟩
  · rw [← wcells_eq]; exact h3
  · rw [← bcells_eq]; exact h4

theorem IsShape.next {w w' : World} {g : Nat} {zs : List Int} (h : IsShape w w.heap.size g zs) (hb : Below w.heap.size w w') : IsShape w' w'.heap.size g zs := by
  obtain ⟨hg, As, Aw, Ab, cs, cw, cb, h1, l1, l2, l3, h2, h3, h4⟩ := h.below hb
  exact ⟨Nat.lt_of_lt_of_le hg hb.size, As, Aw, Ab, cs, cw, cb, h1, l1, l2, l3, h2.more hb.size, h3.more hb.size, h4.more hb.size⟩

theorem flat_cells {w : World} {B : Nat} {A : Option Addr} {rs : List (Int × Int)} (h : Rd w B A (flatR rs)) (h0 : 0 < rs.length) : ∃ b off, A = some ⟨b, off, none⟩ ∧ b < B ∧ ∀ (k : Nat) (r : Int × Int), rs[k]? = some r → w.cell? ⟨b, off + k * 2, none⟩ = some (.int .i64 r.1) ∧ w.cell? ⟨b, off + k * 2 + 1, none⟩ = some (.int .i64 r.2) := by
  obtain ⟨b, off, e, hb, hc⟩ := h (by rw [flatR_len]; omega)
  refine ⟨b, off, e, hb, fun k r hr => ?_⟩
  have hf := flatR_at rs k r hr
  have h2 := hc _ _ hf.2
  rw [← Nat.add_assoc] at h2
  exact ⟨hc _ _ hf.1, h2⟩

set_option maxRecDepth 100000 in
set_option maxHeartbeats 1000000 in
theorem place_yes (g : Nat) (zs : List Int) (hs : ShOk zs) (i : Int) (p : Pl) (hp : PlaceIs zs i p) (w : World) (h : IsShape w w.heap.size g zs) :
    Calls Tryd.prog 23 #[.pointer (some ⟨g, 0, none⟩), .int .i64 i] w fun e w' => e = .returned (.tuple #[.int .i64 p.k, .int .i64 p.r, .int .i64 p.c, .bool true]) ∧ Below w.heap.size w w' := by
  obtain ⟨k, hk, rfl⟩ := hp
  have h2 := hs.1
  have h16 := hs.2.1
  have hl1 : 0 < zs.length - 1 := by omega
  obtain ⟨As, Aw, Ab, cs, cw, cb, ⟨c0, c1, c2, c3⟩, hS, hW, hB⟩ := h.parts
  have HO := Lib.hid (of_any i Aw cw (wr zs (zs.length - 1)) w hW (by rw [wr_len]; omega))
  have HP := Lib.hid (fun W (hW' : Below w.heap.size w W) => of_any i Ab cb (br zs (zs.length - 1)) W ((hB.below hW').more hW'.size) (by rw [br_len]; omega))
  rw [wr_len] at HO
  rw [br_len] at HP
  obtain ⟨bw, ow, rfl, hbw, hcw⟩ := flat_cells hW (by rw [wr_len]; exact hl1)
  obtain ⟨bb, ob, rfl, hbb, hcb⟩ := flat_cells hB (by rw [br_len]; exact hl1)
  obtain ⟨bs, os, rfl, hbs, hcs⟩ := hS.at_ (by omega)
  have hkl : k < zs.length - 1 := by have := hk.1; omega
  have f1 := (hcw k _ (wr_at zs hkl)).1
  have f2 := (hcb k _ (br_at zs hkl)).1
  have f3 := hcs k _ (zAt_get (by omega))
  dsimp only at f1 f2
  have ha := zAt_ok hs (k := k) (by omega)
  have hl0 := lo_nonneg hs (k := k) (by omega)
  have hlc := lo_cnt hs hk.1
  have hcn := hs.2.2.2
  have hm := mid_ge hs hk.1
  have hk1 := hk.2.1
  have hk2 := hk.2.2
  have HOW := Lib.hid (show ∀ v, OfIs i (wr zs (zs.length - 1)) v → (v = (k : Int) ∧ i < mid zs k) ∨ (v = -1 ∧ ¬ i < mid zs k) from fun v hv => by
    rcases ofW hs hv with ⟨j, rfl, hj, hlt⟩ | ⟨rfl, hn⟩
    · obtain rfl := at_same hs hj hk
      exact .inl ⟨rfl, hlt⟩
    · exact .inr ⟨rfl, hn k hk⟩)
  have HOB := Lib.hid (show ∀ v, OfIs i (br zs (zs.length - 1)) v → (v = (k : Int) ∧ ¬ i < mid zs k) ∨ (v = -1 ∧ i < mid zs k) from fun v hv => by
    rcases ofB hs hv with ⟨j, rfl, hj, hlt⟩ | ⟨rfl, hn⟩
    · obtain rfl := at_same hs hj hk
      exact .inl ⟨rfl, hlt⟩
    · exact .inr ⟨rfl, hn k hk⟩)
  have hgl := World.block_lt_of_cell? w _ c0
  dsimp only at hgl
  have HPL := Lib.hid (show plAt zs i k = if i < mid zs k then ⟨k, (i - lo zs k) / zAt zs k, (i - lo zs k) % zAt zs k⟩ else ⟨k, i - mid zs k, -1⟩ from rfl)
  have HF := Lib.hid (fun W (hW' : Below w.heap.size w W) => And.intro ((hW'.cell (p := ⟨g, 0, none⟩) hgl).trans c0) (And.intro ((hW'.cell (p := ⟨g, 1, none⟩) hgl).trans c1) (And.intro ((hW'.cell (p := ⟨g, 2, none⟩) hgl).trans c2) (And.intro ((hW'.cell (p := ⟨bw, ow + k * 2, none⟩) hbw).trans f1) (And.intro ((hW'.cell (p := ⟨bb, ob + k * 2, none⟩) hbb).trans f2) ((hW'.cell (p := ⟨bs, os + k, none⟩) hbs).trans f3))))))
  generalize lo zs k = L at *
  generalize mid zs k = M at *
  generalize zAt zs k = a at *
  generalize lo zs (k + 1) = L1 at *
  have hln : (k : Int) < ((zs.length - 1 : Nat) : Int) := by omega
  have hln2 : (k : Int) < (zs.length : Int) := by omega
  have hln3 : ((zs.length - 1 : Nat) : Int) ≤ 100 := by omega
  have hln4 : (zs.length : Int) ≤ 100 := by omega
  obtain ⟨n1, hn1⟩ : ∃ n, zs.length - 1 = n := ⟨_, rfl⟩
  rw [hn1] at c1 c2 HO HP HF HOW HOB hln hln3
  clear hk h hcw hcb hcs hS hW hB f1 f2 f3 hs hn1 hl1 hkl h2 h16
  go_enter Tryd.func23, Tryd.ntmps23
  go_wp2_with fail
  (with_reducible refine HO.out.mono ?_)
  rintro e w1 ⟨⟨v, rfl, hv⟩, hb1⟩
  have HB1 := Lib.hid hb1
  obtain ⟨d0, d1, d2, d3, d4, d5⟩ := HF.out _ hb1
  rcases HOW.out v hv with ⟨rfl, hlt⟩ | ⟨rfl, hlt⟩
  · have hpw := HPL.out.trans (if_pos hlt)
    have e1 : (i - L).tdiv a = (i - L) / a := Int.tdiv_eq_ediv_of_nonneg (by omega)
    have e2 : (i - L).tmod a = (i - L) % a := Int.tmod_eq_emod_of_nonneg (by omega)
    have e3 : 0 ≤ (i - L) / a ∧ (i - L) / a ≤ i - L := ⟨Int.ediv_nonneg (by omega) (by omega), Int.ediv_le_self _ (by omega)⟩
    obtain ⟨x, hx⟩ : ∃ x, i - L = x := ⟨_, rfl⟩
    rw [hx] at hpw
    have HPW := Lib.hid hpw
    clear hpw
    clear hb1 hv c0 c1 c2 c3 HO HP HF
    go_wp2_with fail
    go_quiet (fail)
    go_wp2_with fail
    refine bodyPost_ret (v := .tuple #[.int .i64 k, .int .i64 (x / a), .int .i64 (x % a), .bool true]) (by simp [results, Tryd.results23, go_sem]) rfl ⟨by rw [HPW.out], below_drewN HB1.out _⟩
  · have HPW := Lib.hid (HPL.out.trans (if_neg (by omega)))
    clear hb1 hv c0 c1 c2 c3 HO
    go_wp2_with fail
    (with_reducible refine (HP.out _ HB1.out).mono ?_)
    rintro e w2 ⟨⟨v, rfl, hv⟩, hb2⟩
    have HB2 := Lib.hid (HB1.out.trans (hb2.mono HB1.out.size))
    clear d0 d1 d2 d3 d4 d5
    obtain ⟨d0, d1, d2, d3, d4, d5⟩ := HF.out _ HB2.out
    obtain ⟨rfl, _⟩ : v = (k : Int) ∧ True := by
      rcases HOB.out v hv with h | h
      · exact ⟨h.1, trivial⟩
      · exact absurd h.2 (by omega)
    clear hb2 hv
    go_wp2_with fail
    go_quiet (fail)
    go_wp2_with fail
    refine bodyPost_ret (v := .tuple #[.int .i64 k, .int .i64 (i - M), .int .i64 (-1), .bool true]) (by simp [results, Tryd.results23, go_sem]) rfl ⟨by rw [HPW.out], below_drewN HB2.out _⟩

set_option maxRecDepth 100000 in
set_option maxHeartbeats 1000000 in
theorem place_no (g : Nat) (zs : List Int) (hs : ShOk zs) (i : Int) (hi : ¬ (0 ≤ i ∧ i < cnt zs)) (w : World) (h : IsShape w w.heap.size g zs) :
    Calls Tryd.prog 23 #[.pointer (some ⟨g, 0, none⟩), .int .i64 i] w fun e w' => e = .returned (.tuple #[.int .i64 0, .int .i64 0, .int .i64 0, .bool false]) ∧ Below w.heap.size w w' := by
  have hno : ∀ k, ¬ AtL zs i k := fun k hk => hi (place_in hs ⟨k, hk, rfl⟩)
  have h2 := hs.1
  have h16 := hs.2.1
  obtain ⟨As, Aw, Ab, cs, cw, cb, ⟨c0, c1, c2, c3⟩, hS, hW, hB⟩ := h.parts
  have HO := Lib.hid (of_any i Aw cw (wr zs (zs.length - 1)) w hW (by rw [wr_len]; omega))
  have HP := Lib.hid (fun W (hW' : Below w.heap.size w W) => of_any i Ab cb (br zs (zs.length - 1)) W ((hB.below hW').more hW'.size) (by rw [br_len]; omega))
  rw [wr_len] at HO
  rw [br_len] at HP
  have HOW := Lib.hid (show ∀ v, OfIs i (wr zs (zs.length - 1)) v → v = -1 from fun v hv => by
    rcases ofW hs hv with ⟨j, _, hj, _⟩ | ⟨h, _⟩
    · exact absurd hj (hno j)
    · exact h)
  have HOB := Lib.hid (show ∀ v, OfIs i (br zs (zs.length - 1)) v → v = -1 from fun v hv => by
    rcases ofB hs hv with ⟨j, _, hj, _⟩ | ⟨h, _⟩
    · exact absurd hj (hno j)
    · exact h)
  have hgl := World.block_lt_of_cell? w _ c0
  dsimp only at hgl
  have HF := Lib.hid (fun W (hW' : Below w.heap.size w W) => And.intro ((hW'.cell (p := ⟨g, 1, none⟩) hgl).trans c1) ((hW'.cell (p := ⟨g, 2, none⟩) hgl).trans c2))
  obtain ⟨n1, hn1⟩ : ∃ n, zs.length - 1 = n := ⟨_, rfl⟩
  rw [hn1] at c1 c2 HO HP HF HOW HOB
  clear h hS hW hB hs hn1 h2 h16 hno hi
  go_enter Tryd.func23, Tryd.ntmps23
  go_wp2_with fail
  (with_reducible refine HO.out.mono ?_)
  rintro e w1 ⟨⟨v, rfl, hv⟩, hb1⟩
  have HB1 := Lib.hid hb1
  obtain ⟨d1, d2⟩ := HF.out _ hb1
  obtain rfl := HOW.out v hv
  clear hb1 hv c0 c1 c2 c3 HO
  go_wp2_with fail
  (with_reducible refine (HP.out _ HB1.out).mono ?_)
  rintro e w2 ⟨⟨v, rfl, hv⟩, hb2⟩
  have HB2 := Lib.hid (HB1.out.trans (hb2.mono HB1.out.size))
  obtain rfl := HOB.out v hv
  clear hb2 hv
  go_wp2_with fail
  refine bodyPost_ret (v := .tuple #[.int .i64 0, .int .i64 0, .int .i64 0, .bool false]) (by simp [results, Tryd.results23, go_sem]) rfl ⟨rfl, HB2.out⟩

set_option maxHeartbeats 1000000 in
theorem place_nil (i : Int) (w : World) :
    Calls Tryd.prog 23 #[.pointer none, .int .i64 i] w fun e w' => e = .returned (.tuple #[.int .i64 0, .int .i64 0, .int .i64 0, .bool false]) ∧ w = w' := by
  go_enter Tryd.func23, Tryd.ntmps23
  go_wp2_with fail
  refine bodyPost_ret (v := .tuple #[.int .i64 0, .int .i64 0, .int .i64 0, .bool false]) (by simp [results, Tryd.results23, go_sem]) rfl ⟨rfl, rfl⟩

end Go.Proofs.YtjjoendjgiiknaaDoor
