/- ConfInputs holds: for every input the law returns true, and the input reads afterwards as it read before. Conditions: none. -/
import Derived.Test.YtiokdfkddcokoaaRows
import Derived.Test.YtiokdfkddcokoaaConfInputs
import Derived.Test.YtiokdfkddcokoaaExOpen
namespace Go.Proofs.Ytiokdfkddcokoaa
open Go.ChangeShapes Go.WideShapes Go.ChangeAt Go.RowKit Go.Deep

theorem list15 {l : List Value} (h : l.length = 15) : ∃ L a12 a13 a14, l = L ++ [a12, a13, a14] ∧ L.length = 12 := by
  match l, h with
  | [a0, a1, a2, a3, a4, a5, a6, a7, a8, a9, a10, a11, a12, a13, a14], _ => exact ⟨[a0, a1, a2, a3, a4, a5, a6, a7, a8, a9, a10, a11], _, _, _, rfl, rfl⟩

/-- A cell that is a slice of which the length alone is asked. -/
theorem open_len {H : Type} {enc : TypeId × Value → H} {P : Program} {w : World} {base : Nat} {spare : Nat → Bool} {held : Bool} {t e : TypeId} {fuel : Nat} {c : Value} {y : DataW H × List MemPlace} (ht : P.underlying t = some (.slice e))
    (h : DataW.trod enc P w base spare held fuel t [c] = some y) : ∃ (A : Option Addr) (n cap : Nat), c = .slice A n cap ∧ n ≤ 9223372036854775807 := by
  rcases open_slice ht h with ⟨hcs, hx⟩ | ⟨a, len, cap, m, n, D, Pl, hcs, hb, hl, hm, _⟩
  · injection hcs with hcs _
    exact ⟨none, 0, 0, hcs, by omega⟩
  · injection hcs with hcs _
    unfold maxLen at hm
    exact ⟨some a, len, cap, hcs, by omega⟩

set_option maxRecDepth 100000 in
theorem open_input {H : Type} {enc : TypeId × Value → H} {w : World} {base : Nat} {spare : Nat → Bool} {held : Bool} {r : Reach} {b0 : Nat} {v : Value} {d : DataW H} {p : List MemPlace} (hv : Value.okWide Try.prog w r b0 36 v) (h : DataW.Trod enc Try.prog w base spare held 36 v d p) :
    ∃ (A DA SA RA : Option Addr) (cap dcap sn scap rn rcap : Nat) (zs : List Int) (l : List Ex) (sh ra mo wo ba mi st bu ch wi ca : Int), v = .agg #[.slice A zs.length cap, .int .i64 sh, .int .i64 ra, .int .i64 mo, .int .i64 wo, .int .i64 ba, .int .i64 mi, .int .i64 st, .int .i64 bu, .int .i64 ch, .int .i64 wi, .int .i64 ca, .slice DA l.length dcap, .slice SA sn scap, .slice RA rn rcap] ∧
      RdI w w.heap.size A zs ∧ zs.length ≤ cap ∧ zs.length ≤ 9223372036854775807 ∧ RdE w w.heap.size DA l ∧ l.length ≤ 9223372036854775807 ∧ sn ≤ 9223372036854775807 ∧ rn ≤ 9223372036854775807 := by
  obtain ⟨cs, rfl, hsz⟩ := okWide_struct Try.underlying36 hv
  obtain ⟨fuel, hf⟩ := h
  obtain ⟨ys, n, _, hx, hlen, hyl, hg⟩ := DataW.trod_struct Try.underlying36 hf
  have hc15 : cs.toList.length = 15 := by simpa [Try.cellsIn] using hsz
  obtain ⟨L, a12, a13, a14, hL, hL12⟩ := list15 hc15
  have hcells : (Value.agg cs).cells.toList = L ++ [a12, a13, a14] := hL
  rw [hcells] at hg
  have hys : ys.length = 4 := hyl.trans rfl
  match ys, hys with
  | [y0, y1, y2, y3], _ =>
    have g0 : DataW.trod enc Try.prog w base spare held n 24 (((L ++ [a12, a13, a14]).drop 0).take (Try.prog.cellsOf 24)) = some y0 := hg 0 _ rfl
    have g1 : DataW.trod enc Try.prog w base spare held n 32 (((L ++ [a12, a13, a14]).drop 12).take (Try.prog.cellsOf 32)) = some y1 := hg 1 _ rfl
    have g2 : DataW.trod enc Try.prog w base spare held n 33 (((L ++ [a12, a13, a14]).drop 13).take (Try.prog.cellsOf 33)) = some y2 := hg 2 _ rfl
    have g3 : DataW.trod enc Try.prog w base spare held n 34 (((L ++ [a12, a13, a14]).drop 14).take (Try.prog.cellsOf 34)) = some y3 := hg 3 _ rfl
    have k0 : Try.prog.cellsOf 24 = 12 := by kernel_rfl
    have k1 : Try.prog.cellsOf 32 = 1 := by kernel_rfl
    have k2 : Try.prog.cellsOf 33 = 1 := by kernel_rfl
    have k3 : Try.prog.cellsOf 34 = 1 := by kernel_rfl
    rw [k0] at g0
    rw [k1] at g1
    rw [k2] at g2
    rw [k3] at g3
    have d0 : ((L ++ [a12, a13, a14]).drop 0).take 12 = L := by rw [List.drop_zero, List.take_append_of_le_length (by omega), List.take_of_length_le (by omega)]
    have d1 : ((L ++ [a12, a13, a14]).drop 12).take 1 = [a12] := by rw [List.drop_append_of_le_length (by omega), List.drop_of_length_le (by omega)]; rfl
    have d2 : ((L ++ [a12, a13, a14]).drop 13).take 1 = [a13] := by rw [show 13 = L.length + 1 by omega, List.drop_length_add_append]; rfl
    have d3 : ((L ++ [a12, a13, a14]).drop 14).take 1 = [a14] := by rw [show 14 = L.length + 2 by omega, List.drop_length_add_append]; rfl
    rw [d0] at g0
    rw [d1] at g1
    rw [d2] at g2
    rw [d3] at g3
    obtain ⟨A, zs, cap, sh, ra, mo, wo, ba, mi, st, bu, ch, wi, ca, hA, hcap, hm, hr⟩ := cells_conf g0
    obtain ⟨DA, l, dcap, hD, _, hlm, hd⟩ := open_exs g1
    obtain ⟨SA, sn, scap, hS, hsm⟩ := open_len Try.underlying33 g2
    obtain ⟨RA, rn, rcap, hR, hrm⟩ := open_len Try.underlying34 g3
    refine ⟨A, DA, SA, RA, cap, dcap, sn, scap, rn, rcap, zs, l, sh, ra, mo, wo, ba, mi, st, bu, ch, wi, ca, ?_, hr, hcap, hm, hd, hlm, hsm, hrm⟩
    rw [show cs = cs.toList.toArray by simp, hL, hA, hD, hS, hR]
    rfl

set_option maxRecDepth 100000 in
theorem confInputs_lifted (os : Os) (started : os.Started) (H : Type) (enc : TypeId × Value → H) :
    ReturnsInHanded {} Try.checked os 5 .any (Rows.confInputsSpec.pre6 enc Try.prog Try.f5 Rows.confInputsRow.domain false) (Rows.confInputsSpec.post enc Try.prog Try.f5 false true false false) := by
  refine returnsInHanded_of_change (C := Try.checked) Try.own started (by kernel_rfl) Try.func5
    (ChangeSpec.witness6 (enc := enc) (C := Try.checked) false ⟨#[], #[.agg #[.slice none 0 0, .int .i64 0, .int .i64 0, .int .i64 0, .int .i64 0, .int .i64 0, .int .i64 0, .int .i64 0, .int .i64 0, .int .i64 0, .int .i64 0, .int .i64 0, .slice none 0 0, .slice none 0 0, .slice none 0 0]], []⟩ 8 (by kernel_rfl) (by kernel_rfl) (by kernel_rfl) (by kernel_rfl)) ?_
  intro W base args ds gs before hval0 hW _ _
  have hval : ∀ (j : Nat) t v, Try.f5.params[j]? = some t → args[j]? = some v → Value.okWide Try.prog W .any base t v := hval0
  have hW' := hW
  obtain ⟨p, q, hA0, hV, rfl, _, _⟩ := hW
  have hA : DataW.TrodAll enc Try.prog W 0 (fun _ => true) true Try.f5.params.toList args.toList ds p := hA0
  rw [Try.params5] at hA hval
  obtain ⟨v0, d0, rfl, rfl, h0⟩ := trodAll_one hA
  obtain ⟨rfl, rfl⟩ := trodVars_none hV
  obtain ⟨A, DA, SA, RA, cap, dcap, sn, scap, rn, rcap, zs, l, sh, ra, mo, wo, ba, mi, st, bu, ch, wi, ca, rfl, hr, hcap, hm, hd, hlm, hsm, hrm⟩ := open_input (hval 0 36 v0 rfl rfl) h0
  refine (confInputs_any A DA SA RA cap dcap sn scap rn rcap zs l sh ra mo wo ba mi st bu ch wi ca W hr hcap hm hd hlm hsm hrm).mono fun e W' ⟨he, hb⟩ => ?_
  subst he
  exact ⟨_, rfl, law_post Try.laidOut (by kernel_rfl) rfl Try.underlying4 rfl rfl hW' hb⟩

theorem confInputs_holds : Rows.ConfInputsSaid :=
  OpenClaim.holds_of_wide 5 Try.f5 rfl rfl rfl rfl rfl rfl rfl ⟨rfl, rfl, rfl, rfl, rfl⟩ rfl rfl rfl rfl rfl (by kernel_rfl) Try.func5 (by kernel_rfl)
    (of_decide_eq_true (by kernel_rfl)) (by unfold Func.isWrapper; rw [if_neg (of_decide_eq_false (by kernel_rfl))]; exact ⟨rfl, rfl⟩)
    (fun os started H enc _ => confInputs_lifted os started H enc)

end Go.Proofs.Ytiokdfkddcokoaa
