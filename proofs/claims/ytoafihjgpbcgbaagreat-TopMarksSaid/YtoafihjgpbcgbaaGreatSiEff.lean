/- The interpreter's operations on memory: store, append, copy, clear. Conditions: none. -/
import Derived.Test.YtoafihjgpbcgbaaGreatSiAppend
namespace Go.Proofs.YtoafihjgpbcgbaaGreat.Si
noncomputable section
open Go.RowKit

/-- copy: how many elements, the state after. -/
def copyA (T : TT) (s : St) (t : TypeId) (x y : AV) : Option (AV × St) := match x, y, look T t with
  | .sl id off len _ _ _, .sl id2 off2 len2 _ _ _, some { k := .slice e, .. } => (look T e).bind fun te =>
      (readA s id2 off2 (Nat.min len2 len * te.size)).bind fun l => (writeA s id off l).map fun s' => (.int .i64 (Nat.min len2 len : Nat), s')
  | .snil, .sl _ _ _ _ _ _, some { k := .slice e, .. } => (look T e).bind fun _ => some (.int .i64 0, s)
  | .sl _ _ _ _ _ _, .snil, some { k := .slice e, .. } => (look T e).bind fun _ => some (.int .i64 0, s)
  | .snil, .snil, some { k := .slice e, .. } => (look T e).bind fun _ => some (.int .i64 0, s)
  | _, _, _ => none

/-- clear. -/
def clearA (T : TT) (s : St) (t : TypeId) (x : AV) : Option (AV × St) := match x, look T t with
  | .snil, some { k := .slice _, .. } => some (.tup [], s)
  | .sl id off len _ _ _, some { k := .slice e, .. } => match len with
    | 0 => some (.tup [], s)
    | n + 1 => (look T e).bind fun te => (writeA s id off (rep (n + 1) te.zero)).map fun s' => (.tup [], s')
  | _, _ => none

/-- What an operation on memory yields, and the state after. -/
def memOp (T : TT) (ρ : Operand → Option AV) (s : St) : Op → Option (AV × St)
  | .store t x y => (ρ x).bind fun a => (ρ y).bind fun b => (storeA T s t a b).map fun s' => (.tup [], s')
  | .call { callee := .builtin .append, args := ⟨[x, y]⟩, argTypes := ⟨[t, tx]⟩ } => (ρ x).bind fun a => (ρ y).bind fun b => appendA T s t tx a b
  | .call { callee := .builtin .copy, args := ⟨[x, y]⟩, argTypes := ⟨[t, _]⟩ } => (ρ x).bind fun a => (ρ y).bind fun b => copyA T s t a b
  | .call { callee := .builtin .clear, args := ⟨[x]⟩, argTypes := ⟨[t]⟩ } => (ρ x).bind fun a => clearA T s t a
  | _ => none

section
variable {P : Program} {φ : Phi} {B : Nat} {w0 w : World} {s s' : St}

theorem eff_write (hs : Stands B w0 φ s w) {id off : Nat} {L : Loc} (hL : φ id = some L) {l : List AV} (h : writeA s id off l = some s') {us : List Value} (hu : concL φ l = some us) :
    Eff B w0 φ φ s s' (w.setCells L.blk (L.base + off) us) ∧ (storeCells ⟨L.blk, L.base + off, none⟩ us).run P w = .ok () (w.setCells L.blk (L.base + off) us) := by
  obtain ⟨m1, m2, m3, m4⟩ := hs.write hL h hu
  have hone : ∀ u ∈ us, u.oneCell' = true := by
    unfold writeA at h
    split at h
    · split at h
      · rename_i hw
        exact allOne_ok hu hw.2
      · cases h
    · cases h
  have hrun := run_storeCells_cells (P := P) L.blk (L.base + off) us 0 w (fun j hj => by simpa using (m2 j hj).1) (fun j hj => by simpa using (m2 j hj).2) hone
  simp only [Nat.add_zero] at hrun
  exact ⟨⟨φ.le_refl, m1, by omega, fun j hj hjn => ⟨hjn, m4 j (Nat.lt_of_lt_of_le hj hs.room) hjn⟩⟩, hrun⟩

theorem copy_nothing {t tx ty e : TypeId} {te : TI} (ht : P.underlying t = some (.slice e)) (he : TypeOk P e te) (d a : Option Addr) (dl al dc ac : Nat) (h0 : Nat.min al dl = 0) :
    (Builtin.copy_ #[t, tx] ty #[.slice d dl dc, .slice a al ac]).run P w = .ok (goInt 0) w := by
  have hf : (Builtin.firstCells te.size 0 (.slice a al ac)).run P w = .ok #[] w := by
    cases a with
    | none => exact run_firstCells_none w te.size 0 al ac
    | some x => exact run_firstCells_some w te.size 0 x al ac [] (by simp) (by simp)
  cases d <;> simp [Builtin.copy_, run_underlying ht, Builtin.lenOf, he.size_run w, h0, hf, storeCells]

theorem copy_ok {T : TT} (hT : TypesOk P T) (hs : Stands B w0 φ s w) {t tx ty : TypeId} {x y r : AV} (h : copyA T s t x y = some (r, s')) {u v : Value} (hx : conc φ x = some u) (hy : conc φ y = some v) :
    ∃ w' q, (Builtin.copy_ #[t, tx] ty #[u, v]).run P w = .ok q w' ∧ Eff B w0 φ φ s s' w' ∧ conc φ r = some q := by
  unfold copyA at h
  split at h
  · rename_i id off len _ _ _ id2 off2 len2 _ _ _ _ _ _ _ e hl
    simp only [Option.bind_eq_some_iff, Option.map_eq_some_iff] at h
    obtain ⟨te, hte, l, hr, s1, hw, h⟩ := h
    obtain ⟨rfl, rfl⟩ : AV.int .i64 (Nat.min len2 len : Nat) = r ∧ s1 = s' := by simpa using h
    obtain ⟨d, ht, _, hk⟩ := (hT.at hl).kind
    dsimp only at hk
    subst hk
    obtain ⟨L, c, hL, rfl, _⟩ := conc_sl hx
    obtain ⟨M, c2, hM, rfl, _⟩ := conc_sl hy
    obtain ⟨us, k1, k2, _, k3⟩ := read_ok hs hM hr
    obtain ⟨m1, m2⟩ := eff_write (P := P) hs hL hw k1
    have hf := run_firstCells_some (P := P) w te.size (Nat.min len2 len) ⟨M.blk, M.base + off2, none⟩ len2 c2 us k2 fun j u hj => by rw [Addr.add_mid]; exact k3 j u hj
    refine ⟨_, goInt (Nat.min len2 len : Nat), ?_, m1, rfl⟩
    simp [Builtin.copy_, run_underlying ht, Builtin.lenOf, (hT.at hte).size_run w, hf, m2]
  · rename_i hl
    simp only [Option.bind_eq_some_iff] at h
    obtain ⟨te, hte, h⟩ := h
    obtain ⟨rfl, rfl⟩ : AV.int .i64 0 = r ∧ s = s' := by simpa using h
    obtain ⟨d, ht, _, hk⟩ := (hT.at hl).kind
    dsimp only at hk
    subst hk
    obtain ⟨M, c2, hM, rfl, _⟩ := conc_sl hy
    injection hx with hx
    subst hx
    exact ⟨w, goInt 0, copy_nothing ht (hT.at hte) none _ 0 _ 0 _ (by simp), Eff.refl hs, rfl⟩
  · rename_i hl
    simp only [Option.bind_eq_some_iff] at h
    obtain ⟨te, hte, h⟩ := h
    obtain ⟨rfl, rfl⟩ : AV.int .i64 0 = r ∧ s = s' := by simpa using h
    obtain ⟨d, ht, _, hk⟩ := (hT.at hl).kind
    dsimp only at hk
    subst hk
    obtain ⟨M, c2, hM, rfl, _⟩ := conc_sl hx
    injection hy with hy
    subst hy
    exact ⟨w, goInt 0, copy_nothing ht (hT.at hte) _ none _ 0 _ 0 (by simp), Eff.refl hs, rfl⟩
  · rename_i hl
    simp only [Option.bind_eq_some_iff] at h
    obtain ⟨te, hte, h⟩ := h
    obtain ⟨rfl, rfl⟩ : AV.int .i64 0 = r ∧ s = s' := by simpa using h
    obtain ⟨d, ht, _, hk⟩ := (hT.at hl).kind
    dsimp only at hk
    subst hk
    injection hx with hx
    injection hy with hy
    subst hx hy
    exact ⟨w, goInt 0, copy_nothing ht (hT.at hte) none none 0 0 0 0 (by simp), Eff.refl hs, rfl⟩
  · cases h

theorem clear_ok {T : TT} (hT : TypesOk P T) (hs : Stands B w0 φ s w) {t ty : TypeId} {x r : AV} (h : clearA T s t x = some (r, s')) {u : Value} (hx : conc φ x = some u) :
    ∃ w' q, (Builtin.clear_ #[t] ty #[u]).run P w = .ok q w' ∧ Eff B w0 φ φ s s' w' ∧ conc φ r = some q := by
  unfold clearA at h
  split at h
  · rename_i hl
    obtain ⟨rfl, rfl⟩ : AV.tup [] = r ∧ s = s' := by simpa using h
    obtain ⟨d, ht, _, hk⟩ := (hT.at hl).kind
    dsimp only at hk
    subst hk
    injection hx with hx
    subst hx
    exact ⟨w, .tuple #[], by simp [Builtin.clear_, run_underlying ht], Eff.refl hs, rfl⟩
  · rename_i id off len _ _ _ _ _ _ _ e hl
    obtain ⟨d, ht, _, hk⟩ := (hT.at hl).kind
    dsimp only at hk
    subst hk
    obtain ⟨L, c, hL, rfl, _⟩ := conc_sl hx
    split at h
    · obtain ⟨rfl, rfl⟩ : AV.tup [] = r ∧ s = s' := by simpa using h
      exact ⟨w, .tuple #[], by simp [Builtin.clear_, run_underlying ht], Eff.refl hs, rfl⟩
    · rename_i n
      simp only [Option.bind_eq_some_iff, Option.map_eq_some_iff] at h
      obtain ⟨te, hte, s1, hw, h⟩ := h
      obtain ⟨rfl, rfl⟩ : AV.tup [] = r ∧ s1 = s' := by simpa using h
      have he := hT.at hte
      obtain ⟨z, hz, k⟩ := he.zero_run w
      obtain ⟨m1, m2⟩ := eff_write (P := P) hs hL hw (rep_ok (absCs_conc φ _ _ k) (n + 1))
      refine ⟨_, .tuple #[], ?_, m1, rfl⟩
      have hzc : (Builtin.zeroCells z.cells (n + 1)).toList = rep (n + 1) z.cells.toList := by
        unfold Builtin.zeroCells
        rw [rep_range]
      simp [Builtin.clear_, run_underlying ht, hz, hzc, m2]
  · cases h

variable {ρ : Operand → Option AV} {ρc : Operand → Value}

/-- The operations on memory are sound. -/
theorem mem_ok {T : TT} (hT : TypesOk P T) (hρ : ∀ x a, ρ x = some a → conc φ a = some (ρc x)) (hs : Stands B w0 φ s w) (o : Oper) {r : AV} (h : memOp T ρ s o.op = some (r, s')) :
    ∃ φ' w' nx v, (execOp ρc o).run P w = .ok nx w' ∧ (nx = .value v ∨ nx = .skip ∧ v = undef) ∧ Eff B w0 φ φ' s s' w' ∧ conc φ' r = some v := by
  obtain ⟨dst, op, ty, pos, af, gd⟩ := o
  dsimp only at h
  unfold memOp at h
  split at h
  · rename_i t x y
    simp only [Option.bind_eq_some_iff, Option.map_eq_some_iff] at h
    obtain ⟨a, ha, b, hb, s1, hst, h⟩ := h
    obtain ⟨rfl, rfl⟩ : AV.tup [] = r ∧ s1 = s' := by simpa using h
    obtain ⟨w', k1, k2, k3, k4⟩ := store_ok hT hs hst (hρ x a ha) (hρ y b hb)
    exact ⟨φ, w', .skip, undef, by simp [execOp, k1], .inr ⟨rfl, rfl⟩, ⟨φ.le_refl, k2, by omega, fun j hj hjn => ⟨hjn, k4 j (Nat.lt_of_lt_of_le hj hs.room) hjn⟩⟩, rfl⟩
  · rename_i x y t tx
    simp only [Option.bind_eq_some_iff] at h
    obtain ⟨a, ha, b, hb, h⟩ := h
    obtain ⟨φ', w', q, k1, k2, k3⟩ := append_ok (ty := ty) hT hs h (hρ x a ha) (hρ y b hb)
    refine ⟨φ', w', .value q, q, ?_, .inl rfl, k2, k3⟩
    rw [BigFrame.execOp_builtin, BigFrame.builtin_append]
    simp only [List.map_toArray, List.map_cons, List.map_nil, Sem.run_bind]
    rw [k1]
    simp
  · rename_i x y t tx
    simp only [Option.bind_eq_some_iff] at h
    obtain ⟨a, ha, b, hb, h⟩ := h
    obtain ⟨w', q, k1, k2, k3⟩ := copy_ok (tx := tx) (ty := ty) hT hs h (hρ x a ha) (hρ y b hb)
    refine ⟨φ, w', .value q, q, ?_, .inl rfl, k2, k3⟩
    rw [BigFrame.execOp_builtin, BigFrame.builtin_copy]
    simp only [List.map_toArray, List.map_cons, List.map_nil, Sem.run_bind]
    rw [k1]
    simp
  · rename_i x t
    simp only [Option.bind_eq_some_iff] at h
    obtain ⟨a, ha, h⟩ := h
    obtain ⟨w', q, k1, k2, k3⟩ := clear_ok (ty := ty) hT hs h (hρ x a ha)
    refine ⟨φ, w', .value q, q, ?_, .inl rfl, k2, k3⟩
    rw [BigFrame.execOp_builtin, BigFrame.builtin_clear]
    simp only [List.map_toArray, List.map_cons, List.map_nil, Sem.run_bind]
    rw [k1]
    simp
  · cases h

end
end
end Go.Proofs.YtoafihjgpbcgbaaGreat.Si
