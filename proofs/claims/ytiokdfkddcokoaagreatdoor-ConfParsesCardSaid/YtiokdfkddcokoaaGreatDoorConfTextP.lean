/- What the twelve fields of a configuration are, one by one; the index of an array of fields. Conditions: none. -/
import Derived.Test.YtiokdfkddcokoaaGreatDoorConfWrite
namespace Go.Proofs.YtiokdfkddcokoaaGreatDoor
open Go.RowKit

/-- A configuration that lies in block g. -/
def cfCells (A : Option Addr) (n cap : Nat) (c : Cf) : Array Value :=
  #[.slice A n cap, .int .i64 c.sh, .int .i64 c.ra, .int .i64 c.mo, .int .i64 c.wo, .int .i64 c.ba, .int .i64 c.mi, .int .i64 c.st, .int .i64 c.bu, .int .i64 c.ch, .int .i64 c.wi, .int .i64 c.ca]
def CfAt (W : World) (g : Nat) (A : Option Addr) (cap : Nat) (zs : List Int) (c : Cf) : Prop := W.heap[g]? = some (.cells (cfCells A zs.length cap c) 24 (0, 0)) ∧ RdI W W.heap.size A zs
theorem CfAt.below {W W' : World} {g : Nat} {A : Option Addr} {cap : Nat} {zs : List Int} {c : Cf} (h : CfAt W g A cap zs c) (hb : Below W.heap.size W W') : CfAt W' g A cap zs c :=
  ⟨blk_below h.1 hb (blk_lt h.1), (h.2.below hb).more hb.size⟩

/-- The number in a decimal field. -/
def numK (c : Cf) : Nat → Int
  | 1 => c.sh
  | 2 => c.ra
  | 3 => c.mo
  | 4 => c.wo
  | 5 => c.ba
  | 6 => c.mi
  | 7 => c.st
  | 8 => c.bu
  | 9 => c.ch
  | 10 => c.wi
  | 11 => c.ca
  | _ => 0
/-- Whether a field has a text. -/
def okK (zs : List Int) (c : Cf) : Nat → Bool
  | 0 => decide (0 < zs.length) && szOk zs
  | 1 => decide (0 ≤ c.sh ∧ c.sh ≤ 62)
  | 2 => true
  | 3 => true
  | k => decide (0 ≤ numK c k ∧ numK c k ≤ 1048576)
def txtK (zs : List Int) (c : Cf) : Nat → List UInt8
  | 0 => szText zs
  | 2 => decText c.ra c.sh.toNat
  | 3 => decText c.mo c.sh.toNat
  | k => Lib.itoa (numK c k)

/-- All words of the text as byte strings. -/
def cfBs (zs : List Int) (c : Cf) : List ByteArray := (cfWords zs c).map fun x => ⟨x.toArray⟩

/-- The numbers of a configuration are numbers of 64 bits. -/
def Cf64 (zs : List Int) (c : Cf) : Prop := (∀ z ∈ zs, In64 z) ∧ ∀ k, In64 (numK c k)

def cfB (zs : List Int) (c : Cf) : Bool := (List.range 12).all (okK zs c)

theorem szOk_iff {zs : List Int} : szOk zs = true ↔ ∀ z ∈ zs, In20 z := by
  unfold szOk In20
  rw [List.all_eq_true]
  constructor
  · intro h z hz
    have := h z hz
    simp at this
    exact this
  · intro h z hz
    have := h z hz
    simp
    exact this
theorem cfB_iff {zs : List Int} {c : Cf} : cfB zs c = true ↔ CfOk zs c := by
  unfold cfB
  rw [List.all_eq_true]
  constructor
  · intro h
    have h0 := h 0 (by simp)
    have h1 := h 1 (by simp)
    have h4 := h 4 (by simp)
    have h5 := h 5 (by simp)
    have h6 := h 6 (by simp)
    have h7 := h 7 (by simp)
    have h8 := h 8 (by simp)
    have h9 := h 9 (by simp)
    have h10 := h 10 (by simp)
    have h11 := h 11 (by simp)
    simp only [okK, numK, decide_eq_true_eq, Bool.and_eq_true] at h0 h1 h4 h5 h6 h7 h8 h9 h10 h11
    exact ⟨fun e => by rw [e] at h0; exact absurd h0.1 (by simp), szOk_iff.1 h0.2, h1, h4, h5, h6, h7, h8, h9, h10, h11⟩
  · intro h k hk
    have hk' : k < 12 := by simpa using hk
    have h0 : (decide (0 < zs.length) && szOk zs) = true := by
      rw [Bool.and_eq_true, decide_eq_true_eq, szOk_iff]
      exact ⟨List.length_pos_iff.2 h.ne, h.sz⟩
    have hc : k = 0 ∨ k = 1 ∨ k = 2 ∨ k = 3 ∨ k = 4 ∨ k = 5 ∨ k = 6 ∨ k = 7 ∨ k = 8 ∨ k = 9 ∨ k = 10 ∨ k = 11 := by omega
    rcases hc with rfl | rfl | rfl | rfl | rfl | rfl | rfl | rfl | rfl | rfl | rfl | rfl
    · exact h0
    · exact decide_eq_true h.sh
    · rfl
    · rfl
    · exact decide_eq_true h.wo
    · exact decide_eq_true h.ba
    · exact decide_eq_true h.mi
    · exact decide_eq_true h.st
    · exact decide_eq_true h.bu
    · exact decide_eq_true h.ch
    · exact decide_eq_true h.wi
    · exact decide_eq_true h.ca

theorem part_agg {P : Program} {t : TypeId} {s : Nat} (ha : ∀ w, (isAgg t).run P w = .ok true w) (hs : ∀ w, (sizeOf t).run P w = .ok s w) (cs : Array Value) (off : Nat) (w : World) : (part t cs off).run P w = .ok (.agg (cs.extract off (off + s))) w := by
  simp [part, ha, hs]
theorem flat_at : ∀ (L : List (List Value)) (k : Nat) (l : List Value), (∀ x ∈ L, x.length = 3) → L[k]? = some l → (L.flatten.drop (k * 3)).take 3 = l
  | [], _, _, _, h => by simp at h
  | x :: r, 0, l, h3, h => by
    simp at h
    subst h
    have := h3 x (by simp)
    simp only [Nat.zero_mul, List.drop_zero, List.flatten_cons]
    rw [← this]
    exact List.take_left' rfl
  | x :: r, k + 1, l, h3, h => by
    have hx := h3 x (by simp)
    have ih := flat_at r k l (fun y hy => h3 y (by simp [hy])) (by simpa using h)
    rw [List.flatten_cons, show (k + 1) * 3 = x.length + k * 3 by omega, List.drop_append, List.drop_of_length_le (Nat.le_add_right _ _), List.nil_append, Nat.add_sub_cancel_left]
    exact ih
theorem idx_field (L : List (List Value)) (hL : L.length = 12) (h3 : ∀ x ∈ L, x.length = 3) (k : Nat) (l : List Value) (hk : L[k]? = some l) (W : World) :
    (Instr.index 39 (.agg L.flatten.toArray) (.int .i64 (k : Int))).run Tryz.prog W = .ok (.agg l.toArray) W := by
  have hlt : k < 12 := by rw [← hL]; exact (List.getElem?_eq_some_iff.1 hk).1
  have ha : ∀ w, (isAgg 38).run Tryz.prog w = .ok true w := Tryz.isAgg38
  have hs : ∀ w, (sizeOf 38).run Tryz.prog w = .ok 3 w := Tryz.sizeOf38
  have hp := part_agg ha hs L.flatten.toArray (k * 3) W
  have he : L.flatten.toArray.extract (k * 3) (k * 3 + 3) = l.toArray := by
    rw [List.extract_toArray]
    have e : L.flatten.extract (k * 3) (k * 3 + 3) = (L.flatten.drop (k * 3)).take (k * 3 + 3 - k * 3) := rfl
    rw [e, show k * 3 + 3 - k * 3 = 3 by omega, flat_at L k l h3 hk]
  rw [he] at hp
  have h1 : (0 : Int) ≤ (k : Int) ∧ (k : Int) < 12 := by omega
  simp [Instr.index, run_underlying Tryz.underlying39, asIntOf, hs, hp, h1, hlt]

/-- What the words of a text are, two by two. -/
def nameK : Nat → ByteArray
  | 0 => ⟨wSizes.toArray⟩
  | 1 => ⟨wShift.toArray⟩
  | 2 => ⟨wRate.toArray⟩
  | 3 => ⟨wMom.toArray⟩
  | 4 => ⟨wWorkers.toArray⟩
  | 5 => ⟨wBatch.toArray⟩
  | 6 => ⟨wMicros.toArray⟩
  | 7 => ⟨wSteps.toArray⟩
  | 8 => ⟨wBucket.toArray⟩
  | 9 => ⟨wChunk.toArray⟩
  | 10 => ⟨wWindow.toArray⟩
  | _ => ⟨wCap.toArray⟩
theorem take_words (zs : List Int) (c : Cf) (k : Nat) (hk : k < 12) : ((cfBs zs c).map Value.string).take (2 * (k + 1)) = ((cfBs zs c).map Value.string).take (2 * k) ++ [.string (nameK k), .string ⟨(txtK zs c k).toArray⟩] := by
  have hc : k = 0 ∨ k = 1 ∨ k = 2 ∨ k = 3 ∨ k = 4 ∨ k = 5 ∨ k = 6 ∨ k = 7 ∨ k = 8 ∨ k = 9 ∨ k = 10 ∨ k = 11 := by omega
  rcases hc with rfl | rfl | rfl | rfl | rfl | rfl | rfl | rfl | rfl | rfl | rfl | rfl <;> rfl

/-- How a field is written: its closure's contract. -/
def Writes (w : World) (zs : List Int) (c : Cf) (k : Nat) (f : FuncId) (caps : Array Value) : Prop :=
  ∀ W, Below w.heap.size w W → Calls Tryz.prog f caps W fun e w' => e = .returned (.tuple #[.string ⟨(txtK zs c k).toArray⟩, .bool (okK zs c k)]) ∧ Below W.heap.size W w'

theorem cfCells_at (A : Option Addr) (n cap : Nat) (c : Cf) (k : Nat) (h0 : 0 < k) (hk : k < 12) : (cfCells A n cap c)[k]? = some (.int .i64 (numK c k)) := by
  have hc : k = 1 ∨ k = 2 ∨ k = 3 ∨ k = 4 ∨ k = 5 ∨ k = 6 ∨ k = 7 ∨ k = 8 ∨ k = 9 ∨ k = 10 ∨ k = 11 := by omega
  rcases hc with rfl | rfl | rfl | rfl | rfl | rfl | rfl | rfl | rfl | rfl | rfl <;> rfl

theorem CfAt.num {W : World} {g : Nat} {A : Option Addr} {cap : Nat} {zs : List Int} {c : Cf} (h : CfAt W g A cap zs c) (k : Nat) (h0 : 0 < k) (hk : k < 12) : W.cell? ⟨g, k, none⟩ = some (.int .i64 (numK c k)) :=
  (blk_cell h.1 k).trans (cfCells_at A zs.length cap c k h0 hk)

/-- Each field's write closure. -/
theorem fld_write {w : World} {g k : Nat} {l : List Value} {A : Option Addr} {cap : Nat} {zs : List Int} {c : Cf} {B : Nat} (h : FldIs w g k l) (hc : CfAt w g A cap zs c) (h64 : Cf64 zs c) (hl : zs.length ≤ 1000) (hp : Pow B w) (hB : B ≤ w.heap.size)
    (hsh : 1 < k → 0 ≤ c.sh ∧ c.sh ≤ 62) :
    (∃ b, l = [.string (nameK k), .func (.func 50) #[] #[.pointer (some ⟨b, 0, none⟩)], .func (.func 51) #[] #[.pointer (some ⟨b, 0, none⟩)]] ∧ Writes w zs c k 50 #[.pointer (some ⟨b, 0, none⟩)]) ∨
    (∃ b1 b2, l = decF (nameK k) b1 b2 ∧ Writes w zs c k 46 #[.pointer (some ⟨b1, 0, none⟩), .pointer (some ⟨b2, 0, none⟩)]) ∨
    (∃ b1 b2, l = fraF (nameK k) b1 b2 ∧ okK zs c k = true ∧ Writes w zs c k 52 #[.pointer (some ⟨b1, 0, none⟩), .pointer (some ⟨b2, 0, none⟩)]) := by
  have up : ∀ {W : World} {b o : Nat} {v : Value}, Below w.heap.size w W → w.cell? ⟨b, o, none⟩ = some v → W.cell? ⟨b, o, none⟩ = some v := fun {W b o v} hb hv => Keeps.cell (w := w) hb hv
  cases h with
  | siz b hb hne =>
    refine .inl ⟨b, rfl, fun W hW => ?_⟩
    exact szWrite_any b g A cap zs hl h64.1 B W (hp.on (hW.mono hB)) (Nat.le_trans hB hW.size) (up hW hb.cell) (up hW (blk_cell hc.1 0)) ((hc.2.below hW).more hW.size)
  | dec _ s most b1 b2 hm h1 h2 n1 n2 =>
    have hk0 : 0 < k ∧ k < 12 ∧ s = nameK k ∧ txtK zs c k = Lib.itoa (numK c k) ∧ okK zs c k = decide (0 ≤ numK c k ∧ numK c k ≤ most) := by
      simp only [List.mem_cons, Prod.mk.injEq, List.not_mem_nil, or_false] at hm
      rcases hm with ⟨rfl, rfl, rfl⟩ | ⟨rfl, rfl, rfl⟩ | ⟨rfl, rfl, rfl⟩ | ⟨rfl, rfl, rfl⟩ | ⟨rfl, rfl, rfl⟩ | ⟨rfl, rfl, rfl⟩ | ⟨rfl, rfl, rfl⟩ | ⟨rfl, rfl, rfl⟩ | ⟨rfl, rfl, rfl⟩ <;> exact ⟨by decide, by decide, rfl, rfl, rfl⟩
    obtain ⟨hk1, hk2, rfl, ht, ho⟩ := hk0
    refine .inr (.inl ⟨b1, b2, rfl, fun W hW => ?_⟩)
    rw [ht, ho]
    exact decWrite_any b1 b2 g k (numK c k) most (h64.2 k) B W (hp.on (hW.mono hB)) (Nat.le_trans hB hW.size) (up hW h1.cell) (up hW h2.cell) (up hW (hc.num k hk1 hk2))
  | fra _ s b1 b2 hm h1 h2 n1 n2 =>
    have hk0 : 1 < k ∧ k < 12 ∧ s = nameK k ∧ txtK zs c k = decText (numK c k) c.sh.toNat ∧ okK zs c k = true := by
      simp only [List.mem_cons, Prod.mk.injEq, List.not_mem_nil, or_false] at hm
      rcases hm with ⟨rfl, rfl⟩ | ⟨rfl, rfl⟩ <;> exact ⟨by decide, by decide, rfl, rfl, rfl⟩
    obtain ⟨hk1, hk2, rfl, ht, ho⟩ := hk0
    refine .inr (.inr ⟨b1, b2, rfl, ho, fun W hW => ?_⟩)
    obtain ⟨s0, s1⟩ := hsh hk1
    rw [ht, ho]
    refine fraWrite_any b1 b2 g k (numK c k) c.sh.toNat (by omega) (h64.2 k) B W (hp.on (hW.mono hB)) (Nat.le_trans hB hW.size) (up hW h1.cell) (up hW h2.cell) (up hW (hc.num k (by omega) hk2)) (up hW ?_)
    rw [Int.toNat_of_nonneg s0]
    exact hc.num 1 (by decide) (by decide)

end Go.Proofs.YtiokdfkddcokoaaGreatDoor
