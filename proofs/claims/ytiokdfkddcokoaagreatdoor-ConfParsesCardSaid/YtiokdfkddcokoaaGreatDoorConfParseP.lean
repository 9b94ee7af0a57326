/- What conf.Parse finds: plain parts, and the contracts of the readers in one form. Conditions: the table of powers of ten, the two sentinels and the library's bound on a search read as listed. -/
import Derived.Test.YtiokdfkddcokoaaGreatDoorConfRead
namespace Go.Proofs.YtiokdfkddcokoaaGreatDoor
open Go.RowKit

/-- What Parse returns. -/
def GivesCf (l : List UInt8) (w : World) (e : Ending) (w' : World) : Prop :=
  ((∃ A cap zs c, CfOk zs c ∧ Cf64 zs c ∧ l = cfText zs c ∧ e = .returned (.tuple #[.agg (cfCells A zs.length cap c), .bool true]) ∧ RdI w' w'.heap.size A zs) ∨
    ((∀ zs c, CfOk zs c → Cf64 zs c → l ≠ cfText zs c) ∧ e = .returned (.tuple #[.agg (cfCells none 0 0 ⟨0, 0, 0, 0, 0, 0, 0, 0, 0, 0, 0⟩), .bool false]))) ∧ Below w.heap.size w w'

theorem nil64 : Cf64 [] ⟨0, 0, 0, 0, 0, 0, 0, 0, 0, 0, 0⟩ := ⟨by simp, fun k => by
  have : numK ⟨0, 0, 0, 0, 0, 0, 0, 0, 0, 0, 0⟩ k = 0 := by unfold numK; split <;> rfl
  rw [this]
  unfold In64
  omega⟩

/-- No configuration has these words. -/
def NoCf (W : List (List UInt8)) : Prop := ∀ zs c, CfOk zs c → Cf64 zs c → W ≠ cfWords zs c
theorem noCf_text {l : List UInt8} (h : NoCf (cutAt 32 l)) : ∀ zs c, CfOk zs c → Cf64 zs c → l ≠ cfText zs c := fun zs c h1 h2 e => h zs c h1 h2 (by rw [e, cutAt_cf])

/-- The value that field k of the words gives, and whether it gives one. -/
noncomputable def valK (W : List (List UInt8)) (k : Nat) : Int × Bool :=
  if k = 1 then natS (W.getD 3 []) 62
  else if k = 2 then parseS (W.getD 5 []) (natS (W.getD 3 []) 62).1
  else if k = 3 then parseS (W.getD 7 []) (natS (W.getD 3 []) 62).1
  else natS (W.getD (2 * k + 1) []) 1048576
/-- The numbers that the words give. -/
noncomputable def cfOf (W : List (List UInt8)) : Cf := ⟨(valK W 1).1, (valK W 2).1, (valK W 3).1, (valK W 4).1, (valK W 5).1, (valK W 6).1, (valK W 7).1, (valK W 8).1, (valK W 9).1, (valK W 10).1, (valK W 11).1⟩
theorem numK_of (W : List (List UInt8)) (k : Nat) (h0 : 0 < k) (hk : k < 12) : numK (cfOf W) k = (valK W k).1 := by
  have hc : k = 1 ∨ k = 2 ∨ k = 3 ∨ k = 4 ∨ k = 5 ∨ k = 6 ∨ k = 7 ∨ k = 8 ∨ k = 9 ∨ k = 10 ∨ k = 11 := by omega
  rcases hc with rfl | rfl | rfl | rfl | rfl | rfl | rfl | rfl | rfl | rfl | rfl <;> rfl

/-- Field k of the words reads well. -/
def GoodK (W : List (List UInt8)) (k : Nat) : Prop := W.getD (2 * k) [] = (nameK k).data.toList ∧ (k = 0 → ∃ zs, szRead (cutAt 44 (W.getD 1 [])) = some zs) ∧ (0 < k → (valK W k).2 = true)

theorem words_at (zs : List Int) (c : Cf) (k : Nat) (hk : k < 12) : (cfWords zs c).getD (2 * k) [] = (nameK k).data.toList ∧ (cfWords zs c).getD (2 * k + 1) [] = txtK zs c k := by
  have hc : k = 0 ∨ k = 1 ∨ k = 2 ∨ k = 3 ∨ k = 4 ∨ k = 5 ∨ k = 6 ∨ k = 7 ∨ k = 8 ∨ k = 9 ∨ k = 10 ∨ k = 11 := by omega
  rcases hc with rfl | rfl | rfl | rfl | rfl | rfl | rfl | rfl | rfl | rfl | rfl | rfl <;> exact ⟨rfl, rfl⟩

/-- The words of a right configuration read well. -/
theorem good_of {zs : List Int} {c : Cf} (h : CfOk zs c) (h64 : Cf64 zs c) (k : Nat) (hk : k < 12) : GoodK (cfWords zs c) k := by
  refine ⟨(words_at zs c k hk).1, fun h0 => ?_, fun h0 => ?_⟩
  · subst h0
    refine ⟨zs, ?_⟩
    show szRead (cutAt 44 (szText zs)) = _
    rw [cutAt_sz h.ne, szRead_itoa h.sz]
  · have hsh : natS (Lib.itoa c.sh) 62 = (c.sh, true) := natS_yes h.sh (by decide)
    have hn : (c.sh.toNat : Int) = c.sh := Int.toNat_of_nonneg h.sh.1
    have hq : c.sh.toNat ≤ 62 := by have := h.sh.2; omega
    have hN : ∀ x : Int, In20 x → (natS (Lib.itoa x) 1048576).2 = true := fun x hx => by rw [natS_yes hx (Int.le_refl _)]
    have hc : k = 1 ∨ k = 2 ∨ k = 3 ∨ k = 4 ∨ k = 5 ∨ k = 6 ∨ k = 7 ∨ k = 8 ∨ k = 9 ∨ k = 10 ∨ k = 11 := by omega
    rcases hc with rfl | rfl | rfl | rfl | rfl | rfl | rfl | rfl | rfl | rfl | rfl
    · show (natS (Lib.itoa c.sh) 62).2 = true
      rw [hsh]
    · show (parseS (decText c.ra c.sh.toNat) (natS (Lib.itoa c.sh) 62).1).2 = true
      rw [hsh]
      show (parseS (decText c.ra c.sh.toNat) c.sh).2 = true
      have := parseS_yes (q := c.sh.toNat) hq (h64.2 2) rfl
      rw [hn] at this
      exact congrArg Prod.snd this
    · show (parseS (decText c.mo c.sh.toNat) (natS (Lib.itoa c.sh) 62).1).2 = true
      rw [hsh]
      show (parseS (decText c.mo c.sh.toNat) c.sh).2 = true
      have := parseS_yes (q := c.sh.toNat) hq (h64.2 3) rfl
      rw [hn] at this
      exact congrArg Prod.snd this
    · exact hN _ h.wo
    · exact hN _ h.ba
    · exact hN _ h.mi
    · exact hN _ h.st
    · exact hN _ h.bu
    · exact hN _ h.ch
    · exact hN _ h.wi
    · exact hN _ h.ca
theorem noCf_bad {W : List (List UInt8)} {k : Nat} (hk : k < 12) (h : ¬ GoodK W k) : NoCf W := fun _ _ h1 h2 e => h (e ▸ good_of h1 h2 k hk)
theorem noCf_len {W : List (List UInt8)} (h : W.length ≠ 24) : NoCf W := fun _ _ _ _ e => h (by rw [e]; rfl)

theorem list24 {W : List (List UInt8)} (h : W.length = 24) : ∃ a0 a1 a2 a3 a4 a5 a6 a7 a8 a9 a10 a11 a12 a13 a14 a15 a16 a17 a18 a19 a20 a21 a22 a23, W = [a0, a1, a2, a3, a4, a5, a6, a7, a8, a9, a10, a11, a12, a13, a14, a15, a16, a17, a18, a19, a20, a21, a22, a23] := by
  match W, h with
  | [a0, a1, a2, a3, a4, a5, a6, a7, a8, a9, a10, a11, a12, a13, a14, a15, a16, a17, a18, a19, a20, a21, a22, a23], _ => exact ⟨_, _, _, _, _, _, _, _, _, _, _, _, _, _, _, _, _, _, _, _, _, _, _, _, rfl⟩

/-- Words that read well are those of a right configuration. -/
theorem cf_of_good {W : List (List UInt8)} (hl : W.length = 24) (h : ∀ k, k < 12 → GoodK W k) : ∃ zs, szRead (cutAt 44 (W.getD 1 [])) = some zs ∧ CfOk zs (cfOf W) ∧ Cf64 zs (cfOf W) ∧ W = cfWords zs (cfOf W) := by
  obtain ⟨zs, hz⟩ := (h 0 (by decide)).2.1 rfl
  obtain ⟨e0, e1, e2⟩ := sz_join hz
  have g1 := natS_is ((h 1 (by decide)).2.2 (by decide))
  have hn : (((valK W 1).1.toNat : Nat) : Int) = (valK W 1).1 := Int.toNat_of_nonneg g1.2.1
  have hq : (valK W 1).1.toNat ≤ 62 := by have := g1.2.2; show (natS (W.getD 3 []) 62).1.toNat ≤ 62; omega
  have p2 : (parseS (W.getD 5 []) ((valK W 1).1.toNat : Nat)).2 = true := by rw [hn]; exact (h 2 (by decide)).2.2 (by decide)
  have p3 : (parseS (W.getD 7 []) ((valK W 1).1.toNat : Nat)).2 = true := by rw [hn]; exact (h 3 (by decide)).2.2 (by decide)
  have g2 := parseS_is hq p2
  have g3 := parseS_is hq p3
  rw [hn] at g2 g3
  have g4 := natS_is ((h 4 (by decide)).2.2 (by decide))
  have g5 := natS_is ((h 5 (by decide)).2.2 (by decide))
  have g6 := natS_is ((h 6 (by decide)).2.2 (by decide))
  have g7 := natS_is ((h 7 (by decide)).2.2 (by decide))
  have g8 := natS_is ((h 8 (by decide)).2.2 (by decide))
  have g9 := natS_is ((h 9 (by decide)).2.2 (by decide))
  have g10 := natS_is ((h 10 (by decide)).2.2 (by decide))
  have g11 := natS_is ((h 11 (by decide)).2.2 (by decide))
  have n0 := (h 0 (by decide)).1
  have n1 := (h 1 (by decide)).1
  have n2 := (h 2 (by decide)).1
  have n3 := (h 3 (by decide)).1
  have n4 := (h 4 (by decide)).1
  have n5 := (h 5 (by decide)).1
  have n6 := (h 6 (by decide)).1
  have n7 := (h 7 (by decide)).1
  have n8 := (h 8 (by decide)).1
  have n9 := (h 9 (by decide)).1
  have n10 := (h 10 (by decide)).1
  have n11 := (h 11 (by decide)).1
  refine ⟨zs, hz, ⟨e1, e2, g1.2, g4.2, g5.2, g6.2, g7.2, g8.2, g9.2, g10.2, g11.2⟩, ⟨fun z hz => (e2 z hz).in64, fun k => ?_⟩, ?_⟩
  · by_cases hk : 0 < k ∧ k < 12
    · rw [numK_of W k hk.1 hk.2]
      have hc : k = 1 ∨ k = 2 ∨ k = 3 ∨ k = 4 ∨ k = 5 ∨ k = 6 ∨ k = 7 ∨ k = 8 ∨ k = 9 ∨ k = 10 ∨ k = 11 := by omega
      rcases hc with rfl | rfl | rfl | rfl | rfl | rfl | rfl | rfl | rfl | rfl | rfl
      · have := g1.2; show In64 (natS (W.getD 3 []) 62).1; unfold In64; omega
      · exact g2.2
      · exact g3.2
      · exact In20.in64 g4.2
      · exact In20.in64 g5.2
      · exact In20.in64 g6.2
      · exact In20.in64 g7.2
      · exact In20.in64 g8.2
      · exact In20.in64 g9.2
      · exact In20.in64 g10.2
      · exact In20.in64 g11.2
    · have : numK (cfOf W) k = 0 := by
        unfold numK
        split <;> first | rfl | (exfalso; omega)
      rw [this]
      unfold In64
      omega
  · have c1 := g1.1
    have c2 := g2.1
    have c3 := g3.1
    obtain ⟨a0, a1, a2, a3, a4, a5, a6, a7, a8, a9, a10, a11, a12, a13, a14, a15, a16, a17, a18, a19, a20, a21, a22, a23, hW⟩ := list24 hl
    generalize hc : cfOf W = c
    have q0 : c.sh = (valK W 1).1 := by rw [← hc]; rfl
    have q1 : c.ra = (valK W 2).1 := by rw [← hc]; rfl
    have q2 : c.mo = (valK W 3).1 := by rw [← hc]; rfl
    have q4 : c.wo = (valK W 4).1 := by rw [← hc]; rfl
    have q5 : c.ba = (valK W 5).1 := by rw [← hc]; rfl
    have q6 : c.mi = (valK W 6).1 := by rw [← hc]; rfl
    have q7 : c.st = (valK W 7).1 := by rw [← hc]; rfl
    have q8 : c.bu = (valK W 8).1 := by rw [← hc]; rfl
    have q9 : c.ch = (valK W 9).1 := by rw [← hc]; rfl
    have q10 : c.wi = (valK W 10).1 := by rw [← hc]; rfl
    have q11 : c.ca = (valK W 11).1 := by rw [← hc]; rfl
    unfold cfWords
    rw [q0, q1, q2, q4, q5, q6, q7, q8, q9, q10, q11]
    clear hc q0 q1 q2 q4 q5 q6 q7 q8 q9 q10 q11
    rw [show Lib.itoa (valK W 1).1 = W.getD 3 [] from g1.1.symm, show decText (valK W 2).1 (valK W 1).1.toNat = W.getD 5 [] from c2.symm, show decText (valK W 3).1 (valK W 1).1.toNat = W.getD 7 [] from c3.symm,
      show Lib.itoa (valK W 4).1 = W.getD 9 [] from g4.1.symm, show Lib.itoa (valK W 5).1 = W.getD 11 [] from g5.1.symm, show Lib.itoa (valK W 6).1 = W.getD 13 [] from g6.1.symm, show Lib.itoa (valK W 7).1 = W.getD 15 [] from g7.1.symm,
      show Lib.itoa (valK W 8).1 = W.getD 17 [] from g8.1.symm, show Lib.itoa (valK W 9).1 = W.getD 19 [] from g9.1.symm, show Lib.itoa (valK W 10).1 = W.getD 21 [] from g10.1.symm, show Lib.itoa (valK W 11).1 = W.getD 23 [] from g11.1.symm, ← e0]
    have m0 : wSizes = W.getD 0 [] := n0.symm
    have m1 : wShift = W.getD 2 [] := n1.symm
    have m2 : wRate = W.getD 4 [] := n2.symm
    have m3 : wMom = W.getD 6 [] := n3.symm
    have m4 : wWorkers = W.getD 8 [] := n4.symm
    have m5 : wBatch = W.getD 10 [] := n5.symm
    have m6 : wMicros = W.getD 12 [] := n6.symm
    have m7 : wSteps = W.getD 14 [] := n7.symm
    have m8 : wBucket = W.getD 16 [] := n8.symm
    have m9 : wChunk = W.getD 18 [] := n9.symm
    have m10 : wWindow = W.getD 20 [] := n10.symm
    have m11 : wCap = W.getD 22 [] := n11.symm
    rw [m0, m1, m2, m3, m4, m5, m6, m7, m8, m9, m10, m11, hW]
    rfl

/-- A configuration of which the first k fields have been read. -/
noncomputable def cfPart (W : List (List UInt8)) (k : Nat) : Cf :=
  ⟨if 1 < k then (valK W 1).1 else 0, if 2 < k then (valK W 2).1 else 0, if 3 < k then (valK W 3).1 else 0, if 4 < k then (valK W 4).1 else 0, if 5 < k then (valK W 5).1 else 0, if 6 < k then (valK W 6).1 else 0,
   if 7 < k then (valK W 7).1 else 0, if 8 < k then (valK W 8).1 else 0, if 9 < k then (valK W 9).1 else 0, if 10 < k then (valK W 10).1 else 0, if 11 < k then (valK W 11).1 else 0⟩
theorem part_end (W : List (List UInt8)) : cfPart W 12 = cfOf W := rfl
theorem part_first (W : List (List UInt8)) (A : Option Addr) (n cap : Nat) : (cfCells none 0 0 (cfPart W 0)).setIfInBounds 0 (.slice A n cap) = cfCells A n cap (cfPart W 1) := rfl
theorem part_next (W : List (List UInt8)) (A : Option Addr) (n cap : Nat) (k : Nat) (h0 : 0 < k) (hk : k < 12) : (cfCells A n cap (cfPart W k)).setIfInBounds k (.int .i64 (valK W k).1) = cfCells A n cap (cfPart W (k + 1)) := by
  have hc : k = 1 ∨ k = 2 ∨ k = 3 ∨ k = 4 ∨ k = 5 ∨ k = 6 ∨ k = 7 ∨ k = 8 ∨ k = 9 ∨ k = 10 ∨ k = 11 := by omega
  rcases hc with rfl | rfl | rfl | rfl | rfl | rfl | rfl | rfl | rfl | rfl | rfl <;> rfl

theorem Box.only {W W' : World} {b g : Nat} {v : Value} {t : TypeId} (h : Box W b v t) (hg : W.grownBy W' (some g)) (hne : b ≠ g) : Box W' b v t := blk_grown h hg fun e => hne (by injection e)
theorem Flds.only {W W' : World} {g : Nat} {L : List (List Value)} (h : Flds W g L) (hg : W.grownBy W' (some g)) : Flds W' g L := fun k l hl => by
  cases h k l hl with
  | siz b h1 h2 => exact .siz b (h1.only hg h2) h2
  | dec k s most b1 b2 hm h1 h2 h3 h4 => exact .dec k s most b1 b2 hm (h1.only hg h3) (h2.only hg h4) h3 h4
  | fra k s b1 b2 hm h1 h2 h3 h4 => exact .fra k s b1 b2 hm (h1.only hg h3) (h2.only hg h4) h3 h4

/-- Field k has been read into block g. -/
def TurnK (g k : Nat) (Wd : List (List UInt8)) (C : Array Value) (W : World) (e : Ending) (w' : World) : Prop :=
  ∃ (ok : Bool) (v : Value), e = .returned (.bool ok) ∧ W.grownBy w' (some g) ∧ w'.heap[g]? = some (.cells (C.setIfInBounds k v) 24 (0, 0)) ∧
    (k = 0 → (∃ zs, szRead (cutAt 44 (Wd.getD 1 [])) = some zs ∧ ok = true ∧ w'.ownsRow W.heap.size 3 1 v zs.length (zs.map (Value.int .i64))) ∨ (szRead (cutAt 44 (Wd.getD 1 [])) = none ∧ ok = false)) ∧
    (0 < k → ok = (valK Wd k).2 ∧ v = .int .i64 (valK Wd k).1)

theorem turn_read {g k : Nat} {C : Array Value} {W : World} {p : Int × Bool} {e : Ending} {w' : World} {Wd : List (List UInt8)} (hg : W.heap[g]? = some (.cells C 24 (0, 0))) (h : ReadAt W g k p e w') (hp : p = valK Wd k) (h0 : 0 < k) : TurnK g k Wd C W e w' := by
  obtain ⟨w1, hb, rfl, rfl⟩ := h
  subst hp
  refine ⟨_, _, rfl, only_setCell (only_below (only_refl _ _) hb) (.inl rfl) _, blk_set (blk_below hg hb (blk_lt hg)) k _, fun h => by omega, fun _ => ⟨rfl, rfl⟩⟩

/-- How field k is read: the closures, with their contract. -/
theorem fld_read {w : World} {g k : Nat} {l : List Value} {A : Option Addr} {n cap : Nat} {Wd : List (List UInt8)} {B : Nat} {y : ByteArray} (h : FldIs w g k l) (hk : k < 12) (hy : y.data.toList = Wd.getD (2 * k + 1) []) (hyz : y.size ≤ 1000) (hA : k = 0 → A = none ∧ n = 0 ∧ cap = 0)
    (hg : w.heap[g]? = some (.cells (cfCells A n cap (cfPart Wd k)) 24 (0, 0))) (hp : Pow B w) (he : Errs B w) (hm : MaxL B w) (hB : B ≤ w.heap.size) (hBg : B ≤ g) :
    (∃ b, l = [.string (nameK k), .func (.func 50) #[] #[.pointer (some ⟨b, 0, none⟩)], .func (.func 51) #[] #[.pointer (some ⟨b, 0, none⟩)]] ∧
      ∀ W, Below w.heap.size w W → Calls Tryz.prog 51 #[.string y, .pointer (some ⟨b, 0, none⟩)] W (TurnK g k Wd (cfCells A n cap (cfPart Wd k)) W)) ∨
    (∃ b1 b2, l = decF (nameK k) b1 b2 ∧ ∀ W, Below w.heap.size w W → Calls Tryz.prog 48 #[.string y, .pointer (some ⟨b2, 0, none⟩), .pointer (some ⟨b1, 0, none⟩)] W (TurnK g k Wd (cfCells A n cap (cfPart Wd k)) W)) ∨
    (∃ b1 b2, l = fraF (nameK k) b1 b2 ∧ ∀ W, Below w.heap.size w W → Calls Tryz.prog 54 #[.string y, .pointer (some ⟨b2, 0, none⟩), .pointer (some ⟨b1, 0, none⟩)] W (TurnK g k Wd (cfCells A n cap (cfPart Wd k)) W)) := by
  have up : ∀ {W : World} {b o : Nat} {v : Value}, Below w.heap.size w W → w.cell? ⟨b, o, none⟩ = some v → W.cell? ⟨b, o, none⟩ = some v := fun {W b o v} hb hv => Keeps.cell (w := w) hb hv
  have hgW : ∀ W, Below w.heap.size w W → W.heap[g]? = some (.cells (cfCells A n cap (cfPart Wd k)) 24 (0, 0)) := fun W hW => blk_below hg hW (blk_lt hg)
  have hop : ∀ W, Below w.heap.size w W → 0 < k → Open W g k := fun W hW h0 => ⟨⟨_, (blk_cell (hgW W hW) k).trans (cfCells_at A n cap _ k h0 hk)⟩, blk_frozen (hgW W hW) k⟩
  cases h with
  | siz b hb hne =>
    refine .inl ⟨b, rfl, fun W hW => ?_⟩
    obtain ⟨rfl, rfl, rfl⟩ := hA rfl
    refine (szRead_any y (by omega) b g _ B W (hp.on (hW.mono hB)) (he.on (hW.mono hB)) (hm.on (hW.mono hB)) (Nat.le_trans hB hW.size) hBg (up hW hb.cell) hne (hgW W hW) rfl).mono ?_
    rintro e w' ⟨v, h1, h2, h3⟩
    rw [hy] at h3
    rcases h3 with ⟨zs, hz, rfl, ho⟩ | ⟨hz, rfl⟩
    · exact ⟨true, v, rfl, h1, h2, fun _ => .inl ⟨zs, hz, rfl, ho⟩, fun h => absurd h (Nat.lt_irrefl 0)⟩
    · exact ⟨false, v, rfl, h1, h2, fun _ => .inr ⟨hz, rfl⟩, fun h => absurd h (Nat.lt_irrefl 0)⟩
  | dec _ s most b1 b2 hmm h1 h2 n1 n2 =>
    have hk0 : 0 < k ∧ s = nameK k ∧ In64 most ∧ natS (Wd.getD (2 * k + 1) []) most = valK Wd k := by
      simp only [List.mem_cons, Prod.mk.injEq, List.not_mem_nil, or_false] at hmm
      rcases hmm with ⟨rfl, rfl, rfl⟩ | ⟨rfl, rfl, rfl⟩ | ⟨rfl, rfl, rfl⟩ | ⟨rfl, rfl, rfl⟩ | ⟨rfl, rfl, rfl⟩ | ⟨rfl, rfl, rfl⟩ | ⟨rfl, rfl, rfl⟩ | ⟨rfl, rfl, rfl⟩ | ⟨rfl, rfl, rfl⟩ <;> exact ⟨by decide, rfl, by unfold In64; omega, rfl⟩
    obtain ⟨hk1, rfl, h64, hv⟩ := hk0
    refine .inr (.inl ⟨b1, b2, rfl, fun W hW => ?_⟩)
    refine (decRead_any y (by omega) b1 b2 g k most h64 B W (hp.on (hW.mono hB)) (he.on (hW.mono hB)) (Nat.le_trans hB hW.size) (up hW h1.cell) (up hW h2.cell) n1 n2 (hop W hW hk1)).mono fun e w' hr => ?_
    exact turn_read (hgW W hW) hr (by rw [hy, hv]) hk1
  | fra _ s b1 b2 hmm h1 h2 n1 n2 =>
    have hk0 : 1 < k ∧ s = nameK k ∧ parseS (Wd.getD (2 * k + 1) []) (valK Wd 1).1 = valK Wd k := by
      simp only [List.mem_cons, Prod.mk.injEq, List.not_mem_nil, or_false] at hmm
      rcases hmm with ⟨rfl, rfl⟩ | ⟨rfl, rfl⟩ <;> exact ⟨by decide, rfl, rfl⟩
    obtain ⟨hk1, rfl, hv⟩ := hk0
    refine .inr (.inr ⟨b1, b2, rfl, fun W hW => ?_⟩)
    have hq : W.cell? ⟨g, 1, none⟩ = some (.int .i64 (valK Wd 1).1) := by
      refine (blk_cell (hgW W hW) 1).trans ?_
      have : (cfPart Wd k).sh = (valK Wd 1).1 := if_pos hk1
      show some (Value.int .i64 (cfPart Wd k).sh) = _
      rw [this]
    refine (fraRead_any y hyz b1 b2 g k (valK Wd 1).1 B W (hp.on (hW.mono hB)) (he.on (hW.mono hB)) (hm.on (hW.mono hB)) (Nat.le_trans hB hW.size) (up hW h1.cell) (up hW h2.cell) hq (by omega) n1 n2 (hop W hW (by omega))).mono fun e w' hr => ?_
    exact turn_read (hgW W hW) hr (by rw [hy, hv]) (by omega)

end Go.Proofs.YtiokdfkddcokoaaGreatDoor
