/- Plain Lean: the text of a configuration and its words. Conditions: none. -/
import Derived.Test.YtiokdfkddcokoaaGreatDoorDataPlain
import Derived.Test.YtiokdfkddcokoaaGreatDoorDecLen
import Derived.Test.YtiokdfkddcokoaaGreatDoorNumber
import Derived.Test.YtiokdfkddcokoaaGreatDoorConfPlain
namespace Go.Proofs.YtiokdfkddcokoaaGreatDoor

def wSizes : List UInt8 := [115, 105, 122, 101, 115]
def wShift : List UInt8 := [115, 104, 105, 102, 116]
def wRate : List UInt8 := [114, 97, 116, 101]
def wMom : List UInt8 := [109, 111, 109, 101, 110, 116, 117, 109]
def wWorkers : List UInt8 := [119, 111, 114, 107, 101, 114, 115]
def wBatch : List UInt8 := [98, 97, 116, 99, 104]
def wMicros : List UInt8 := [109, 105, 99, 114, 111, 115]
def wSteps : List UInt8 := [115, 116, 101, 112, 115]
def wBucket : List UInt8 := [98, 117, 99, 107, 101, 116]
def wChunk : List UInt8 := [99, 104, 117, 110, 107]
def wWindow : List UInt8 := [119, 105, 110, 100, 111, 119]
def wCap : List UInt8 := [99, 97, 112, 97, 99, 105, 116, 121]

def szText (zs : List Int) : List UInt8 := Lib.join (zs.map Lib.itoa) [44]

/-- The words of a configuration's text. -/
def cfWords (zs : List Int) (c : Cf) : List (List UInt8) :=
  [wSizes, szText zs, wShift, Lib.itoa c.sh, wRate, decText c.ra c.sh.toNat, wMom, decText c.mo c.sh.toNat, wWorkers, Lib.itoa c.wo, wBatch, Lib.itoa c.ba, wMicros, Lib.itoa c.mi, wSteps, Lib.itoa c.st,
   wBucket, Lib.itoa c.bu, wChunk, Lib.itoa c.ch, wWindow, Lib.itoa c.wi, wCap, Lib.itoa c.ca]
def cfText (zs : List Int) (c : Cf) : List UInt8 := Lib.join (cfWords zs c) [32]

def In20 (x : Int) : Prop := 0 ≤ x ∧ x ≤ 1048576
theorem In20.in64 {x : Int} (h : In20 x) : In64 x := by unfold In20 at h; unfold In64; omega

/-- A configuration that has a text. -/
structure CfOk (zs : List Int) (c : Cf) : Prop where
  ne : zs ≠ []
  sz : ∀ z ∈ zs, In20 z
  sh : 0 ≤ c.sh ∧ c.sh ≤ 62
  wo : In20 c.wo
  ba : In20 c.ba
  mi : In20 c.mi
  st : In20 c.st
  bu : In20 c.bu
  ch : In20 c.ch
  wi : In20 c.wi
  ca : In20 c.ca

theorem itoa_chars (x : Int) : ∀ b ∈ Lib.itoa x, numC b := by
  intro b hb
  rw [itoa_parts] at hb
  rcases List.mem_append.1 hb with h | h
  · split at h
    · simp at h; exact .inl h
    · cases h
  · exact .inr (.inr (dec_all _ b h))
theorem numC_44 {c : UInt8} (h : numC c) : c ≠ 44 := by rintro rfl; rcases h with h | h | h <;> simp at h
theorem itoa_len {x : Int} (h : In64 x) : (Lib.itoa x).length ≤ 21 := by
  rw [itoa_parts, List.length_append]
  have := dec_len x.natAbs (by unfold In64 at h; omega)
  split <;> simp <;> omega

theorem sz_free (zs : List Int) : ∀ b ∈ szText zs, b ≠ 32 := by
  intro b hb
  rcases join_mem _ _ hb with rfl | ⟨y, hy, hb⟩
  · decide
  · obtain ⟨x, _, rfl⟩ := List.mem_map.1 hy
    exact numC_32 (itoa_chars x b hb)
theorem cutAt_sz {zs : List Int} (h : zs ≠ []) : cutAt 44 (szText zs) = zs.map Lib.itoa := by
  cases zs with
  | nil => exact absurd rfl h
  | cons x r =>
    unfold szText
    rw [List.map_cons]
    refine cutAt_join 44 _ _ fun y hy b hb => ?_
    rw [← List.map_cons] at hy
    obtain ⟨z, _, rfl⟩ := List.mem_map.1 hy
    exact numC_44 (itoa_chars z b hb)
theorem map_itoa_inj : ∀ {zs us : List Int}, zs.map Lib.itoa = us.map Lib.itoa → zs = us
  | [], [], _ => rfl
  | [], _ :: _, h => by cases h
  | _ :: _, [], h => by cases h
  | x :: r, y :: s, h => by
    simp only [List.map_cons, List.cons.injEq] at h
    rw [itoa_inj h.1, map_itoa_inj h.2]
theorem sz_inj {zs us : List Int} (h1 : zs ≠ []) (h2 : us ≠ []) (h : szText zs = szText us) : zs = us := by
  have := congrArg (cutAt 44) h
  rw [cutAt_sz h1, cutAt_sz h2] at this
  exact map_itoa_inj this

theorem cf_free (zs : List Int) (c : Cf) : ∀ y ∈ cfWords zs c, ∀ b ∈ y, b ≠ 32 := by
  intro y hy b hb
  have hI : ∀ x : Int, b ∈ Lib.itoa x → b ≠ 32 := fun x h => numC_32 (itoa_chars x b h)
  have hD : ∀ (x : Int) (q : Nat), b ∈ decText x q → b ≠ 32 := fun x q h => numC_32 (decText_chars x q b h)
  simp only [cfWords, List.mem_cons, List.not_mem_nil, or_false] at hy
  rcases hy with rfl | rfl | rfl | rfl | rfl | rfl | rfl | rfl | rfl | rfl | rfl | rfl | rfl | rfl | rfl | rfl | rfl | rfl | rfl | rfl | rfl | rfl | rfl | rfl
  · exact (by decide : ∀ b ∈ wSizes, b ≠ 32) b hb
  · exact sz_free zs b hb
  · exact (by decide : ∀ b ∈ wShift, b ≠ 32) b hb
  · exact hI _ hb
  · exact (by decide : ∀ b ∈ wRate, b ≠ 32) b hb
  · exact hD _ _ hb
  · exact (by decide : ∀ b ∈ wMom, b ≠ 32) b hb
  · exact hD _ _ hb
  · exact (by decide : ∀ b ∈ wWorkers, b ≠ 32) b hb
  · exact hI _ hb
  · exact (by decide : ∀ b ∈ wBatch, b ≠ 32) b hb
  · exact hI _ hb
  · exact (by decide : ∀ b ∈ wMicros, b ≠ 32) b hb
  · exact hI _ hb
  · exact (by decide : ∀ b ∈ wSteps, b ≠ 32) b hb
  · exact hI _ hb
  · exact (by decide : ∀ b ∈ wBucket, b ≠ 32) b hb
  · exact hI _ hb
  · exact (by decide : ∀ b ∈ wChunk, b ≠ 32) b hb
  · exact hI _ hb
  · exact (by decide : ∀ b ∈ wWindow, b ≠ 32) b hb
  · exact hI _ hb
  · exact (by decide : ∀ b ∈ wCap, b ≠ 32) b hb
  · exact hI _ hb

theorem cutAt_cf (zs : List Int) (c : Cf) : cutAt 32 (cfText zs c) = cfWords zs c := by
  unfold cfText
  have h := cf_free zs c
  revert h
  generalize hW : cfWords zs c = W
  intro h
  cases W with
  | nil => unfold cfWords at hW; cases hW
  | cons x r => exact cutAt_join 32 x r h

theorem words_inj {zs us : List Int} {c d : Cf} (h1 : zs ≠ []) (h2 : us ≠ []) (h : cfWords zs c = cfWords us d) : zs = us ∧ c = d := by
  unfold cfWords at h
  simp only [List.cons.injEq, true_and, and_true] at h
  obtain ⟨e0, e1, e2, e3, e4, e5, e6, e7, e8, e9, e10, e11⟩ := h
  have s := itoa_inj e1
  obtain ⟨sh, ra, mo, wo, ba, mi, st, bu, ch, wi, ca⟩ := c
  obtain ⟨sh', ra', mo', wo', ba', mi', st', bu', ch', wi', ca'⟩ := d
  dsimp only at s e2 e3 e4 e5 e6 e7 e8 e9 e10 e11
  subst s
  exact ⟨sz_inj h1 h2 e0, by rw [decText_inj e2, decText_inj e3, itoa_inj e4, itoa_inj e5, itoa_inj e6, itoa_inj e7, itoa_inj e8, itoa_inj e9, itoa_inj e10, itoa_inj e11]⟩
theorem text_inj {zs us : List Int} {c d : Cf} (h1 : zs ≠ []) (h2 : us ≠ []) (h : cfText zs c = cfText us d) : zs = us ∧ c = d := by
  refine words_inj h1 h2 ?_
  rw [← cutAt_cf, ← cutAt_cf, h]

/-- The words are those of a configuration that has a text. -/
def MayBe (W : List (List UInt8)) : Prop := ∃ zs c, CfOk zs c ∧ In64 c.ra ∧ In64 c.mo ∧ W = cfWords zs c

theorem natS_yes {x most : Int} (h : 0 ≤ x ∧ x ≤ most) (hm : most ≤ 1048576) : natS (Lib.itoa x) most = (x, true) := by
  have hx : In64 x := by unfold In64; omega
  unfold natS
  rw [numS_yes hx rfl, if_pos ⟨rfl, h.1, h.2⟩]
theorem natS_is {l : List UInt8} {most : Int} (h : (natS l most).2 = true) : l = Lib.itoa (natS l most).1 ∧ 0 ≤ (natS l most).1 ∧ (natS l most).1 ≤ most := by
  revert h
  unfold natS
  split
  · rename_i h
    intro _
    exact ⟨(numS_in l).2.1 h.1, h.2.1, h.2.2⟩
  · intro h; cases h
theorem natS_in (l : List UInt8) {most : Int} (h0 : 0 ≤ most) : 0 ≤ (natS l most).1 ∧ (natS l most).1 ≤ most := by
  unfold natS
  split
  · rename_i h; exact h.2
  · exact ⟨Int.le_refl _, h0⟩

theorem parseS_is {l : List UInt8} {q : Nat} (hq : q ≤ 62) (h : (parseS l q).2 = true) : l = decText (parseS l q).1 q ∧ In64 (parseS l q).1 := by
  by_cases hex : ∃ x, In64 x ∧ l = decText x q
  · obtain ⟨x, hx, e⟩ := hex
    rw [parseS_yes hq hx e]
    exact ⟨e, hx⟩
  · rw [parseS_no (fun x hx e => hex ⟨x, hx, e⟩)] at h
    cases h

/-- The numbers between commas. -/
noncomputable def szRead : List (List UInt8) → Option (List Int)
  | [] => some []
  | w :: ws => if (natS w 1048576).2 = true then (szRead ws).map ((natS w 1048576).1 :: ·) else none
theorem szRead_itoa : ∀ {zs : List Int}, (∀ z ∈ zs, In20 z) → szRead (zs.map Lib.itoa) = some zs
  | [], _ => rfl
  | x :: r, h => by
    have hx := natS_yes (most := 1048576) (h x (by simp)) (Int.le_refl _)
    simp only [List.map_cons, szRead]
    rw [hx, szRead_itoa (fun z hz => h z (by simp [hz]))]
    rfl
theorem szRead_is : ∀ {W : List (List UInt8)} {zs : List Int}, szRead W = some zs → W = zs.map Lib.itoa ∧ ∀ z ∈ zs, In20 z
  | [], zs, h => by
    simp only [szRead, Option.some.injEq] at h
    subst h
    exact ⟨rfl, by simp⟩
  | w :: ws, zs, h => by
    simp only [szRead] at h
    split at h
    · rename_i hw
      cases hr : szRead ws with
      | none => rw [hr] at h; cases h
      | some us =>
        rw [hr] at h
        simp only [Option.map_some, Option.some.injEq] at h
        subst h
        obtain ⟨e, hi⟩ := szRead_is hr
        have := natS_is hw
        refine ⟨by rw [List.map_cons, ← e, ← this.1], fun z hz => ?_⟩
        rcases List.mem_cons.1 hz with rfl | hz
        · exact this.2
        · exact hi z hz
    · cases h
theorem sz_join {w : List UInt8} {zs : List Int} (h : szRead (cutAt 44 w) = some zs) : w = szText zs ∧ zs ≠ [] ∧ ∀ z ∈ zs, In20 z := by
  obtain ⟨e, hi⟩ := szRead_is h
  refine ⟨by unfold szText; rw [← e, join_cutAt], fun h0 => ?_, hi⟩
  subst h0
  exact cutAt_ne 44 w e

end Go.Proofs.YtiokdfkddcokoaaGreatDoor
