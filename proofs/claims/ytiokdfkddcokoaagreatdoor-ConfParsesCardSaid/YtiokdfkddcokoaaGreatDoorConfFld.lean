/- Walks: the makers of a configuration's fields (conf.decimal, fraction, sizes). Conditions: none. -/
import Derived.Test.YtiokdfkddcokoaaGreatDoorWords
import Derived.Deep.RegionHeld3
import Derived.Laws.EntriesVeiled
namespace Go.Proofs.YtiokdfkddcokoaaGreatDoor
open Go.RowKit

/-- A block of one cell. -/
def Box (W : World) (b : Nat) (v : Value) (t : TypeId) : Prop := W.heap[b]? = some (.cells #[v] t (0, 0))
theorem Box.below {W W' : World} {b : Nat} {v : Value} {t : TypeId} (h : Box W b v t) (hb : Below W.heap.size W W') : Box W' b v t := blk_below h hb (blk_lt h)
theorem Box.cell {W : World} {b : Nat} {v : Value} {t : TypeId} (h : Box W b v t) : W.cell? ⟨b, 0, none⟩ = some v := blk_cell h 0

def ptr (b o : Nat) : Value := .pointer (some ⟨b, o, none⟩)

/-- The three cells of a decimal field. -/
def decF (s : ByteArray) (b1 b2 : Nat) : List Value := [.string s, .func (.func 46) #[] #[.pointer (some ⟨b1, 0, none⟩), .pointer (some ⟨b2, 0, none⟩)], .func (.func 48) #[] #[.pointer (some ⟨b2, 0, none⟩), .pointer (some ⟨b1, 0, none⟩)]]
def fraF (s : ByteArray) (b1 b2 : Nat) : List Value := [.string s, .func (.func 52) #[] #[.pointer (some ⟨b1, 0, none⟩), .pointer (some ⟨b2, 0, none⟩)], .func (.func 54) #[] #[.pointer (some ⟨b2, 0, none⟩), .pointer (some ⟨b1, 0, none⟩)]]
def sizF (b : Nat) : List Value := [.string ⟨#[115, 105, 122, 101, 115]⟩, .func (.func 50) #[] #[.pointer (some ⟨b, 0, none⟩)], .func (.func 51) #[] #[.pointer (some ⟨b, 0, none⟩)]]

/-- A field of the configuration in block g: what its closures have captured. -/
inductive FldIs (W : World) (g : Nat) : Nat → List Value → Prop
  | siz (b : Nat) : Box W b (ptr g 0) 65 → b ≠ g → FldIs W g 0 (sizF b)
  | dec (k : Nat) (s : ByteArray) (most : Int) (b1 b2 : Nat) : (k, s, most) ∈ [(1, (⟨#[115, 104, 105, 102, 116]⟩ : ByteArray), (62 : Int)), (4, ⟨#[119, 111, 114, 107, 101, 114, 115]⟩, 1048576), (5, ⟨#[98, 97, 116, 99, 104]⟩, 1048576), (6, ⟨#[109, 105, 99, 114, 111, 115]⟩, 1048576), (7, ⟨#[115, 116, 101, 112, 115]⟩, 1048576), (8, ⟨#[98, 117, 99, 107, 101, 116]⟩, 1048576), (9, ⟨#[99, 104, 117, 110, 107]⟩, 1048576), (10, ⟨#[119, 105, 110, 100, 111, 119]⟩, 1048576), (11, ⟨#[99, 97, 112, 97, 99, 105, 116, 121]⟩, 1048576)] →
      Box W b1 (ptr g k) 61 → Box W b2 (.int .i64 most) 3 → b1 ≠ g → b2 ≠ g → FldIs W g k (decF s b1 b2)
  | fra (k : Nat) (s : ByteArray) (b1 b2 : Nat) : (k, s) ∈ [(2, (⟨#[114, 97, 116, 101]⟩ : ByteArray)), (3, ⟨#[109, 111, 109, 101, 110, 116, 117, 109]⟩)] → Box W b1 (ptr g k) 67 → Box W b2 (ptr g 1) 61 → b1 ≠ g → b2 ≠ g → FldIs W g k (fraF s b1 b2)

theorem FldIs.below {W W' : World} {g k : Nat} {l : List Value} (h : FldIs W g k l) (hb : Below W.heap.size W W') : FldIs W' g k l := by
  cases h with
  | siz b h1 h2 => exact .siz b (h1.below hb) h2
  | dec k s most b1 b2 hm h1 h2 h3 h4 => exact .dec k s most b1 b2 hm (h1.below hb) (h2.below hb) h3 h4
  | fra k s b1 b2 hm h1 h2 h3 h4 => exact .fra k s b1 b2 hm (h1.below hb) (h2.below hb) h3 h4
theorem FldIs.len {W : World} {g k : Nat} {l : List Value} (h : FldIs W g k l) : l.length = 3 := by cases h <;> rfl

/-- The first fields. -/
def Flds (W : World) (g : Nat) (L : List (List Value)) : Prop := ∀ k l, L[k]? = some l → FldIs W g k l
theorem Flds.nil (W : World) (g : Nat) : Flds W g [] := fun k l h => by simp at h
theorem Flds.snoc {W W' : World} {g n : Nat} {L : List (List Value)} {l : List Value} (h : Flds W g L) (hb : Below W.heap.size W W') (hn : L.length = n) (hl : FldIs W' g n l) : Flds W' g (L ++ [l]) := fun k x hx => by
  subst hn
  by_cases hk : k < L.length
  · rw [List.getElem?_append_left hk] at hx
    exact (h k x hx).below hb
  · rw [List.getElem?_append_right (by omega)] at hx
    have hk0 : k - L.length = 0 := by
      rcases Nat.eq_zero_or_pos (k - L.length) with h0 | h0
      · exact h0
      · rw [List.getElem?_eq_none (by simp; omega)] at hx; cases hx
    rw [hk0] at hx
    simp at hx
    subst hx
    have : k = L.length := by omega
    rw [this]
    exact hl
theorem Flds.below {W W' : World} {g : Nat} {L : List (List Value)} (h : Flds W g L) (hb : Below W.heap.size W W') : Flds W' g L := fun k x hx => (h k x hx).below hb

set_option maxRecDepth 100000 in
set_option maxHeartbeats 1000000 in
theorem decimalF_any (s : ByteArray) (p : Addr) (most : Int) (w : World) : Calls Tryz.prog 30 #[.string s, .pointer (some p), .int .i64 most] w
    fun e w' => ∃ b1 b2, e = .returned (.agg (decF s b1 b2).toArray) ∧ Box w' b1 (.pointer (some p)) 61 ∧ Box w' b2 (.int .i64 most) 3 ∧ w.heap.size ≤ b1 ∧ w.heap.size ≤ b2 ∧ Below w.heap.size w w' := by
  have h1 := heap_alloc_new w (.cells #[.pointer (some p)] 61)
  have h2 := heap_alloc_new (w.alloc (.cells #[.pointer (some p)] 61)) (.cells #[.int .i64 most] 3)
  rw [World.size_alloc] at h2
  have H1 := Lib.hid h1
  have H2 := Lib.hid h2
  clear h1 h2
  go_enter Tryz.func30, Tryz.ntmps30
  go_wp2_with fail
  refine bodyPost_ret (v := .agg (decF s w.heap.size (w.heap.size + 1)).toArray) ?_ rfl ?_
  rotate_left
  · exact ⟨_, _, rfl, blk_alloc (blk_alloc H1.out _) _, blk_alloc H2.out _, Nat.le_refl _, Nat.le_succ _, (((Below.refl w.heap.size w).alloc (Nat.le_refl _) _).alloc (by simp) _).alloc (by simp; omega) _⟩
  simp [results, Tryz.results30, go_sem, decF]

set_option maxRecDepth 100000 in
set_option maxHeartbeats 1000000 in
theorem fractionF_any (s : ByteArray) (p q : Addr) (w : World) : Calls Tryz.prog 32 #[.string s, .pointer (some p), .pointer (some q)] w
    fun e w' => ∃ b1 b2, e = .returned (.agg (fraF s b1 b2).toArray) ∧ Box w' b1 (.pointer (some p)) 67 ∧ Box w' b2 (.pointer (some q)) 61 ∧ w.heap.size ≤ b1 ∧ w.heap.size ≤ b2 ∧ Below w.heap.size w w' := by
  have h1 := heap_alloc_new w (.cells #[.pointer (some p)] 67)
  have h2 := heap_alloc_new (w.alloc (.cells #[.pointer (some p)] 67)) (.cells #[.pointer (some q)] 61)
  rw [World.size_alloc] at h2
  have H1 := Lib.hid h1
  have H2 := Lib.hid h2
  clear h1 h2
  go_enter Tryz.func32, Tryz.ntmps32
  go_wp2_with fail
  refine bodyPost_ret (v := .agg (fraF s w.heap.size (w.heap.size + 1)).toArray) ?_ rfl ?_
  rotate_left
  · exact ⟨_, _, rfl, blk_alloc (blk_alloc H1.out _) _, blk_alloc H2.out _, Nat.le_refl _, Nat.le_succ _, (((Below.refl w.heap.size w).alloc (Nat.le_refl _) _).alloc (by simp) _).alloc (by simp; omega) _⟩
  simp [results, Tryz.results32, go_sem, fraF]

set_option maxRecDepth 100000 in
set_option maxHeartbeats 1000000 in
theorem sizesF_any (p : Addr) (w : World) : Calls Tryz.prog 31 #[.pointer (some p)] w
    fun e w' => ∃ b, e = .returned (.agg (sizF b).toArray) ∧ Box w' b (.pointer (some p)) 65 ∧ w.heap.size ≤ b ∧ Below w.heap.size w w' := by
  have h1 := heap_alloc_new w (.cells #[.pointer (some p)] 65)
  have H1 := Lib.hid h1
  clear h1
  go_enter Tryz.func31, Tryz.ntmps31
  go_wp2_with fail
  refine bodyPost_ret (v := .agg (sizF w.heap.size).toArray) ?_ rfl ?_
  rotate_left
  · exact ⟨_, rfl, blk_alloc H1.out _, Nat.le_refl _, ((Below.refl w.heap.size w).alloc (Nat.le_refl _) _).alloc (by simp) _⟩
  simp [results, Tryz.results31, go_sem, sizF]

set_option maxRecDepth 100000 in
set_option maxHeartbeats 1000000 in
theorem number1_any (s : ByteArray) (p : Addr) (w : World) : Calls Tryz.prog 29 #[.string s, .pointer (some p)] w
    fun e w' => ∃ b1 b2, e = .returned (.agg (decF s b1 b2).toArray) ∧ Box w' b1 (.pointer (some p)) 61 ∧ Box w' b2 (.int .i64 1048576) 3 ∧ w.heap.size ≤ b1 ∧ w.heap.size ≤ b2 ∧ Below w.heap.size w w' := by
  have HD := Lib.hid (fun W => decimalF_any s p 1048576 W)
  have HN := Lib.hid (heap_alloc_new w (.cells #[.string ⟨#[]⟩, .nilFunc, .nilFunc] 38))
  have HB0 := Lib.hid ((Below.refl w.heap.size w).alloc (Nat.le_refl _) (.cells #[.string ⟨#[]⟩, .nilFunc, .nilFunc] 38))
  go_enter Tryz.func29, Tryz.ntmps29
  go_wp2_with fail
  (with_reducible refine (HD.out _).mono ?_)
  rintro e w1 ⟨b1, b2, rfl, h1, h2, l1, l2, hb⟩
  have hg := blk_below HN.out hb (by simp)
  have l1' : w.heap.size + 1 ≤ b1 := by simpa using l1
  have l2' : w.heap.size + 1 ≤ b2 := by simpa using l2
  have HF := Lib.hid (And.intro h1 (And.intro h2 (And.intro l1' l2')))
  have HB := Lib.hid (HB0.out.trans (hb.mono (by simp)))
  have HG := Lib.hid hg
  have hlt := blk_lt hg
  have c0 := blk_cell hg 0
  have c1 := blk_cell hg 1
  have c2 := blk_cell hg 2
  have f0 := blk_frozen hg 0
  have f1 := blk_frozen hg 1
  have f2 := blk_frozen hg 2
  clear hb h1 h2 l1 l2 l1' l2' hg
  unfold decF
  go_wp2_with fail
  refine bodyPost_ret (v := .agg (decF s b1 b2).toArray) ?_ rfl ?_
  rotate_left
  · refine ⟨b1, b2, rfl, ?_, ?_, ?_, ?_, ?_⟩
    · exact blk_far (blk_far (blk_far HF.out.1 (by have := HF.out.2.2.1; dsimp only; omega) _) (by have := HF.out.2.2.1; dsimp only; omega) _) (by have := HF.out.2.2.1; dsimp only; omega) _
    · exact blk_far (blk_far (blk_far HF.out.2.1 (by have := HF.out.2.2.2; dsimp only; omega) _) (by have := HF.out.2.2.2; dsimp only; omega) _) (by have := HF.out.2.2.2; dsimp only; omega) _
    · have := HF.out.2.2.1; omega
    · have := HF.out.2.2.2; omega
    · exact ((HB.out.setCell (p := ⟨w.heap.size, 0, none⟩) (Nat.le_refl _) _).setCell (p := ⟨w.heap.size, 1, none⟩) (Nat.le_refl _) _).setCell (p := ⟨w.heap.size, 2, none⟩) (Nat.le_refl _) _
  have k := blk_set (blk_set (blk_set HG.out 0 (.string s)) 1 (.func (.func 46) #[] #[.pointer (some ⟨b1, 0, none⟩), .pointer (some ⟨b2, 0, none⟩)])) 2 (.func (.func 48) #[] #[.pointer (some ⟨b2, 0, none⟩), .pointer (some ⟨b1, 0, none⟩)])
  have k0 := blk_cell k 0
  have k1 := blk_cell k 1
  have k2 := blk_cell k 2
  clear c0 c1 c2 f0 f1 f2 k
  simp [results, Tryz.results29, go_sem, decF, k0, k1, k2]

/-- What fields returns. -/
def FieldsAt (w : World) (g : Nat) (e : Ending) (w' : World) : Prop := ∃ L : List (List Value), e = .returned (.agg L.flatten.toArray) ∧ L.length = 12 ∧ Flds w' g L ∧ Below w.heap.size w w'

theorem heap_setCells (b : Nat) : ∀ (vs : List Value) (o : Nat) (w : World) (i : Nat), i ≠ b → (w.setCells b o vs).heap[i]? = w.heap[i]?
  | [], _, _, _, _ => rfl
  | v :: r, o, w, i, h => (heap_setCells b r (o + 1) _ i h).trans (Below.heap_setCell w ⟨b, o, none⟩ v i h)
theorem below_setCells {B b : Nat} (hb : B ≤ b) : ∀ (vs : List Value) (o : Nat) (w0 w : World), Below B w0 w → Below B w0 (w.setCells b o vs)
  | [], _, _, _, h => h
  | v :: r, o, w0, _, h => below_setCells hb r (o + 1) w0 _ (h.setCell (p := ⟨b, o, none⟩) hb v)

theorem Box.far {W W' : World} {b z : Nat} {v : Value} {t : TypeId} {C : Array Value} {T : TypeId} (h : Box W b v t) (hz : W.heap[z]? = some (.cells C T (0, 0))) (hC : C.size ≠ 1) (hw : ∀ i, i ≠ z → W'.heap[i]? = W.heap[i]?) : Box W' b v t := by
  have hne : b ≠ z := by
    rintro rfl
    unfold Box at h
    rw [h] at hz
    injection hz with hz
    injection hz with hz _
    rw [← hz] at hC
    exact hC rfl
  exact (hw b hne).trans h
theorem Flds.far {W W' : World} {g z : Nat} {L : List (List Value)} {C : Array Value} {T : TypeId} (h : Flds W g L) (hz : W.heap[z]? = some (.cells C T (0, 0))) (hC : C.size ≠ 1) (hw : ∀ i, i ≠ z → W'.heap[i]? = W.heap[i]?) : Flds W' g L := fun k l hl => by
  cases h k l hl with
  | siz b h1 h2 => exact .siz b (h1.far hz hC hw) h2
  | dec k s most b1 b2 hm h1 h2 h3 h4 => exact .dec k s most b1 b2 hm (h1.far hz hC hw) (h2.far hz hC hw) h3 h4
  | fra k s b1 b2 hm h1 h2 h3 h4 => exact .fra k s b1 b2 hm (h1.far hz hC hw) (h2.far hz hC hw) h3 h4

theorem FldIs.one {W : World} {g k : Nat} {l : List Value} (h : FldIs W g k l) : ∀ v ∈ l, v.oneCell' = true := by
  cases h <;> (intro v hv; simp [sizF, decF, fraF] at hv; rcases hv with rfl | rfl | rfl <;> rfl)
theorem Flds.one {W : World} {g : Nat} {L : List (List Value)} (h : Flds W g L) : ∀ v ∈ L.flatten, v.oneCell' = true := fun v hv => by
  obtain ⟨l, hl, hvl⟩ := List.mem_flatten.1 hv
  obtain ⟨k, hk⟩ := List.getElem?_of_mem hl
  exact (h k l hk).one v hvl
theorem Flds.size {W : World} {g : Nat} {L : List (List Value)} (h : Flds W g L) : L.flatten.length = 3 * L.length := by
  have : ∀ l ∈ L, l.length = 3 := fun l hl => by
    obtain ⟨k, hk⟩ := List.getElem?_of_mem hl
    exact (h k l hk).len
  clear h
  induction L with
  | nil => rfl
  | cons l r ih =>
    have h1 := this l (by simp)
    have h2 := ih fun x hx => this x (by simp [hx])
    simp only [List.flatten_cons, List.length_append, List.length_cons, h1, h2]
    omega

theorem there_of {W : World} {z : Nat} {C : Array Value} {T : TypeId} (h : W.heap[z]? = some (.cells C T (0, 0))) : W.there z 0 C.size := fun j hj => ⟨by rw [blk_cell h]; simp [hj], blk_frozen h _⟩

theorem info39 : (Tryz.prog.info? 39).map (·.size) = some 36 := by kernel_rfl

theorem fields_end {w w12 : World} {g z : Nat} {L : List (List Value)} {a : Act} {C : Array Value} (ht : a.tmps.getD 2 undef = .pointer (some ⟨z, 0, none⟩)) (hd : a.defers = []) (hL : L.length = 12) (hF : Flds w12 g L)
    (hz : w12.heap[z]? = some (.cells C 39 (0, 0))) (hC : C.size = 36) (hzw : w.heap.size ≤ z) (hB : Below w.heap.size w w12) :
    bodyPost Tryz.prog Tryz.f14 (FieldsAt w g) .ret a (w12.setCells z 0 L.flatten) := by
  have hlen := hF.size
  have hth : w12.there z 0 L.flatten.length := by have := there_of hz; rw [hC] at this; rw [hlen, hL]; exact this
  have hrg := World.rangeAt_setCells_same w12 z 0 L.flatten hth
  refine bodyPost_ret (v := .agg L.flatten.toArray) ?_ hd ⟨L, rfl, hL, hF.far hz (by omega) (heap_setCells z _ 0 w12), below_setCells hzw _ 0 _ _ hB⟩
  have h1 : L.flatten.length = 36 := by omega
  have ht' : a.tmps[2]?.getD undef = .pointer (some ⟨z, 0, none⟩) := by simpa using ht
  have hld := run_loadVar_mid (P := Tryz.prog) (w12.setCells z 0 L.flatten) z 0 39 L.flatten _ hrg Tryz.underlying39 rfl (by rw [h1]; exact info39)
  simp [results, Tryz.results14, ht', hld, asAddr]

end Go.Proofs.YtiokdfkddcokoaaGreatDoor
