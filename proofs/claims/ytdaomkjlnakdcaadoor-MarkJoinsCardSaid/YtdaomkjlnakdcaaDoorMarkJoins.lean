/- MarkJoins and MarkChanges: the plain law and the walks. Conditions: the table of powers of ten reads as listed. -/
import Derived.Test.YtdaomkjlnakdcaaDoorMarkText
import Derived.Test.YtdaomkjlnakdcaaDoorMarkFew
namespace Go.Proofs.YtdaomkjlnakdcaaDoor
open Go.RowKit

theorem turn_add (a b x y : Int) : tRe (a + b) x y = tRe a (tRe b x y) (tIm b x y) ∧ tIm (a + b) x y = tIm a (tRe b x y) (tIm b x y) := by
  unfold tRe tIm
  have ha : a % 4 = 0 ∨ a % 4 = 1 ∨ a % 4 = 2 ∨ a % 4 = 3 := by omega
  have hb : b % 4 = 0 ∨ b % 4 = 1 ∨ b % 4 = 2 ∨ b % 4 = 3 := by omega
  rcases ha with ha | ha | ha | ha <;> rcases hb with hb | hb | hb | hb
  · have e : (a + b) % 4 = 0 := by omega
    simp [ha, hb, e]
  · have e : (a + b) % 4 = 1 := by omega
    simp [ha, hb, e]
  · have e : (a + b) % 4 = 2 := by omega
    simp [ha, hb, e]
  · have e : (a + b) % 4 = 3 := by omega
    simp [ha, hb, e]
  · have e : (a + b) % 4 = 1 := by omega
    simp [ha, hb, e]
  · have e : (a + b) % 4 = 2 := by omega
    simp [ha, hb, e]
  · have e : (a + b) % 4 = 3 := by omega
    simp [ha, hb, e]
  · have e : (a + b) % 4 = 0 := by omega
    simp [ha, hb, e]
  · have e : (a + b) % 4 = 2 := by omega
    simp [ha, hb, e]
  · have e : (a + b) % 4 = 3 := by omega
    simp [ha, hb, e]
  · have e : (a + b) % 4 = 0 := by omega
    simp [ha, hb, e]
  · have e : (a + b) % 4 = 1 := by omega
    simp [ha, hb, e]
  · have e : (a + b) % 4 = 3 := by omega
    simp [ha, hb, e]
  · have e : (a + b) % 4 = 0 := by omega
    simp [ha, hb, e]
  · have e : (a + b) % 4 = 1 := by omega
    simp [ha, hb, e]
  · have e : (a + b) % 4 = 2 := by omega
    simp [ha, hb, e]

theorem turn_sum (n x y u v : Int) : tRe n (x + u) (y + v) = tRe n x y + tRe n u v ∧ tIm n (x + u) (y + v) = tIm n x y + tIm n u v := by
  unfold tRe tIm
  split
  · omega
  split
  · omega
  split <;> omega

theorem of_shift : ∀ (l : List Int) (n off : Nat), ofRe (n + off) l = tRe n (ofRe off l) (ofIm off l) ∧ ofIm (n + off) l = tIm n (ofRe off l) (ofIm off l)
  | [], n, off => by
    simp only [ofRe, ofIm]
    unfold tRe tIm
    simp
  | x :: l, n, off => by
    have ih := of_shift l n (off + 1)
    have h1 := turn_add n off (low x) 0
    have h2 := turn_sum n (tRe off (low x) 0) (tIm off (low x) 0) (ofRe (off + 1) l) (ofIm (off + 1) l)
    simp only [ofRe, ofIm]
    rw [show n + off + 1 = n + (off + 1) by omega, ih.1, ih.2, h2.1, h2.2, Int.natCast_add, h1.1, h1.2]
    exact ⟨rfl, rfl⟩

theorem of_append : ∀ (l m : List Int) (off : Nat), ofRe off (l ++ m) = ofRe off l + ofRe (off + l.length) m ∧ ofIm off (l ++ m) = ofIm off l + ofIm (off + l.length) m
  | [], m, off => by simp [ofRe, ofIm]
  | x :: l, m, off => by
    have ih := of_append l m (off + 1)
    simp only [List.cons_append, ofRe, ofIm, List.length_cons]
    rw [ih.1, ih.2, show off + 1 + l.length = off + (l.length + 1) by omega]
    omega

theorem of_join (l m : List Int) : ofRe 0 (l ++ m) = ofRe 0 l + tRe l.length (ofRe 0 m) (ofIm 0 m) ∧ ofIm 0 (l ++ m) = ofIm 0 l + tIm l.length (ofRe 0 m) (ofIm 0 m) := by
  have h1 := of_append l m 0
  have h2 := of_shift m l.length 0
  rw [h1.1, h1.2, show 0 + l.length = l.length + 0 by omega, h2.1, h2.2]
  exact ⟨rfl, rfl⟩

theorem own_ints {w : World} {base : Nat} {e : TypeId} {v : Value} {n : Nat} {zs : List Int} {k : IntKind} (h : w.ownsRow base e 1 v n (zs.map (Value.int k))) :
    ∃ A cap, v = .slice A zs.length cap ∧ Rd w w.heap.size A (zs.map (Value.int k)) := by
  have hn : n = zs.length := by have := h.1; simp at this; omega
  subst hn
  rcases h.2 with ⟨rfl, h0⟩ | ⟨g, cap, cur, rfl, _⟩
  · exact ⟨none, 0, by rw [h0], rd_of_own (cap := 0) (n := 0) (by have := h; rwa [h0] at this)⟩
  · exact ⟨_, cap, rfl, rd_of_own h⟩

theorem few_block (w : World) (vs : List (Option Addr × Nat × Nat)) (t : TypeId) (hl : vs.length ≤ 60) :
    Calls Tryd.prog 23 #[.slice (some ⟨w.heap.size, 0, none⟩) vs.length vs.length] (w.alloc (.cells (vs.map fun v => .slice v.1 v.2.1 v.2.2).toArray t (0, 0))) fun e w' => e = .returned (.bool (decide (fewSum vs ≤ 1500))) ∧ w.alloc (.cells (vs.map fun v => .slice v.1 v.2.1 v.2.2).toArray t (0, 0)) = w' :=
  few_any _ _ vs _ (fun _ => ⟨w.heap.size, 0, rfl, by simp, fun j u hu => by rw [Nat.zero_add, blk_cell (heap_alloc_new _ _)]; simpa using hu⟩) hl

set_option maxHeartbeats 1000000 in
theorem markJoins_any (A D : Option Addr) (cap dcap : Nat) (zs ys : List Int) (w : World) (hp : Pow w.heap.size w) (hr : RdI w w.heap.size A zs) (hs : RdI w w.heap.size D ys) :
    Calls Tryd.prog 6 #[.slice A zs.length cap, .slice D ys.length dcap] w fun e w' => e = .returned (.bool true) ∧ Below w.heap.size w w' := by
  have hb0 : Below w.heap.size w (w.alloc (.cells #[.slice A zs.length cap, .slice D ys.length dcap] 22)) := (Below.refl _ _).alloc (Nat.le_refl _) _
  have C0 : Calls Tryd.prog 23 #[.slice (some ⟨w.heap.size, 0, none⟩) 2 2] (w.alloc (.cells #[.slice A zs.length cap, .slice D ys.length dcap] 22)) _ := few_block w [(A, zs.length, cap), (D, ys.length, dcap)] 22 (by simp)
  have HB0 := Lib.hid hb0
  have HR := Lib.hid (And.intro hr hs)
  have C1 := Lib.hid (fun W (hb : Below w.heap.size w W) => alive_any w.heap.size W (hp.on hb) hb.size)
  by_cases hf : fewSum [(A, zs.length, cap), (D, ys.length, dcap)] ≤ 1500
  · rw [decide_eq_true hf] at C0
    have hz : zs.length ≤ 1500 ∧ ys.length ≤ 1500 := by simp only [fewSum] at hf; omega
    have HZ := Lib.hid hz
    have H0 := Lib.hid C0
    obtain ⟨i0, hi0, hz0, hz1, hz2⟩ := info_parts info64
    have HI := Lib.hid (And.intro hi0 (And.intro hz0 (And.intro hz1 hz2)))
    clear hp hr hs hb0 C0 hf hz hi0 hz0 hz1 hz2
    go_enter Tryd.func6, Tryd.ntmps6
    go_wp2_with fail
    (with_reducible refine H0.out.mono ?_)
    rintro e w1 ⟨rfl, rfl⟩
    clear H0
    go_wp2_with fail
    (with_reducible refine (clone_any A cap zs _ ((HR.out.1.below HB0.out).more HB0.out.size) (by have := HZ.out; omega)).mono ?_)
    rintro e w2 ⟨v, rfl, ho, hb⟩
    have HB2 := Lib.hid (HB0.out.trans (hb.mono HB0.out.size))
    have HS := Lib.hid hb.size
    have HO := Lib.hid ho
    clear ho hb
    obtain ⟨qs, hqs⟩ : ∃ qs, qs = zs ++ ys := ⟨_, rfl⟩
    have HQ := Lib.hid hqs
    clear hqs
    have HL1 := Lib.hid (show zs.length + (ys.map (Value.int .i64)).length ≤ maxLen by have := HZ.out; simp [maxLen]; omega)
    have HL2 := Lib.hid (show (zs.length + (ys.map (Value.int .i64)).length) * 8 ≤ 140737488355328 by have := HZ.out; simp; omega)
    go_wp2_with (at_builtin; refine wpList_append_rd _ rfl _ _ 22 rfl _ 2 i0 (.int .i64 0) 8 Tryd.underlying22 HI.out.1 HI.out.2.1 HI.out.2.2.1 HI.out.2.2.2 rfl v _ _ rfl HO.out _ D ys.length dcap (ys.map (Value.int .i64)) rfl (by simp) (HR.out.2.below HB2.out) (ints_one ys) HL1.out HL2.out HS.out ?_; intro v' w3 hown hg _)
    have HB3 := Lib.hid (below_own HB2.out (Nat.le_refl _) HB0.out.size HO.out hg)
    obtain ⟨A3, c3, rfl, hr3⟩ := own_ints (k := .i64) (zs := qs) (by rw [HQ.out, List.map_append]; exact hown)
    have HR3 := Lib.hid hr3
    clear hown hg hr3
    have HR4 := Lib.hid (And.intro (HR.out.1.below HB3.out) (HR.out.2.below HB3.out))
    go_wp2_with fail
    (with_reducible refine (markOf_any A cap zs _ (HR4.out.1.more HB3.out.size) (by have := HZ.out; omega)).mono ?_)
    rintro e w4 ⟨⟨a, b, rfl, ha, hb⟩, hb4⟩
    have HB4 := Lib.hid (HB3.out.trans (hb4.mono HB3.out.size))
    have HR5 := Lib.hid (HR3.out.below hb4)
    have HS5 := Lib.hid hb4.size
    have HA := Lib.hid (And.intro ha hb)
    clear ha hb hb4
    go_wp2_with fail
    (with_reducible refine (markOf_any D dcap ys _ ((HR.out.2.below HB4.out).more HB4.out.size) (by have := HZ.out; omega)).mono ?_)
    rintro e w5 ⟨⟨c, d, rfl, hc, hd⟩, hb5⟩
    have HB5 := Lib.hid (HB4.out.trans (hb5.mono HB4.out.size))
    have HR6 := Lib.hid (HR5.out.below (hb5.mono HS5.out))
    have HS6 := Lib.hid (Nat.le_trans HS5.out hb5.size)
    have HC := Lib.hid (And.intro hc hd)
    have bd1 := of_bd zs 0
    have bd2 := of_bd ys 0
    have BD := Lib.hid (And.intro bd1 bd2)
    clear hc hd hb5 bd1 bd2
    go_wp2_with fail
    (with_reducible refine (join_any a b c d _ _ _ _ zs.length _ HA.out.1 HA.out.2 HC.out.1 HC.out.2 (by have := BD.out; have := HZ.out; omega) (by have := BD.out; have := HZ.out; omega) (by have := BD.out; have := HZ.out; omega) (by have := BD.out; have := HZ.out; omega)).mono ?_)
    rintro e w6 ⟨a6, b6, rfl, ha, hb, rfl⟩
    have hj := of_join zs ys
    rw [← HQ.out] at hj
    rw [← hj.1] at ha
    rw [← hj.2] at hb
    have HJ := Lib.hid (And.intro ha hb)
    clear hj ha hb HA HC
    go_wp2_with fail
    (with_reducible refine (C1.out _ HB5.out).mono ?_)
    rintro e w7 ⟨rfl, hb7⟩
    have HB7 := Lib.hid (HB5.out.trans (hb7.mono HB5.out.size))
    have HR7 := Lib.hid (HR6.out.below (hb7.mono HS6.out))
    have HS7 := Lib.hid (Nat.le_trans HS6.out hb7.size)
    have HLL := Lib.hid (show qs.length ≤ 3000 by have := HZ.out; rw [HQ.out]; simp; omega)
    have hE := HR7.out.more HS7.out
    have C8 := Lib.hid (markOf_any A3 c3 qs _ hE (by have := HLL.out; omega))
    clear hE hb7
    go_wp2_with fail
    (with_reducible refine C8.out.mono ?_)
    rintro e w8 ⟨⟨a8, b8, rfl, ha, hb⟩, hb8⟩
    have q1 := (feq_int HJ.out.1 ha).trans (decide_eq_true rfl)
    have q2 := (feq_int HJ.out.2 hb).trans (decide_eq_true rfl)
    have HB8 := Lib.hid (HB7.out.trans (hb8.mono HB7.out.size))
    have hE := (HR7.out.below (hb8.mono HS7.out)).more (Nat.le_trans HS7.out hb8.size)
    have C9 := Lib.hid (refOf_any A3 c3 qs _ hE (by have := HLL.out; omega))
    clear hE hb8 ha hb C8
    go_wp2_with fail
    (with_reducible refine C9.out.mono ?_)
    rintro e w9 ⟨rfl, hb9⟩
    have HB9 := Lib.hid (HB8.out.trans (hb9.mono HB8.out.size))
    have bd := of_bd qs 0
    have C10 := Lib.hid (given_any (ofRe 0 qs) (ofIm 0 qs) w9 (by have := HLL.out; omega) (by have := HLL.out; omega))
    clear hb9 bd C9 q1 q2
    go_wp2_with fail
    (with_reducible refine C10.out.mono ?_)
    rintro e w10 ⟨c10, d10, rfl, hc, hd, hb10⟩
    have q3 := (feq_int HJ.out.1 hc).trans (decide_eq_true rfl)
    have q4 := (feq_int HJ.out.2 hd).trans (decide_eq_true rfl)
    have HB10 := Lib.hid (HB9.out.trans (hb10.mono HB9.out.size))
    clear hc hd hb10 C10
    go_wp2
    go_ret
    exact ⟨rfl, HB10.out⟩
  · rw [decide_eq_false hf] at C0
    have H0 := Lib.hid C0
    clear hp hr hs hb0 C0 hf
    go_enter Tryd.func6, Tryd.ntmps6
    go_wp2_with fail
    (with_reducible refine H0.out.mono ?_)
    rintro e w1 ⟨rfl, rfl⟩
    go_wp2_with fail
    (with_reducible refine (C1.out _ HB0.out).mono ?_)
    rintro e w1 ⟨rfl, hb1⟩
    have HB1 := Lib.hid (HB0.out.trans (hb1.mono HB0.out.size))
    clear hb1
    go_wp2
    go_ret
    exact ⟨rfl, HB1.out⟩

/-- One element is another one. -/
theorem of_set : ∀ (l : List Int) (i off : Nat) (x y : Int), l[i]? = some x → ofRe off (l.set i y) = ofRe off l + tRe (off + i : Nat) (low y - low x) 0 ∧ ofIm off (l.set i y) = ofIm off l + tIm (off + i : Nat) (low y - low x) 0
  | [], _, _, _, _, h => by simp at h
  | z :: l, 0, off, x, y, h => by
    simp at h; subst h
    have h2 := turn_sum off (low y - low z) 0 (low z) 0
    rw [show low y - low z + low z = low y by omega, Int.add_zero] at h2
    simp only [List.set_cons_zero, ofRe, ofIm, Nat.add_zero]
    omega
  | z :: l, i + 1, off, x, y, h => by
    have ih := of_set l i (off + 1) x y (by simpa using h)
    simp only [List.set_cons_succ, ofRe, ofIm]
    rw [ih.1, ih.2, show off + 1 + i = off + (i + 1) by omega]
    omega

theorem low_other (x c : Int) (h : 0 < c) (h2 : c < 65536) : low (wrap64 (x + c)) ≠ low x := by
  have e : wrap64 (x + c) % 65536 = (x + c) % 65536 := by
    unfold wrap64
    omega
  unfold low
  rw [e]
  split <;> split <;> omega

theorem turn_nought (n d : Int) (h : d ≠ 0) : ¬ (tRe n d 0 = 0 ∧ tIm n d 0 = 0) := by
  unfold tRe tIm
  split
  · omega
  split
  · omega
  split <;> omega

theorem of_other (l : List Int) (i : Nat) (x c : Int) (hx : l[i]? = some x) (h : 0 < c) (h2 : c < 65536) : ¬ (ofRe 0 (l.set i (wrap64 (x + c))) = ofRe 0 l ∧ ofIm 0 (l.set i (wrap64 (x + c))) = ofIm 0 l) := by
  have h1 := of_set l i 0 x (wrap64 (x + c)) hx
  have h3 := turn_nought ((0 + i : Nat) : Int) (low (wrap64 (x + c)) - low x) (by have := low_other x c h h2; omega)
  rw [h1.1, h1.2]
  omega

end Go.Proofs.YtdaomkjlnakdcaaDoor
