/- Walks: Index of a shape. Conditions: the table of powers of ten, the two sentinels and the library's bound on a search read as listed. -/
import Derived.Test.YtjjoendjgiiknaaDoorRefIndex
import Derived.Test.YtjjoendjgiiknaaDoorAtoi
import Derived.Test.YtjjoendjgiiknaaDoorSplit
import Derived.Deep.DeepCutAuto
namespace Go.Proofs.YtjjoendjgiiknaaDoor
open Go.RowKit

theorem cutAt_len (c : UInt8) : ∀ s : List UInt8, (cutAt c s).length ≤ s.length + 1
  | [] => by simp [cutAt]
  | b :: l => by
    have ih := cutAt_len c l
    simp only [cutAt]
    split
    · simp; omega
    · split
      · simp
      · rename_i h; rw [h] at ih; simp at ih ⊢; omega

/- Worlds. -/
theorem cutAt_short (c : UInt8) (s : List UInt8) (y : List UInt8) (hy : y ∈ cutAt c s) : y.length ≤ s.length := by
  have h := join_cutAt c s
  have key : ∀ (l : List (List UInt8)) (y : List UInt8), y ∈ l → y.length ≤ (Lib.join l [c]).length := by
    intro l
    induction l with
    | nil => intro y hy; cases hy
    | cons x r ih =>
      intro y hy
      cases r with
      | nil =>
        rw [Lib.join_one]
        rcases List.mem_cons.1 hy with rfl | hy
        · exact Nat.le_refl _
        · cases hy
      | cons z m =>
        have e : Lib.join (x :: z :: m) [c] = x ++ c :: Lib.join (z :: m) [c] := by
          rw [Lib.join_cons, Lib.join_cons]
          simp [Lib.joinTail]
        rw [e, List.length_append, List.length_cons]
        rcases List.mem_cons.1 hy with rfl | hy
        · omega
        · have := ih y hy
          omega
  have := key _ y hy
  rwa [h] at this

/-- The index that numbers give. -/
def iOf (zs : List Int) (l : List Int) : Int := match l with
  | [k, r, c] => if k < (zs.length : Int) - 1 then lo zs k.toNat + r * zAt zs k.toNat + c else -1
  | [k, r] => if k < (zs.length : Int) - 1 then mid zs k.toNat + r else -1
  | _ => -1
/-- The numbers of a name. -/
def numsN (l : List UInt8) : List Int := numsU (cutAt 46 l.tail)

theorem iOf_name {zs : List Int} (h : ShOk zs) {l : List UInt8} {i : Nat} (hi : NamedAt zs l i) : iOf zs (numsN l) = i := by
  obtain ⟨p, hp, rfl⟩ := hi
  have hpl := places_get h hp
  obtain ⟨h1, h2, h3, h4, h5, h6, h7⟩ := idx_place h hpl
  have hin : ∀ x ∈ numL p, 0 ≤ x ∧ x ≤ 1048576 := by
    have h16 := h.2.1
    intro x hx
    unfold numL at hx
    split at hx
    · simp at hx; omega
    · simp at hx; omega
  have hcut : cutAt 46 (ptsL (numL p)) = (numL p).map Lib.itoa := by
    unfold ptsL
    cases hl : numL p with
    | nil => unfold numL at hl; split at hl <;> simp at hl
    | cons x m =>
      rw [List.map_cons]
      refine cutAt_join 46 _ _ fun y hy b hb => ?_
      rw [← List.map_cons] at hy
      obtain ⟨z, _, rfl⟩ := List.mem_map.1 hy
      exact itoa_free z b hb
  have hn : numsN (nameL p) = numL p := by
    unfold numsN nameL
    rw [List.tail_cons, hcut, numsU_itoa hin]
  rw [hn, ← h1]
  obtain ⟨k, r, c⟩ := p
  unfold numL idxOf
  dsimp only at h2 h3 h4 h5 h6 h7 ⊢
  by_cases hc : c < 0
  · rw [if_pos hc, if_pos hc]
    unfold iOf
    dsimp only
    rw [if_pos (by omega)]
  · rw [if_neg hc, if_neg hc]
    unfold iOf
    dsimp only
    rw [if_pos (by omega)]

theorem own_less {w : World} {base base' e size n : Nat} {v : Value} {xs : List Value} (h : w.ownsRow base e size v n xs) (hb : base' ≤ base) : w.ownsRow base' e size v n xs := by
  rcases h.2 with ⟨rfl, h0⟩ | ⟨g, cap, cur, rfl, hg, h1⟩
  · exact ⟨h.1, .inl ⟨rfl, h0⟩⟩
  · exact ⟨h.1, .inr ⟨g, cap, cur, rfl, by omega, h1⟩⟩
theorem infoInt : (Tryd.prog.info? 3).map (fun i => (i.zero, i.size, i.bytes)) = some (some (.int .i64 0), 1, 8) := by kernel_rfl

/-- The numbers that were read, as a row of the call's own. -/
def NumsAt (w : World) (l : List Int) (v : Value) (wx : World) : Prop := wx.ownsRow w.heap.size 3 1 v l.length (l.map (Value.int .i64)) ∧ Below w.heap.size w wx

theorem numsU_step {W : List (List UInt8)} {pre : List Int} {k : Nat} {w : List UInt8} {n : Int} (h : numsU W = pre ++ numsU (W.drop k)) (hw : W[k]? = some w) (hn : wordN w = some n) : numsU W = (pre ++ [n]) ++ numsU (W.drop (k + 1)) := by
  rw [h, List.drop_eq_getElem_cons (List.getElem?_eq_some_iff.1 hw).1, (List.getElem?_eq_some_iff.1 hw).2]
  simp [numsU, hn]
theorem numsU_stop {W : List (List UInt8)} {pre : List Int} {k : Nat} {w : List UInt8} (h : numsU W = pre ++ numsU (W.drop k)) (hw : W[k]? = some w) (hn : wordN w = none) : numsU W = pre := by
  rw [h, List.drop_eq_getElem_cons (List.getElem?_eq_some_iff.1 hw).1, (List.getElem?_eq_some_iff.1 hw).2]
  simp [numsU, hn]
theorem numsU_end {W : List (List UInt8)} {pre : List Int} {k : Nat} (h : numsU W = pre ++ numsU (W.drop k)) (hk : W.length ≤ k) : numsU W = pre := by
  rw [h, List.drop_of_length_le hk]
  simp [numsU]

theorem numsU_in : ∀ (W : List (List UInt8)) (x : Int), x ∈ numsU W → 0 ≤ x ∧ x ≤ 1048576
  | [], x, h => by cases h
  | w :: W, x, h => by
    unfold numsU at h
    split at h
    · rename_i n hn
      rcases List.mem_cons.1 h with rfl | h
      · exact (wordN_ok hn).2
      · exact numsU_in W x h
    · cases h

theorem iOf_other (zs L : List Int) (h3 : L.length ≠ 3) (h2 : L.length ≠ 2) : iOf zs L = -1 := by
  match L with
  | [] => rfl
  | [_] => rfl
  | [_, _] => exact absurd rfl h2
  | [_, _, _] => exact absurd rfl h3
  | _ :: _ :: _ :: _ :: _ => rfl
theorem len3 {L : List Int} (h : L.length = 3) : ∃ k r c, L = [k, r, c] := by
  match L, h with
  | [k, r, c], _ => exact ⟨k, r, c, rfl⟩
theorem len2 {L : List Int} (h : L.length = 2) : ∃ k r, L = [k, r] := by
  match L, h with
  | [k, r], _ => exact ⟨k, r, rfl⟩

theorem numsU_len : ∀ W : List (List UInt8), (numsU W).length ≤ W.length
  | [] => Nat.le_refl _
  | w :: W => by
    unfold numsU
    split
    · have := numsU_len W
      simp
      omega
    · simp

theorem quiet_more {P : Program} {f : FuncId} {args : Array Value} {w : World} {q n : Nat} {v : Value}
    (h : Calls P f args (w.drewN (q + n)) fun e w' => e = .returned v ∧ w' = w.drewN (q + n)) : Calls P f args (w.drewN (q + n)) fun e w'' => e = .returned v ∧ ∃ m, w'' = w.drewN (q + m) :=
  h.mono fun _ _ ⟨he, hm⟩ => ⟨he, n, hm⟩

/-- Name at the index that the numbers give: the name itself, or no index has it. -/
theorem name_at (g : Nat) (zs : List Int) (hs : ShOk zs) (nm : ByteArray) (h0 : nm.data.toList ≠ []) (I : Int) (hI : ∀ i : Nat, NamedAt zs nm.data.toList i → I = i) (B : Nat) (w : World) (hp : Pow B w) (hB : B ≤ w.heap.size) (h : IsShape w w.heap.size g zs) :
    ∃ s : ByteArray, Hid (Calls Tryd.prog 24 #[.pointer (some ⟨g, 0, none⟩), .int .i64 I] w fun e w' => e = .returned (.string s) ∧ Below w.heap.size w w') ∧
      ((s = nm ∧ ∃ j : Nat, I = j ∧ NamedAt zs nm.data.toList j) ∨ ((s.toList == nm.toList) = false ∧ ∀ i, ¬ NamedAt zs nm.data.toList i)) := by
  by_cases hc : 0 ≤ I ∧ I < cnt zs
  · obtain ⟨n, rfl⟩ := Int.eq_ofNat_of_zero_le hc.1
    have hl := places_len hs
    obtain ⟨p, hp1, hp2⟩ := places_at hs (i := n) (by omega)
    refine ⟨_, Lib.hid (name_yes g zs hs n p hp2 B w hp hB h), ?_⟩
    by_cases he : nm.data.toList = nameL p
    · exact .inl ⟨(str_eq he).symm, n, rfl, p, hp1, he⟩
    · refine .inr ⟨str_ne fun e => he e.symm, fun i hi => ?_⟩
      have e := hI i hi
      have e : n = i := by omega
      subst e
      obtain ⟨q, hq1, hq2⟩ := hi
      rw [hp1] at hq1
      injection hq1 with hq1
      exact he (hq1 ▸ hq2)
  · refine ⟨_, Lib.hid (name_no g zs hs I hc w h), .inr ⟨str_ne fun e => h0 e.symm, fun i hi => ?_⟩⟩
    have e := hI i hi
    obtain ⟨q, hq1, _⟩ := hi
    exact hc (e ▸ place_in hs (places_get hs hq1))

theorem nameL_ne (p : Pl) : nameL p ≠ [] := by unfold nameL; exact List.cons_ne_nil _ _

set_option maxRecDepth 100000 in
set_option maxHeartbeats 4000000 in
theorem index_any (g : Nat) (zs : List Int) (hs : ShOk zs) (nm : ByteArray) (hnm : nm.size ≤ 1000) (B : Nat) (w : World) (hp : Pow B w) (he : Errs B w) (hm : MaxL B w) (hB : B ≤ w.heap.size) (h : IsShape w w.heap.size g zs) :
    Calls Tryd.prog 25 #[.pointer (some ⟨g, 0, none⟩), .string nm] w (IdxPost zs nm.data.toList w) := by
  by_cases h0 : nm.data.toList = []
  · have hem : nm.toList.isEmpty = true := by
      rw [Go.ByteArray.toList_eq, h0]
      rfl
    have HNO := Lib.hid (show ∀ i, ¬ NamedAt zs nm.data.toList i from fun i hi => by
      obtain ⟨p, _, e⟩ := hi
      exact nameL_ne p (e.symm.trans h0))
    clear h0 h hs hp he hm hB
    go_enter Tryd.func25, Tryd.ntmps25
    go_wp2_with fail
    go_step3
    go_wp2_with fail
    simp only [Exit.noGoto]
    go_ret2
    exact ⟨.inr ⟨HNO.out, rfl⟩, Below.refl _ _⟩
  · have hem : nm.toList.isEmpty = false := by
      rw [Go.ByteArray.toList_eq]
      cases hh : nm.data.toList with
      | nil => exact absurd hh h0
      | cons _ _ => rfl
    have hsz : 1 ≤ nm.size := by
      rcases Nat.eq_zero_or_pos nm.size with hz | hz
      · exact absurd (List.eq_nil_of_length_eq_zero (by rw [Array.length_toList]; exact hz)) h0
      · exact hz
    have htl : (nm.extract 1 nm.size).data.toList = nm.data.toList.tail := by rw [Lib.extract_to_end, List.drop_one]
    have hes : (nm.extract 1 nm.size).size ≤ 1000 := by rw [ByteArray.size_extract]; omega
    have HSP := Lib.hid (split_any (nm.extract 1 nm.size) 46 B w (by omega) hm)
    have HTL := Lib.hid htl
    obtain ⟨i0, hi0, hz0, hz1, hz2⟩ := info_parts infoInt
    have H0 := Lib.hid (And.intro hi0 (And.intro hz0 (And.intro hz1 hz2)))
    have HAO := Lib.hid (fun (s : ByteArray) (v : Int) W (hs : s.size ≤ 1048576) (h : Lib.atoiAll s.data.toList = .ok v) => atoi_ok s v W hs h)
    have HAE := Lib.hid (fun (s : ByteArray) W (hW : Below w.heap.size w W) (hs : s.size ≤ 1048576) (h : ∀ v, Lib.atoiAll s.data.toList ≠ .ok v) => atoi_err s B W hs (he.on (hW.mono hB)) h)
    have HNA := Lib.hid (fun i (h : NamedAt zs nm.data.toList i) => iOf_name hs h)
    have HNM := Lib.hid (show ∀ ws : List ByteArray, ws.map (·.data.toList) = cutAt 46 (nm.extract 1 nm.size).data.toList → numsU (ws.map (·.data.toList)) = numsN nm.data.toList from fun ws h => by rw [h, htl]; rfl)
    have HLN := Lib.hid (show ∀ ws : List ByteArray, ws.map (·.data.toList) = cutAt 46 (nm.extract 1 nm.size).data.toList → ws.length ≤ 2000 ∧ ∀ s ∈ ws, s.size ≤ 1000 from fun ws h => by
      have hd : (nm.extract 1 nm.size).data.toList.length = (nm.extract 1 nm.size).size := by rw [Array.length_toList]; rfl
      have h1 := cutAt_len 46 (nm.extract 1 nm.size).data.toList
      have h2 := congrArg List.length h
      rw [List.length_map] at h2
      refine ⟨by omega, fun s hs => ?_⟩
      have h3 := cutAt_short 46 (nm.extract 1 nm.size).data.toList s.data.toList (by rw [← h]; exact List.mem_map.2 ⟨s, hs, rfl⟩)
      have h4 : s.data.toList.length = s.size := by rw [Array.length_toList]; rfl
      omega)
    have HSH := Lib.hid h
    have HOK := Lib.hid hs
    have HPW := Lib.hid (fun W (hW : Below w.heap.size w W) => hp.on (hW.mono hB))
    have HNL := Lib.hid (show (numsN nm.data.toList).length ≤ 3000 from by
      have h1 := numsU_len (cutAt 46 nm.data.toList.tail)
      have h2 := cutAt_len 46 nm.data.toList.tail
      have h3 : nm.data.toList.length = nm.size := by rw [Array.length_toList]; rfl
      rw [List.length_tail] at h2
      unfold numsN
      omega)
    have HLI := Lib.hid (show ∀ x ∈ numsN nm.data.toList, 0 ≤ x ∧ x ≤ 1048576 from fun x hx => numsU_in _ x hx)
    have HNO := Lib.hid (fun (I : Int) (hI : ∀ i : Nat, NamedAt zs nm.data.toList i → I = i) W (hW : Below w.heap.size w W) => name_at g zs hs nm h0 I hI B W (hp.on (hW.mono hB)) (by have := hW.size; omega) (h.next hW))
    obtain ⟨L, hL⟩ : ∃ L, numsN nm.data.toList = L := ⟨_, rfl⟩
    rw [hL] at HNA HNM HLI HNL
    clear htl hes hi0 hz0 hz1 hz2 hm hp he hs h hL h0
    go_enter Tryd.func25, Tryd.ntmps25
    go_wp2_with fail
    go_step3
    go_wp2_with fail
    go_step3
    go_wp2_with fail
    (with_reducible refine HSP.out.mono ?_)
    rintro e w1 ⟨ws, hws, rfl, hw1⟩
    have HG1 := Lib.hid (show w1.heap[w.heap.size]? = some (.cells (ws.map Value.string).toArray 9 (0, 0)) by rw [hw1]; exact heap_alloc_new w _)
    have HB1 := Lib.hid (show Below w.heap.size w w1 by rw [hw1]; exact (Below.refl _ _).alloc (Nat.le_refl _) _)
    have HW := Lib.hid (HNM.out ws hws)
    obtain ⟨hwl, hwz⟩ := HLN.out ws hws
    have HWZ := Lib.hid hwz
    have hwl' : (ws.length : Int) ≤ 2000 := by omega
    clear hw1 hws hwz HNM HLN HSP HTL
    go_upto_block 0 with fail
    go_cut [6] (fun v wx => NumsAt w L v wx)
    case first =>
      go_wp2_with fail
      go_loopw [6, 18] (fun v i wr => ∃ (k : Nat) (pre : List Int), k ≤ ws.length ∧ i = .int .i64 k ∧ Hid (pre.length = k) ∧ Hid (wr.ownsRow w1.heap.size 3 1 v k (pre.map (Value.int .i64))) ∧ Hid (numsU (ws.map (·.data.toList)) = pre ++ numsU ((ws.map (·.data.toList)).drop k)) ∧ Hid (Below w1.heap.size w1 wr)) (fun _ i _ => ws.length - (intOf i).toNat)
      case atStart => exact ⟨0, [], Nat.zero_le _, rfl, Lib.hid rfl, Lib.hid (own_nil w1 _ _ 1), Lib.hid (by simp), Lib.hid (Below.refl _ _)⟩
      case round =>
        obtain ⟨k, pre, hk, rfl, HPL, HOk, HUk, HBk⟩ := hrel
        by_cases hlt : k < ws.length
        · obtain ⟨s, hs⟩ := get_some ws k hlt
          have hgl := blk_lt HG1.out
          have c1 : wr.cell? ⟨w.heap.size, k, none⟩ = some (.string s) := (HBk.out.cell (p := ⟨w.heap.size, k, none⟩) hgl).trans (by rw [blk_cell HG1.out]; simp [hs])
          have HBw := Lib.hid (HB1.out.trans (HBk.out.mono HB1.out.size))
          have hsz' := HWZ.out s (List.mem_of_getElem? hs)
          have hmw : (ws.map (·.data.toList))[k]? = some s.data.toList := by simp [hs]
          have hkk : (k : Int) < (ws.length : Int) := by omega
          cases hwn : wordN s.data.toList with
          | some n =>
            obtain ⟨ha, hn0, hn1⟩ := wordN_ok hwn
            have HUN := Lib.hid (numsU_step HUk.out hmw hwn)
            have HAs := Lib.hid (HAO.out s n wr (by omega) ha)
            clear hwn ha hmw hs HUk
            go_wp2_with fail
            (with_reducible refine HAs.out.mono ?_)
            rintro e w2 ⟨rfl, hb⟩
            have HB2 := Lib.hid (HBk.out.trans (hb.mono HBk.out.size))
            have HO2 := Lib.hid (own_below HOk.out hb)
            clear hb HBk HOk HBw c1 HAs
            go_wp2_with (at_builtin; refine wpList_append_own _ rfl _ _ 22 rfl w1.heap.size 3 i0 (.int .i64 0) 1 8 Tryd.underlying22 H0.out.1 H0.out.2.1 H0.out.2.2.1 H0.out.2.2.2 rfl (by decide) _ _ _ rfl (HO2.out.alloc _) ⟨w2.heap.size, 0, none⟩ 1 1 [.int .i64 n] rfl rfl ?c1 ?c2 ?c3 ?c4 ?c5 ?_)
            case c1 =>
              intro j u hj
              match j, hj with
              | 0, hj => simp at hj; subst hj; simp [Addr.add]
            case c2 => intro u hu; simp at hu; subst hu; rfl
            case c3 => unfold maxLen; omega
            case c4 => omega
            case c5 => have := HB2.out.size; simp; omega
            intro v' w3 hown' hgrow _
            have HB3 := Lib.hid (below_own (HB2.out.alloc HB2.out.size _) (Nat.le_refl _) (Nat.le_refl _) (HO2.out.alloc _) hgrow)
            have HO3 := Lib.hid hown'
            clear hown' hgrow HB2 HO2
            go_wp2_with fail
            go_roundw
            case rel => exact ⟨k + 1, pre ++ [n], by omega, by go_num, Lib.hid (by rw [List.length_append, HPL.out]; rfl), Lib.hid (by rw [List.map_append]; exact HO3.out), HUN, HB3⟩
            case measure => simp [intOf]; omega
          | none =>
            have hst := numsU_stop HUk.out hmw hwn
            rw [HW.out] at hst
            have HST := Lib.hid hst
            have hno := wordN_no hwn
            clear hst hwn hmw hs HUk
            rcases hno with hno | ⟨v, hv, hvb⟩
            · have HAs := Lib.hid (HAE.out s wr HBw.out (by omega) hno)
              clear hno
              go_wp2_with fail
              (with_reducible refine HAs.out.mono ?_)
              rintro e w2 ⟨x, t, p, rfl, hb⟩
              have HB2 := Lib.hid (HBw.out.trans (hb.mono HBw.out.size))
              have HO2 := Lib.hid (own_below HOk.out hb)
              clear hb HBk HOk HBw c1 HAs
              go_wp2_with fail
              go_meet
              exact ⟨by rw [HST.out, HPL.out]; exact own_less HO2.out HB1.out.size, HB2.out⟩
            · have HAs := Lib.hid (HAO.out s v wr (by omega) hv)
              clear hv
              rcases hvb with hvb | hvb
              · go_wp2_with fail
                (with_reducible refine HAs.out.mono ?_)
                rintro e w2 ⟨rfl, hb⟩
                have HB2 := Lib.hid (HBw.out.trans (hb.mono HBw.out.size))
                have HO2 := Lib.hid (own_below HOk.out hb)
                clear hb HBk HOk HBw c1 HAs
                go_wp2_with fail
                go_meet
                exact ⟨by rw [HST.out, HPL.out]; exact own_less HO2.out HB1.out.size, HB2.out⟩
              · have hv0 : ¬ v < 0 := by omega
                go_wp2_with fail
                (with_reducible refine HAs.out.mono ?_)
                rintro e w2 ⟨rfl, hb⟩
                have HB2 := Lib.hid (HBw.out.trans (hb.mono HBw.out.size))
                have HO2 := Lib.hid (own_below HOk.out hb)
                clear hb HBk HOk HBw c1 HAs
                go_wp2_with fail
                go_meet
                exact ⟨by rw [HST.out, HPL.out]; exact own_less HO2.out HB1.out.size, HB2.out⟩
        · have hge : (ws.length : Int) ≤ (k : Int) := by omega
          have hst := numsU_end HUk.out (by rw [List.length_map]; omega)
          rw [HW.out] at hst
          have HST := Lib.hid hst
          have HB2 := Lib.hid (HB1.out.trans (HBk.out.mono HB1.out.size))
          clear hst
          go_wp2_with fail
          go_meet
          exact ⟨by rw [HST.out, HPL.out]; exact own_less HOk.out HB1.out.size, HB2.out⟩
    case rest =>
      obtain ⟨hown, hbc⟩ := hcut
      have HBC := Lib.hid hbc
      have HOC := Lib.hid hown
      obtain ⟨A6, c6, rfl⟩ := own_slice hown
      have HSC := Lib.hid (HSH.out.next hbc)
      clear hown hbc HG1 HB1
      obtain ⟨As, Aw, Ab, cs, cw, cb, ⟨c0, c1, c2, c3⟩, hS, hW, hB⟩ := HSC.out.parts
      have HLK := Lib.hid (fun W (hW : Below wc.heap.size wc W) => (links_any g zs wc.heap.size W (HSC.out.below hW)).mono fun e w' h => And.intro h.1 h.2.symm)
      have hCL := rd_of_own HOC.out
      have HCS := Lib.hid hS
      have HCW := Lib.hid hW
      have HCB := Lib.hid hB
      have HCL := Lib.hid hCL
      obtain ⟨n, hn⟩ : ∃ n, L.length = n := ⟨_, rfl⟩
      rw [hn]
      clear hS hW hB hCL
      go_upto_block 2 with fail
      go_cut [11] (fun v wx => v = .int .i64 (iOf zs L) ∧ Below w.heap.size w wx)
      case first =>
        have h2 := HOK.out.1
        have h16 := HOK.out.2.1
        obtain ⟨n1, hn1⟩ : ∃ n, zs.length - 1 = n := ⟨_, rfl⟩
        have hnz : (n1 : Int) = (zs.length : Int) - 1 := by omega
        have hnl := HNL.out
        rw [hn] at hnl
        have hnl' : (n : Int) ≤ 3000 := by omega
        by_cases h3 : n = 3
        · subst h3
          obtain ⟨k, r, c, rfl⟩ := len3 hn
          obtain ⟨bl, ol, rfl, hbl, hcl⟩ := (show RdI wc _ A6 [k, r, c] from HCL.out).at_ (by simp)
          have f0 := hcl 0 k rfl
          rw [Nat.add_zero] at f0
          have f1 := hcl 1 r rfl
          have f2 := hcl 2 c rfl
          obtain ⟨k0, k1⟩ := HLI.out k (by simp)
          obtain ⟨r0, r1⟩ := HLI.out r (by simp)
          obtain ⟨d0, d1⟩ := HLI.out c (by simp)
          obtain ⟨m, rfl⟩ := Int.eq_ofNat_of_zero_le k0
          have hio : iOf zs [(m : Int), r, c] = if (m : Int) < (zs.length : Int) - 1 then lo zs m + r * zAt zs m + c else -1 := rfl
          clear hcl HCL HLI HOC
          by_cases hk : (m : Int) < (zs.length : Int) - 1
          · rw [if_pos hk] at hio
            have hm1 : m < zs.length - 1 := by omega
            obtain ⟨bw, ow, rfl, hbw, hcw⟩ := flat_cells HCW.out (by rw [wr_len]; omega)
            obtain ⟨bs, os, rfl, hbs, hcs⟩ := (show RdI wc _ As zs from HCS.out).at_ (by omega)
            have f3 := (hcw m _ (wr_at zs hm1)).1
            have f4 := hcs m _ (zAt_get (by omega))
            dsimp only at f3
            have ha := zAt_ok HOK.out (k := m) (by omega)
            have hl0 := lo_nonneg HOK.out (k := m) (by omega)
            have hlc := lo_cnt HOK.out (k := m) (by omega)
            have hcn := HOK.out.2.2.2
            generalize lo zs m = L0 at *
            generalize zAt zs m = a at *
            have q0 : 0 ≤ r * a := Int.mul_nonneg r0 (by omega)
            have q1 : r * a ≤ 1048576 * 1048576 := Int.mul_le_mul r1 (by omega) (by omega) (by omega)
            obtain ⟨P, hP⟩ : ∃ P, r * a = P := ⟨_, rfl⟩
            rw [hP] at q0 q1 hio
            have m1 : IntKind.i64.wrap (r * a) = P := by rw [hP]; exact IntWalk.i64_in _ (by omega)
            have m2 : IntKind.i64.wrap (L0 + P) = L0 + P := IntWalk.i64_in _ (by omega)
            have m3 : IntKind.i64.wrap (L0 + P + c) = L0 + P + c := IntWalk.i64_in _ (by omega)
            rw [hn1] at c1 HLK
            have hmn : (m : Int) < (n1 : Int) := by omega
            have hmz : (m : Int) < (zs.length : Int) := by omega
            have hn100 : (n1 : Int) ≤ 100 := by omega
            have hz100 : (zs.length : Int) ≤ 100 := by omega
            have HIO := Lib.hid hio
            clear hcw hcs HCW HCS HCB hk hm1 hio hn1 hP HNA HNO
            go_wp2_with fail
            go_quiet ((go_at_call 13; first | exact Calls.quiet_of_same (HLK.out _ (Below.refl _ _)) | exact Calls.quiet_of_same (HLK.out _ (below_drewN (Below.refl _ _) _)) | exact quiet_more (HLK.out _ (below_drewN (Below.refl _ _) _))))
            go_wp2_with fail
            go_quiet (fail)
            go_wp2_with fail
            go_meet
            exact ⟨by rw [HIO.out], below_drewN (below_drewN HBC.out _) _⟩
          · rw [if_neg hk] at hio
            have HIO := Lib.hid hio
            have hmn : ¬ (m : Int) < (n1 : Int) := by omega
            rw [hn1] at c1 HLK
            clear HCW HCS HCB hk hio hn1 HNA HNO
            go_wp2_with fail
            go_quiet ((go_at_call 13; first | exact Calls.quiet_of_same (HLK.out _ (Below.refl _ _)) | exact Calls.quiet_of_same (HLK.out _ (below_drewN (Below.refl _ _) _)) | exact quiet_more (HLK.out _ (below_drewN (Below.refl _ _) _))))
            go_wp2_with fail
            go_quiet (fail)
            go_wp2_with fail
            go_meet
            exact ⟨by rw [HIO.out], below_drewN (below_drewN HBC.out _) _⟩
        · have h3' : ¬ (n : Int) = 3 := by omega
          by_cases h4 : n = 2
          · subst h4
            obtain ⟨k, r, rfl⟩ := len2 hn
            obtain ⟨bl, ol, rfl, hbl, hcl⟩ := (show RdI wc _ A6 [k, r] from HCL.out).at_ (by simp)
            have f0 := hcl 0 k rfl
            rw [Nat.add_zero] at f0
            have f1 := hcl 1 r rfl
            obtain ⟨k0, k1⟩ := HLI.out k (by simp)
            obtain ⟨r0, r1⟩ := HLI.out r (by simp)
            obtain ⟨m, rfl⟩ := Int.eq_ofNat_of_zero_le k0
            have hio : iOf zs [(m : Int), r] = if (m : Int) < (zs.length : Int) - 1 then mid zs m + r else -1 := rfl
            clear hcl HCL HLI HOC h3
            by_cases hk : (m : Int) < (zs.length : Int) - 1
            · rw [if_pos hk] at hio
              have hm1 : m < zs.length - 1 := by omega
              obtain ⟨bb, ob, rfl, hbb, hcb⟩ := flat_cells HCB.out (by rw [br_len]; omega)
              have f3 := (hcb m _ (br_at zs hm1)).1
              dsimp only at f3
              have hl0 := lo_nonneg HOK.out (k := m) (by omega)
              have hlc := lo_cnt HOK.out (k := m + 1) (by omega)
              have hmg := mid_ge HOK.out (k := m) (by omega)
              have hcn := HOK.out.2.2.2
              generalize lo zs m = L0 at *
              generalize mid zs m = M at *
              generalize lo zs (m + 1) = L1 at *
              have m2 : IntKind.i64.wrap (M + r) = M + r := IntWalk.i64_in _ (by omega)
              rw [hn1] at c2 HLK
              have hmn : (m : Int) < (n1 : Int) := by omega
              have hn100 : (n1 : Int) ≤ 100 := by omega
              have HIO := Lib.hid hio
              clear hcb HCW HCS HCB hk hm1 hio hn1 HNA HNO
              go_wp2_with fail
              go_quiet (fail)
              go_wp2_with fail
              go_quiet ((go_at_call 13; first | exact Calls.quiet_of_same (HLK.out _ (Below.refl _ _)) | exact Calls.quiet_of_same (HLK.out _ (below_drewN (Below.refl _ _) _)) | exact quiet_more (HLK.out _ (below_drewN (Below.refl _ _) _))))
              go_wp2_with fail
              go_quiet (fail)
              go_wp2_with fail
              go_meet
              exact ⟨by rw [HIO.out], below_drewN (below_drewN (below_drewN HBC.out _) _) _⟩
            · rw [if_neg hk] at hio
              have HIO := Lib.hid hio
              have hmn : ¬ (m : Int) < (n1 : Int) := by omega
              rw [hn1] at c1 HLK
              clear HCW HCS HCB hk hio hn1 HNA HNO
              go_wp2_with fail
              go_quiet (fail)
              go_wp2_with fail
              go_quiet ((go_at_call 13; first | exact Calls.quiet_of_same (HLK.out _ (Below.refl _ _)) | exact Calls.quiet_of_same (HLK.out _ (below_drewN (Below.refl _ _) _)) | exact quiet_more (HLK.out _ (below_drewN (Below.refl _ _) _))))
              go_wp2_with fail
              go_meet
              exact ⟨by rw [HIO.out], below_drewN (below_drewN HBC.out _) _⟩
          · have h4' : ¬ (n : Int) = 2 := by omega
            have hio : iOf zs L = -1 := iOf_other zs L (by omega) (by omega)
            have HIO := Lib.hid hio
            clear HCW HCS HCB hio hn1 HNA HNO HCL HLI HOC h3 h4
            go_wp2_with fail
            go_quiet (fail)
            go_wp2_with fail
            go_quiet (fail)
            go_wp2_with fail
            go_meet
            exact ⟨by rw [HIO.out], below_drewN (below_drewN HBC.out _) _⟩
      case rest =>
        obtain ⟨rfl, hbd⟩ := hcut
        have HBD := Lib.hid hbd
        obtain ⟨I, hI⟩ : ∃ I, iOf zs L = I := ⟨_, rfl⟩
        rw [hI] at HNA ⊢
        obtain ⟨s, HN, hN⟩ := HNO.out I HNA.out _ hbd
        clear hbd hI HNO HNA HLK c0 c1 c2 c3
        rcases hN with ⟨rfl, j, rfl, hj⟩ | ⟨hne, hno⟩
        · have HJ := Lib.hid hj
          clear hj
          go_wp2_with fail
          (with_reducible refine HN.out.mono ?_)
          rintro e w2 ⟨rfl, hb⟩
          have HB2 := Lib.hid (HBD.out.trans (hb.mono HBD.out.size))
          clear hb HN
          go_wp2_with fail
          go_ret2
          exact ⟨.inl ⟨j, HJ.out, rfl⟩, HB2.out⟩
        · have HJ := Lib.hid hno
          clear hno
          go_wp2_with fail
          (with_reducible refine HN.out.mono ?_)
          rintro e w2 ⟨rfl, hb⟩
          have HB2 := Lib.hid (HBD.out.trans (hb.mono HBD.out.size))
          clear hb HN
          go_wp2_with fail
          go_ret2
          exact ⟨.inr ⟨HJ.out, rfl⟩, HB2.out⟩

end Go.Proofs.YtjjoendjgiiknaaDoor
