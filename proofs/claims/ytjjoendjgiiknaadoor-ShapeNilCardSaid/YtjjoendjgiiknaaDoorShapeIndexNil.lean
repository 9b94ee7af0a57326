/- Walks: ShapeNil: what a nil shape returns; sizes that are returned are copies. Conditions: the table of powers of ten, the two sentinels and the library's bound on a search read as listed. -/
import Derived.Test.YtjjoendjgiiknaaDoorShapeNames
import Derived.Test.YtjjoendjgiiknaaDoorShapeRefRange
import Derived.Test.YtjjoendjgiiknaaDoorWithin
namespace Go.Proofs.YtjjoendjgiiknaaDoor
open Go.RowKit

set_option maxRecDepth 100000 in
set_option maxHeartbeats 1000000 in
theorem weights_nil (k : Int) (w : World) :
    Calls Tryd.prog 16 #[.pointer none, .int .i64 k] w fun e w' => e = .returned (.agg #[.int .i64 0, .int .i64 0]) ∧ Below w.heap.size w w' := by
  have HL := Lib.hid (links_nil (w.alloc (.cells #[.int .i64 0, .int .i64 0] 35)))
  have HB0 := Lib.hid ((Below.refl w.heap.size w).alloc (Nat.le_refl _) (.cells #[.int .i64 0, .int .i64 0] 35))
  by_cases hk0 : k < 0
  · go_enter Tryd.func16, Tryd.ntmps16
    go_wp2_with fail
    refine bodyPost_ret (v := .agg #[.int .i64 0, .int .i64 0]) ?_ rfl ⟨rfl, HB0.out⟩
    simp [results, Tryd.results16, go_sem]
  · have hk1 : 0 ≤ k := by omega
    clear hk0
    go_enter Tryd.func16, Tryd.ntmps16
    go_wp2_with fail
    (with_reducible refine HL.out.mono ?_)
    rintro e w1 ⟨rfl, rfl⟩
    go_wp2_with fail
    refine bodyPost_ret (v := .agg #[.int .i64 0, .int .i64 0]) ?_ rfl ⟨rfl, HB0.out⟩
    simp [results, Tryd.results16, go_sem]

set_option maxRecDepth 100000 in
set_option maxHeartbeats 1000000 in
theorem biases_nil (k : Int) (w : World) :
    Calls Tryd.prog 18 #[.pointer none, .int .i64 k] w fun e w' => e = .returned (.agg #[.int .i64 0, .int .i64 0]) ∧ Below w.heap.size w w' := by
  have HL := Lib.hid (links_nil (w.alloc (.cells #[.int .i64 0, .int .i64 0] 35)))
  have HB0 := Lib.hid ((Below.refl w.heap.size w).alloc (Nat.le_refl _) (.cells #[.int .i64 0, .int .i64 0] 35))
  by_cases hk0 : k < 0
  · go_enter Tryd.func18, Tryd.ntmps18
    go_wp2_with fail
    refine bodyPost_ret (v := .agg #[.int .i64 0, .int .i64 0]) ?_ rfl ⟨rfl, HB0.out⟩
    simp [results, Tryd.results18, go_sem]
  · have hk1 : 0 ≤ k := by omega
    clear hk0
    go_enter Tryd.func18, Tryd.ntmps18
    go_wp2_with fail
    (with_reducible refine HL.out.mono ?_)
    rintro e w1 ⟨rfl, rfl⟩
    go_wp2_with fail
    refine bodyPost_ret (v := .agg #[.int .i64 0, .int .i64 0]) ?_ rfl ⟨rfl, HB0.out⟩
    simp [results, Tryd.results18, go_sem]

/-- Small numbers of the call's own. -/
def NumsAny (w : World) (v : Value) (wx : World) : Prop := ∃ L : List Int, L.length ≤ 3000 ∧ (∀ x ∈ L, 0 ≤ x ∧ x ≤ 1048576) ∧ wx.ownsRow w.heap.size 3 1 v L.length (L.map (Value.int .i64)) ∧ Below w.heap.size w wx

set_option maxRecDepth 100000 in
set_option maxHeartbeats 4000000 in
theorem index_nil (nm : ByteArray) (hnm : nm.size ≤ 1000) (B : Nat) (w : World) (he : Errs B w) (hm : MaxL B w) (hB : B ≤ w.heap.size) :
    Calls Tryd.prog 25 #[.pointer none, .string nm] w fun e w' => e = .returned (.tuple #[.int .i64 0, .bool false]) ∧ Below w.heap.size w w' := by
  by_cases h0 : nm.data.toList = []
  · have hem : nm.toList.isEmpty = true := by
      rw [Go.ByteArray.toList_eq, h0]
      rfl
    clear h0 he hm hB
    go_enter Tryd.func25, Tryd.ntmps25
    go_wp2_with fail
    go_step3
    go_wp2_with fail
    simp only [Exit.noGoto]
    go_ret2
    exact ⟨rfl, Below.refl _ _⟩
  · have hem : nm.toList.isEmpty = false := by
      rw [Go.ByteArray.toList_eq]
      cases hh : nm.data.toList with
      | nil => exact absurd hh h0
      | cons _ _ => rfl
    have hsz : 1 ≤ nm.size := by
      rcases Nat.eq_zero_or_pos nm.size with hz | hz
      · exact absurd (List.eq_nil_of_length_eq_zero (by rw [Array.length_toList]; exact hz)) h0
      · exact hz
    have hne : ((⟨#[]⟩ : ByteArray).toList == nm.toList) = false := str_ne (fun e => h0 e.symm)
    have hes : (nm.extract 1 nm.size).size ≤ 1000 := by rw [ByteArray.size_extract]; omega
    have HSP := Lib.hid (split_any (nm.extract 1 nm.size) 46 B w (by omega) hm)
    obtain ⟨i0, hi0, hz0, hz1, hz2⟩ := info_parts infoInt
    have H0 := Lib.hid (And.intro hi0 (And.intro hz0 (And.intro hz1 hz2)))
    have HAO := Lib.hid (fun (s : ByteArray) (v : Int) W (hs : s.size ≤ 1048576) (h : Lib.atoiAll s.data.toList = .ok v) => atoi_ok s v W hs h)
    have HAE := Lib.hid (fun (s : ByteArray) W (hW : Below w.heap.size w W) (hs : s.size ≤ 1048576) (h : ∀ v, Lib.atoiAll s.data.toList ≠ .ok v) => atoi_err s B W hs (he.on (hW.mono hB)) h)
    have HLN := Lib.hid (show ∀ ws : List ByteArray, ws.map (·.data.toList) = cutAt 46 (nm.extract 1 nm.size).data.toList → ws.length ≤ 2000 ∧ ∀ s ∈ ws, s.size ≤ 1000 from fun ws h => by
      have hd : (nm.extract 1 nm.size).data.toList.length = (nm.extract 1 nm.size).size := by rw [Array.length_toList]; rfl
      have h1 := cutAt_len 46 (nm.extract 1 nm.size).data.toList
      have h2 := congrArg List.length h
      rw [List.length_map] at h2
      refine ⟨by omega, fun s hs => ?_⟩
      have h3 := cutAt_short 46 (nm.extract 1 nm.size).data.toList s.data.toList (by rw [← h]; exact List.mem_map.2 ⟨s, hs, rfl⟩)
      have h4 : s.data.toList.length = s.size := by rw [Array.length_toList]; rfl
      omega)
    have HNE := Lib.hid hne
    have HNN := Lib.hid (fun (i : Int) W => name_nil i W)
    have HLK := Lib.hid (fun W => (links_nil W).mono (R' := fun e w' => e = .returned (.int .i64 0) ∧ w' = W) fun e w' h => And.intro h.1 h.2.symm)
    clear hes hi0 hz0 hz1 hz2 hm he h0 hne
    go_enter Tryd.func25, Tryd.ntmps25
    go_wp2_with fail
    go_step3
    go_wp2_with fail
    go_step3
    go_wp2_with fail
    (with_reducible refine HSP.out.mono ?_)
    rintro e w1 ⟨ws, hws, rfl, hw1⟩
    have HG1 := Lib.hid (show w1.heap[w.heap.size]? = some (.cells (ws.map Value.string).toArray 9 (0, 0)) by rw [hw1]; exact heap_alloc_new w _)
    have HB1 := Lib.hid (show Below w.heap.size w w1 by rw [hw1]; exact (Below.refl _ _).alloc (Nat.le_refl _) _)
    obtain ⟨hwl, hwz⟩ := HLN.out ws hws
    have HWZ := Lib.hid hwz
    have hwl' : (ws.length : Int) ≤ 2000 := by omega
    clear hw1 hws hwz HLN HSP
    go_upto_block 0 with fail
    go_cut [6] (fun v wx => NumsAny w v wx)
    case first =>
      go_wp2_with fail
      go_loopw [6, 18] (fun v i wr => ∃ (k : Nat) (pre : List Int), k ≤ ws.length ∧ i = .int .i64 k ∧ Hid (pre.length = k) ∧ Hid (wr.ownsRow w1.heap.size 3 1 v k (pre.map (Value.int .i64))) ∧ Hid (∀ x ∈ pre, 0 ≤ x ∧ x ≤ 1048576) ∧ Hid (Below w1.heap.size w1 wr)) (fun _ i _ => ws.length - (intOf i).toNat)
      case atStart => exact ⟨0, [], Nat.zero_le _, rfl, Lib.hid rfl, Lib.hid (own_nil w1 _ _ 1), Lib.hid (by simp), Lib.hid (Below.refl _ _)⟩
      case round =>
        obtain ⟨k, pre, hk, rfl, HPL, HOk, HUk, HBk⟩ := hrel
        by_cases hlt : k < ws.length
        · obtain ⟨s, hs⟩ := get_some ws k hlt
          have hgl := blk_lt HG1.out
          have c1 : wr.cell? ⟨w.heap.size, k, none⟩ = some (.string s) := (HBk.out.cell (p := ⟨w.heap.size, k, none⟩) hgl).trans (by rw [blk_cell HG1.out]; simp [hs])
          have HBw := Lib.hid (HB1.out.trans (HBk.out.mono HB1.out.size))
          have hsz' := HWZ.out s (List.mem_of_getElem? hs)
          have hkk : (k : Int) < (ws.length : Int) := by omega
          cases hwn : wordN s.data.toList with
          | some n =>
            obtain ⟨ha, hn0, hn1⟩ := wordN_ok hwn
            have HUN := Lib.hid (show ∀ x ∈ pre ++ [n], 0 ≤ x ∧ x ≤ 1048576 from fun x hx => by
              rcases List.mem_append.1 hx with h | h
              · exact HUk.out x h
              · rw [List.mem_singleton] at h; subst h; exact ⟨hn0, hn1⟩)
            have HAs := Lib.hid (HAO.out s n wr (by omega) ha)
            clear hwn ha hs HUk
            go_wp2_with fail
            (with_reducible refine HAs.out.mono ?_)
            rintro e w2 ⟨rfl, hb⟩
            have HB2 := Lib.hid (HBk.out.trans (hb.mono HBk.out.size))
            have HO2 := Lib.hid (own_below HOk.out hb)
            clear hb HBk HOk HBw c1 HAs
            go_wp2_with (at_builtin; refine wpList_append_own _ rfl _ _ 22 rfl w1.heap.size 3 i0 (.int .i64 0) 1 8 Tryd.underlying22 H0.out.1 H0.out.2.1 H0.out.2.2.1 H0.out.2.2.2 rfl (by decide) _ _ _ rfl (HO2.out.alloc _) ⟨w2.heap.size, 0, none⟩ 1 1 [.int .i64 n] rfl rfl ?c1 ?c2 ?c3 ?c4 ?c5 ?_)
            case c1 =>
              intro j u hj
              match j, hj with
              | 0, hj => simp at hj; subst hj; simp [Addr.add]
            case c2 => intro u hu; simp at hu; subst hu; rfl
            case c3 => unfold maxLen; omega
            case c4 => omega
            case c5 => have := HB2.out.size; simp; omega
            intro v' w3 hown' hgrow _
            have HB3 := Lib.hid (below_own (HB2.out.alloc HB2.out.size _) (Nat.le_refl _) (Nat.le_refl _) (HO2.out.alloc _) hgrow)
            have HO3 := Lib.hid hown'
            clear hown' hgrow HB2 HO2
            go_wp2_with fail
            go_roundw
            case rel => exact ⟨k + 1, pre ++ [n], by omega, by go_num, Lib.hid (by rw [List.length_append, HPL.out]; rfl), Lib.hid (by rw [List.map_append]; exact HO3.out), HUN, HB3⟩
            case measure => simp [intOf]; omega
          | none =>
            have hno := wordN_no hwn
            clear hwn hs
            have hln : pre.length ≤ 3000 := by have := HPL.out; omega
            have HLN := Lib.hid hln
            clear hln
            rcases hno with hno | ⟨v, hv, hvb⟩
            · have HAs := Lib.hid (HAE.out s wr HBw.out (by omega) hno)
              clear hno
              go_wp2_with fail
              (with_reducible refine HAs.out.mono ?_)
              rintro e w2 ⟨x, t, p, rfl, hb⟩
              have HB2 := Lib.hid (HBw.out.trans (hb.mono HBw.out.size))
              have HO2 := Lib.hid (own_below HOk.out hb)
              clear hb HBk HOk HBw c1 HAs
              go_wp2_with fail
              go_meet
              exact ⟨pre, HLN.out, HUk.out, by rw [HPL.out]; exact own_less HO2.out HB1.out.size, HB2.out⟩
            · have HAs := Lib.hid (HAO.out s v wr (by omega) hv)
              clear hv
              rcases hvb with hvb | hvb
              · go_wp2_with fail
                (with_reducible refine HAs.out.mono ?_)
                rintro e w2 ⟨rfl, hb⟩
                have HB2 := Lib.hid (HBw.out.trans (hb.mono HBw.out.size))
                have HO2 := Lib.hid (own_below HOk.out hb)
                clear hb HBk HOk HBw c1 HAs
                go_wp2_with fail
                go_meet
                exact ⟨pre, HLN.out, HUk.out, by rw [HPL.out]; exact own_less HO2.out HB1.out.size, HB2.out⟩
              · have hv0 : ¬ v < 0 := by omega
                go_wp2_with fail
                (with_reducible refine HAs.out.mono ?_)
                rintro e w2 ⟨rfl, hb⟩
                have HB2 := Lib.hid (HBw.out.trans (hb.mono HBw.out.size))
                have HO2 := Lib.hid (own_below HOk.out hb)
                clear hb HBk HOk HBw c1 HAs
                go_wp2_with fail
                go_meet
                exact ⟨pre, HLN.out, HUk.out, by rw [HPL.out]; exact own_less HO2.out HB1.out.size, HB2.out⟩
        · have hge : (ws.length : Int) ≤ (k : Int) := by omega
          have hln : pre.length ≤ 3000 := by have := HPL.out; omega
          have HLN := Lib.hid hln
          have HB2 := Lib.hid (HB1.out.trans (HBk.out.mono HB1.out.size))
          clear hln
          go_wp2_with fail
          go_meet
          exact ⟨pre, HLN.out, HUk.out, by rw [HPL.out]; exact own_less HOk.out HB1.out.size, HB2.out⟩
    case rest =>
      obtain ⟨L, hl3, hlin, hown, hbc⟩ := hcut
      have HBC := Lib.hid hbc
      obtain ⟨A6, c6, rfl⟩ := own_slice hown
      have HCL := Lib.hid (rd_of_own hown)
      have HLI := Lib.hid hlin
      clear hown hbc HG1 HB1 hlin
      obtain ⟨n, hn⟩ : ∃ n, L.length = n := ⟨_, rfl⟩
      rw [hn] at hl3 ⊢
      go_upto_block 2 with fail
      go_cut [11] (fun v wx => v = .int .i64 (-1) ∧ Below w.heap.size w wx)
      case first =>
        have hnl' : (n : Int) ≤ 3000 := by omega
        by_cases h3 : n = 3
        · subst h3
          obtain ⟨k, r, c, rfl⟩ := len3 hn
          obtain ⟨bl, ol, rfl, hbl, hcl⟩ := (show RdI wc _ A6 [k, r, c] from HCL.out).at_ (by simp)
          have f0 := hcl 0 k rfl
          rw [Nat.add_zero] at f0
          obtain ⟨k0, k1⟩ := HLI.out k (by simp)
          have hmn : ¬ k < 0 := by omega
          clear hcl HCL HLI hn
          go_wp2_with fail
          go_quiet ((go_at_call 13; first | exact Calls.quiet_of_same (HLK.out _) | exact quiet_more (HLK.out _)))
          go_wp2_with fail
          go_quiet (fail)
          go_wp2_with fail
          go_meet
          exact ⟨rfl, below_drewN (below_drewN HBC.out _) _⟩
        · have h3' : ¬ (n : Int) = 3 := by omega
          by_cases h4 : n = 2
          · subst h4
            obtain ⟨k, r, rfl⟩ := len2 hn
            obtain ⟨bl, ol, rfl, hbl, hcl⟩ := (show RdI wc _ A6 [k, r] from HCL.out).at_ (by simp)
            have f0 := hcl 0 k rfl
            rw [Nat.add_zero] at f0
            obtain ⟨k0, k1⟩ := HLI.out k (by simp)
            have hmn : ¬ k < 0 := by omega
            clear hcl HCL HLI h3 hn
            go_wp2_with fail
            go_quiet (fail)
            go_wp2_with fail
            go_quiet ((go_at_call 13; first | exact Calls.quiet_of_same (HLK.out _) | exact quiet_more (HLK.out _)))
            go_wp2_with fail
            go_meet
            exact ⟨rfl, below_drewN (below_drewN HBC.out _) _⟩
          · have h4' : ¬ (n : Int) = 2 := by omega
            clear HCL HLI h3 h4 hn
            go_wp2_with fail
            go_quiet (fail)
            go_wp2_with fail
            go_quiet (fail)
            go_wp2_with fail
            go_meet
            exact ⟨rfl, below_drewN (below_drewN HBC.out _) _⟩
      case rest =>
        obtain ⟨rfl, hbd⟩ := hcut
        have HBD := Lib.hid hbd
        clear hbd HLK
        have hne := HNE.out
        go_wp2_with fail
        (with_reducible refine (HNN.out _ _).mono ?_)
        rintro e w2 ⟨rfl, rfl⟩
        go_wp2_with fail
        simp only [Exit.noGoto]
        go_ret2
        exact ⟨rfl, HBD.out⟩

end Go.Proofs.YtjjoendjgiiknaaDoor
