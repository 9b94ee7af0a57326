/- Walks: the reference's Parse of examples. Conditions: none. -/
import Derived.Test.YtajilipbnfpemaaDoorDataParse
import Derived.Test.YtajilipbnfpemaaDoorRefDataPlain
import Derived.Test.YtajilipbnfpemaaDoorRefWords
import Derived.Test.YtajilipbnfpemaaDoorRefParse
import Derived.Test.YtajilipbnfpemaaDoorDataSame
namespace Go.Proofs.YtajilipbnfpemaaDoor
open Go.RowKit

def EXNIL : Array Value := #[.slice none 0 0, .slice none 0 0]

set_option maxRecDepth 100000 in
set_option maxHeartbeats 4000000 in
theorem refDataParse_any (s : ByteArray) (q : Int) (w : World) (hs : s.size ≤ 1000) : Calls Tryd.prog 47 #[.string s, .int .i64 q] w (GivesEx s.data.toList q w) := by
  obtain ⟨i0, hi, hz0, hz1, hz2⟩ := info_parts infoI64
  have HI := Lib.hid (And.intro hi (And.intro hz0 (And.intro hz1 hz2)))
  have HS := Lib.hid (show s.data.toList.length = s.size from Array.length_toList)
  have HWD := Lib.hid (fun W => refWords_any s W (by omega))
  have HN := Lib.hid (fun h => ex_none (s := s.data.toList) (q := q) h)
  have HSM := Lib.hid (fun xs ys n (hn : n ≤ 62) (e : q = (n : Nat)) h => ex_some (s := s.data.toList) (n := n) (xs := xs) (ys := ys) hn (by rw [← e]; exact h))
  have HSO := Lib.hid (fun (hq : ¬ (0 ≤ q ∧ q ≤ 62)) => exS_out (l := s.data.toList) hq)
  have HLC := Lib.hid (len_cutAt 32 s.data.toList)
  have HCN := Lib.hid (cutAt_len 32 s.data.toList)
  unfold GivesEx
  have HB := Lib.hid (((Below.refl w.heap.size w).alloc (Nat.le_refl _) (.cells #[.slice none 0 0, .slice none 0 0] 46)).alloc (by simp) (.cells #[.slice none 0 0, .slice none 0 0] 46))
  have HQ := Lib.hid (blk_alloc (heap_alloc_new w (.cells #[.slice none 0 0, .slice none 0 0] 46)) (.cells #[.slice none 0 0, .slice none 0 0] 46))
  have HZ := Lib.hid (show ((w.alloc (.cells #[.slice none 0 0, .slice none 0 0] 46)).alloc (.cells #[.slice none 0 0, .slice none 0 0] 46)).heap[w.heap.size + 1]? = some (.cells #[.slice none 0 0, .slice none 0 0] 46 (0, 0)) by
    have := heap_alloc_new (w.alloc (.cells #[.slice none 0 0, .slice none 0 0] 46)) (.cells #[.slice none 0 0, .slice none 0 0] 46)
    rw [World.size_alloc] at this
    exact this)
  clear hi hz0 hz1 hz2
  go_enter Tryd.func47, Tryd.ntmps47
  go_wp2_with fail
  (with_reducible refine (HWD.out _).mono ?_)
  rintro e w3 ⟨vw, ws, rfl, hws, how, hb3⟩
  obtain ⟨Aw, pw, rfl⟩ := own_slice how
  have HB3 := Lib.hid (HB.out.trans (hb3.mono HB.out.size))
  have HQ3 := Lib.hid (blk_below HQ.out hb3 (blk_lt HQ.out))
  have HZ3 := Lib.hid (blk_below HZ.out hb3 (blk_lt HZ.out))
  have HOW := Lib.hid how
  have HWS := Lib.hid hws
  have HL3 := Lib.hid (blk_lt HZ3.out)
  have HL := Lib.hid (show ws.length ≤ 1001 by
    have h1 := HCN.out
    rw [← hws, List.length_map, HS.out] at h1
    omega)
  have HX := Lib.hid (show ∀ x ∈ ws, x.size ≤ 1000 from fun x hx => by
    have h1 := HLC.out x.data.toList (by rw [← hws]; exact List.mem_map_of_mem hx)
    have h2 : x.data.toList.length = x.size := Array.length_toList
    have h3 := HS.out
    omega)
  have HG0 := Lib.hid (only_refl w3 (some (w.heap.size + 1)))
  clear HB HQ HZ HWD how hws hb3 HCN HLC hs
  go_wp2_with fail
  go_loopw [8, 9] (fun r i wr => ∃ (k : Nat) (b : Bool) (xs ys : List Int) (v1 v2 : Value), k ≤ ws.length ∧ i = .int .i64 k ∧ r = .bool b ∧ xs.length ≤ k ∧ ys.length ≤ k ∧
    Hid (goS q ((ws.map (·.data.toList)).drop k) b xs ys = goS q (cutAt 32 s.data.toList) false [] []) ∧
    Hid (wr.heap[w.heap.size]? = some (.cells #[.slice none 0 0, .slice none 0 0] 46 (0, 0))) ∧
    Hid (wr.heap[w.heap.size + 1]? = some (.cells #[v1, v2] 46 (0, 0))) ∧ Hid (RowsAt w3.heap.size wr b v1 v2 xs ys 2) ∧ Hid (w3.grownBy wr (some (w.heap.size + 1)))) (fun _ i _ => ws.length - (intOf i).toNat)
  case atStart => exact ⟨0, false, [], [], .slice none 0 0, .slice none 0 0, Nat.zero_le _, rfl, rfl, by simp, by simp, Lib.hid (by rw [List.drop_zero, HWS.out]), HQ3, HZ3, Lib.hid ⟨own_nil w3 w3.heap.size 2 1, .inl ⟨rfl, rfl, rfl⟩⟩, HG0⟩
  case round =>
    obtain ⟨k, b, xs, ys, v1, v2, hk, rfl, rfl, hxk, hyk, HGO, HQk, HZk, HRk, HGk⟩ := hrel
    have hwl : (ws.length : Int) ≤ 1001 := by have h := HL.out; omega
    have HBk := Lib.hid (below_only HB3.out (Nat.le_refl _) HGk.out (by omega))
    by_cases hlt : k < ws.length
    · obtain ⟨bw, off, rfl, hbw, hcw⟩ := rd_only HOW.out HGk.out (by simp) (by simp; omega)
      obtain ⟨x, hx⟩ := get_some ws k hlt
      have c1 : wr.cell? ⟨bw, off + k, none⟩ = some (.string x) := hcw k _ (by simp [hx])
      have HXS := Lib.hid (HX.out x (List.mem_of_getElem? hx))
      have HP := Lib.hid (fun W => refParse_any x q W HXS.out)
      have hdr : (ws.map (·.data.toList)).drop k = x.data.toList :: (ws.map (·.data.toList)).drop (k + 1) := by
        rw [List.drop_eq_getElem_cons (by simpa using hlt)]
        congr 1
        rw [List.getElem?_eq_getElem hlt] at hx
        injection hx with hx
        simp [hx]
      have HST := Lib.hid (show _ = _ from hdr ▸ HGO.out)
      clear hdr hcw hx HGO
      by_cases h62 : x.data.toList = [62]
      · cases b
        · have hb : (x.toList == [62]) = true := by rw [Go.ByteArray.toList_eq]; simp [h62]
          obtain ⟨h1, ⟨_, rfl, rfl⟩ | ⟨h, _⟩⟩ := HRk.out
          · have HGO := Lib.hid (show goS q ((ws.map (·.data.toList)).drop (k + 1)) true xs [] = goS q (cutAt 32 s.data.toList) false [] [] by
              have hgo := HST.out
              simp only [goS] at hgo
              rw [if_pos (by simp [h62])] at hgo
              exact hgo)
            have HR := Lib.hid (show RowsAt w3.heap.size wr true v1 (.slice none 0 0) xs [] 2 from ⟨h1, .inr ⟨rfl, wr.heap.size, Nat.le_refl _, HGk.out.size, fun k hk => (h1.lt k hk).2, own_nil _ _ _ _⟩⟩)
            clear h1 HST
            go_wp2_with fail
            go_roundw
            case rel => exact ⟨k + 1, true, xs, [], v1, .slice none 0 0, by omega, by go_num, rfl, by omega, by simp, HGO, HQk, HZk, HR, HGk⟩
            case measure => simp [intOf]; omega
          · cases h
        · have hb : (x.toList == [62]) = true := by rw [Go.ByteArray.toList_eq]; simp [h62]
          have HE := Lib.hid (show exS s.data.toList q = exNone by
            refine HN.out ?_
            have hgo := HST.out
            simp only [goS] at hgo
            rw [if_neg (by simp), h62, parse_arrow] at hgo
            simp only [Bool.false_eq_true, if_false] at hgo
            exact hgo.symm)
          have hpa := parse_arrow q
          rw [← h62] at hpa
          unfold GivesParse at HP
          generalize parseS x.data.toList q = p at HP hpa
          obtain ⟨z, f⟩ := p
          dsimp only at HP hpa
          subst hpa
          clear HST h62
          go_wp2_with fail
          (with_reducible refine (HP.out _).mono ?_)
          rintro e w1 ⟨rfl, hb1⟩
          have HB1 := Lib.hid (HBk.out.trans (hb1.mono HBk.out.size))
          have HQ1 := Lib.hid (blk_below HQk.out hb1 (blk_lt HQk.out))
          have HZ1 := Lib.hid (blk_below HZk.out hb1 (blk_lt HZk.out))
          have HG1 := Lib.hid (only_below HGk.out hb1)
          have HR1 := Lib.hid (HRk.out.below hb1)
          clear hb1 HBk HQk HZk HGk HRk HP c1
          have z0 := blk_frozen HQ1.out 0
          have z1 := blk_frozen HQ1.out 1
          have d0 := blk_cell HQ1.out 0
          have d1 := blk_cell HQ1.out 1
          have lz := blk_lt HQ1.out
          go_wp2_with fail
          have s0 := blk_set HQ1.out 0 (.slice none 0 0)
          have s1 := blk_set s0 1 (.slice none 0 0)
          have hbW := (HB1.out.setCell (p := ⟨w.heap.size, 0, none⟩) (by simp) (.slice none 0 0)).setCell (p := ⟨w.heap.size, 1, none⟩) (by simp) (.slice none 0 0)
          generalize (World.setCell (World.setCell w1 ⟨w.heap.size, 0, none⟩ (.slice none 0 0)) ⟨w.heap.size, 1, none⟩ (.slice none 0 0)) = W at s1 hbW ⊢
          have k0 := blk_cell s1 0
          have k1 := blk_cell s1 1
          refine bodyPost_ret (v := .tuple #[.agg #[.slice none 0 0, .slice none 0 0], .bool false]) ?_ rfl ⟨.inr ⟨by rw [HE.out]; rfl, rfl⟩, hbW⟩
          simp [results, Tryd.results47, go_sem, k0, k1]
      · cases b
        · have hb : (x.toList == [62]) = false := by rw [Go.ByteArray.toList_eq, beq_eq_false_iff_ne]; exact h62
          have hgo := HST.out
          simp only [goS] at hgo
          rw [if_neg (by simp [h62])] at hgo
          unfold GivesParse at HP
          generalize parseS x.data.toList q = p at HP hgo
          obtain ⟨z, f⟩ := p
          dsimp only at HP hgo
          have HGO := Lib.hid hgo
          clear hgo HST h62
          cases f
          · have HE := Lib.hid (show exS s.data.toList q = exNone from HN.out HGO.out.symm)
            clear HGO
            go_wp2_with fail
            (with_reducible refine (HP.out _).mono ?_)
            rintro e w1 ⟨rfl, hb1⟩
            have HB1 := Lib.hid (HBk.out.trans (hb1.mono HBk.out.size))
            have HQ1 := Lib.hid (blk_below HQk.out hb1 (blk_lt HQk.out))
            have HZ1 := Lib.hid (blk_below HZk.out hb1 (blk_lt HZk.out))
            have HG1 := Lib.hid (only_below HGk.out hb1)
            have HR1 := Lib.hid (HRk.out.below hb1)
            clear hb1 HBk HQk HZk HGk HRk HP c1
            have z0 := blk_frozen HQ1.out 0
            have z1 := blk_frozen HQ1.out 1
            have d0 := blk_cell HQ1.out 0
            have d1 := blk_cell HQ1.out 1
            have lz := blk_lt HQ1.out
            go_wp2_with fail
            have s0 := blk_set HQ1.out 0 (.slice none 0 0)
            have s1 := blk_set s0 1 (.slice none 0 0)
            have hbW := (HB1.out.setCell (p := ⟨w.heap.size, 0, none⟩) (by simp) (.slice none 0 0)).setCell (p := ⟨w.heap.size, 1, none⟩) (by simp) (.slice none 0 0)
            generalize (World.setCell (World.setCell w1 ⟨w.heap.size, 0, none⟩ (.slice none 0 0)) ⟨w.heap.size, 1, none⟩ (.slice none 0 0)) = W at s1 hbW ⊢
            have k0 := blk_cell s1 0
            have k1 := blk_cell s1 1
            refine bodyPost_ret (v := .tuple #[.agg #[.slice none 0 0, .slice none 0 0], .bool false]) ?_ rfl ⟨.inr ⟨by rw [HE.out]; rfl, rfl⟩, hbW⟩
            simp [results, Tryd.results47, go_sem, k0, k1]
          · have HG4 := Lib.hid (show goS q ((ws.map (·.data.toList)).drop (k + 1)) false (xs ++ [z]) ys = goS q (cutAt 32 s.data.toList) false [] [] from HGO.out)
            clear HGO
            go_wp2_with fail
            (with_reducible refine (HP.out _).mono ?_)
            rintro e w1 ⟨rfl, hb1⟩
            have HB1 := Lib.hid (HBk.out.trans (hb1.mono HBk.out.size))
            have HQ1 := Lib.hid (blk_below HQk.out hb1 (blk_lt HQk.out))
            have HZ1 := Lib.hid (blk_below HZk.out hb1 (blk_lt HZk.out))
            have HG1 := Lib.hid (only_below HGk.out hb1)
            have HR1 := Lib.hid (HRk.out.below hb1)
            clear hb1 HBk HQk HZk HGk HRk HP c1
            obtain ⟨h1, ⟨_, rfl, rfl⟩ | ⟨h, _⟩⟩ := HR1.out
            · have HO1 := Lib.hid h1
              have HL5 := Lib.hid HG1.out.size
              clear h1 HR1 HB1
              have z0 := blk_frozen HZ1.out 0
              have d0 := blk_cell HZ1.out 0
              have lz := blk_lt HZ1.out
              go_wp2_with (at_builtin; refine wpList_append_own _ rfl _ _ 44 rfl w3.heap.size 2 i0 (.int .i64 0) 1 8 Tryd.underlying44 HI.out.1 HI.out.2.1 HI.out.2.2.1 HI.out.2.2.2 rfl (by decide) _ _ _ rfl (HO1.out.alloc _) ⟨w1.heap.size, 0, none⟩ 1 1 [.int .i64 z] rfl rfl ?c1 ?c2 ?c3 ?c4 ?c5 ?_)
              case c1 =>
                intro j u hj
                match j, hj with
                | 0, hj => simp at hj; subst hj; simp [Addr.add]
              case c2 => intro u hu; simp at hu; subst hu; rfl
              case c3 => unfold maxLen; omega
              case c4 => omega
              case c5 => have := HL5.out; simp; omega
              intro v' w2 hown' hgrow _
              obtain ⟨A', p', rfl⟩ := own_slice hown'
              have HG2 := Lib.hid (only_own (only_alloc HG1.out _) (HO1.out.alloc _) (Nat.le_refl _) hgrow)
              have hne : ∀ g, g < w3.heap.size → some g ≠ v1.ownBlock := fun g hg e => by have h1 := (HO1.out.lt g e.symm).1; have h2 : w3.heap.size ≤ w3.heap.size := (Nat.le_refl _); omega
              have HZ2 := Lib.hid (blk_grown (blk_alloc HZ1.out _) hgrow (hne _ HL3.out))
              have HQ2 := Lib.hid (blk_grown (blk_alloc HQ1.out _) hgrow (hne _ (Nat.lt_of_succ_lt HL3.out)))
              have HR2 := Lib.hid (show RowsAt w3.heap.size w2 false (.slice A' (xs.length + 1) p') (.slice none 0 0) (xs ++ [z]) [] 2 from ⟨by simpa using hown', .inl ⟨rfl, rfl, rfl⟩⟩)
              clear hown' hgrow hne z0 d0 lz HZ1 HQ1 HG1 HO1
              have z0 := blk_frozen HZ2.out 0
              have d0 := blk_cell HZ2.out 0
              have lz := blk_lt HZ2.out
              go_wp2_with fail
              go_roundw
              case rel => exact ⟨k + 1, false, xs ++ [z], [], _, .slice none 0 0, by omega, by go_num, rfl, by simp; omega, by simp, HG4, Lib.hid (blk_far HQ2.out (by simp) _), Lib.hid (blk_set HZ2.out 0 _), Lib.hid (HR2.out.far HL3.out _), Lib.hid (only_setCell HG2.out (.inl rfl) _)⟩
              case measure => simp [intOf]; omega
            · cases h
        · have hb : (x.toList == [62]) = false := by rw [Go.ByteArray.toList_eq, beq_eq_false_iff_ne]; exact h62
          have hgo := HST.out
          simp only [goS] at hgo
          rw [if_neg (by simp [h62])] at hgo
          unfold GivesParse at HP
          generalize parseS x.data.toList q = p at HP hgo
          obtain ⟨z, f⟩ := p
          dsimp only at HP hgo
          have HGO := Lib.hid hgo
          clear hgo HST h62
          cases f
          · have HE := Lib.hid (show exS s.data.toList q = exNone from HN.out HGO.out.symm)
            clear HGO
            go_wp2_with fail
            (with_reducible refine (HP.out _).mono ?_)
            rintro e w1 ⟨rfl, hb1⟩
            have HB1 := Lib.hid (HBk.out.trans (hb1.mono HBk.out.size))
            have HQ1 := Lib.hid (blk_below HQk.out hb1 (blk_lt HQk.out))
            have HZ1 := Lib.hid (blk_below HZk.out hb1 (blk_lt HZk.out))
            have HG1 := Lib.hid (only_below HGk.out hb1)
            have HR1 := Lib.hid (HRk.out.below hb1)
            clear hb1 HBk HQk HZk HGk HRk HP c1
            have z0 := blk_frozen HQ1.out 0
            have z1 := blk_frozen HQ1.out 1
            have d0 := blk_cell HQ1.out 0
            have d1 := blk_cell HQ1.out 1
            have lz := blk_lt HQ1.out
            go_wp2_with fail
            have s0 := blk_set HQ1.out 0 (.slice none 0 0)
            have s1 := blk_set s0 1 (.slice none 0 0)
            have hbW := (HB1.out.setCell (p := ⟨w.heap.size, 0, none⟩) (by simp) (.slice none 0 0)).setCell (p := ⟨w.heap.size, 1, none⟩) (by simp) (.slice none 0 0)
            generalize (World.setCell (World.setCell w1 ⟨w.heap.size, 0, none⟩ (.slice none 0 0)) ⟨w.heap.size, 1, none⟩ (.slice none 0 0)) = W at s1 hbW ⊢
            have k0 := blk_cell s1 0
            have k1 := blk_cell s1 1
            refine bodyPost_ret (v := .tuple #[.agg #[.slice none 0 0, .slice none 0 0], .bool false]) ?_ rfl ⟨.inr ⟨by rw [HE.out]; rfl, rfl⟩, hbW⟩
            simp [results, Tryd.results47, go_sem, k0, k1]
          · have HG4 := Lib.hid (show goS q ((ws.map (·.data.toList)).drop (k + 1)) true xs (ys ++ [z]) = goS q (cutAt 32 s.data.toList) false [] [] from HGO.out)
            clear HGO
            go_wp2_with fail
            (with_reducible refine (HP.out _).mono ?_)
            rintro e w1 ⟨rfl, hb1⟩
            have HB1 := Lib.hid (HBk.out.trans (hb1.mono HBk.out.size))
            have HQ1 := Lib.hid (blk_below HQk.out hb1 (blk_lt HQk.out))
            have HZ1 := Lib.hid (blk_below HZk.out hb1 (blk_lt HZk.out))
            have HG1 := Lib.hid (only_below HGk.out hb1)
            have HR1 := Lib.hid (HRk.out.below hb1)
            clear hb1 HBk HQk HZk HGk HRk HP c1
            obtain ⟨h1, ⟨h, _⟩ | ⟨_, b2, hb2, hb3, hb4, h6⟩⟩ := HR1.out
            · cases h
            · have HO1 := Lib.hid h6
              have HOX := Lib.hid h1
              have HL5 := Lib.hid hb2
              have HL6 := Lib.hid hb3
              have HL7 := Lib.hid hb4
              clear h1 h6 HR1 HB1 hb2 hb3 hb4
              have z0 := blk_frozen HZ1.out 1
              have d0 := blk_cell HZ1.out 1
              have lz := blk_lt HZ1.out
              go_wp2_with (at_builtin; refine wpList_append_own _ rfl _ _ 44 rfl b2 2 i0 (.int .i64 0) 1 8 Tryd.underlying44 HI.out.1 HI.out.2.1 HI.out.2.2.1 HI.out.2.2.2 rfl (by decide) _ _ _ rfl (HO1.out.alloc _) ⟨w1.heap.size, 0, none⟩ 1 1 [.int .i64 z] rfl rfl ?c1 ?c2 ?c3 ?c4 ?c5 ?_)
              case c1 =>
                intro j u hj
                match j, hj with
                | 0, hj => simp at hj; subst hj; simp [Addr.add]
              case c2 => intro u hu; simp at hu; subst hu; rfl
              case c3 => unfold maxLen; omega
              case c4 => omega
              case c5 => have := HL5.out; simp; omega
              intro v' w2 hown' hgrow _
              obtain ⟨A', p', rfl⟩ := own_slice hown'
              have HG2 := Lib.hid (only_own (only_alloc HG1.out _) (HO1.out.alloc _) HL6.out hgrow)
              have hne : ∀ g, g < w3.heap.size → some g ≠ v2.ownBlock := fun g hg e => by have h1 := (HO1.out.lt g e.symm).1; have h2 : w3.heap.size ≤ b2 := HL6.out; omega
              have HZ2 := Lib.hid (blk_grown (blk_alloc HZ1.out _) hgrow (hne _ HL3.out))
              have HQ2 := Lib.hid (blk_grown (blk_alloc HQ1.out _) hgrow (hne _ (Nat.lt_of_succ_lt HL3.out)))
              have HR2 := Lib.hid (show RowsAt w3.heap.size w2 true v1 (.slice A' (ys.length + 1) p') xs (ys ++ [z]) 2 from ⟨(HOX.out.alloc _).kept hgrow (by
                  cases hv : v1.ownBlock with
                  | none => exact .inl rfl
                  | some k1 => exact .inr fun e => by have h2 := HL7.out k1 hv; have h3 := (HO1.out.lt k1 e.symm).1; omega), .inr ⟨rfl, b2, Nat.le_trans HL5.out (Nat.le_trans (by simp) hgrow.size), HL6.out, HL7.out, by simpa using hown'⟩⟩)
              clear hown' hgrow hne z0 d0 lz HZ1 HQ1 HG1 HO1
              have z0 := blk_frozen HZ2.out 1
              have d0 := blk_cell HZ2.out 1
              have lz := blk_lt HZ2.out
              go_wp2_with fail
              go_roundw
              case rel => exact ⟨k + 1, true, xs, ys ++ [z], v1, _, by omega, by go_num, rfl, by omega, by simp; omega, HG4, Lib.hid (blk_far HQ2.out (by simp) _), Lib.hid (blk_set HZ2.out 1 _), Lib.hid (HR2.out.far HL3.out _), Lib.hid (only_setCell HG2.out (.inl rfl) _)⟩
              case measure => simp [intOf]; omega
    · have hke : k = ws.length := by omega
      subst hke
      have hgo := HGO.out
      rw [List.drop_of_length_le (by simp)] at hgo
      simp only [goS] at hgo
      have HG4 := Lib.hid hgo.symm
      have h1 := HRk.out.1
      obtain ⟨b2, hb2, h6⟩ := HRk.out.both
      obtain ⟨A1, p1, rfl⟩ := own_slice h1
      obtain ⟨A2, p2, rfl⟩ := own_slice h6
      have HX1 := Lib.hid h1
      have HY1 := Lib.hid h6
      have HL6 := Lib.hid hb2
      have HC := Lib.hid (show RdX wr wr.heap.size ⟨A1, xs, p1, A2, ys, p2⟩ from ⟨rd_of_own h1, rd_of_own h6, own_cap h1, own_cap h6, by show xs.length ≤ _; omega, by show ys.length ≤ _; omega⟩)
      clear hgo HGO HRk HGk h1 h6 hb2
      have c0 := blk_cell HZk.out 0
      have c1 := blk_cell HZk.out 1
      by_cases hq : 0 ≤ q ∧ q ≤ 62
      · obtain ⟨n, rfl⟩ := Int.eq_ofNat_of_zero_le hq.1
        have hn : n ≤ 62 := by omega
        obtain ⟨hin, hf1, hf2⟩ := HSM.out xs ys n hn rfl HG4.out
        have RT := refText10_yes ⟨A1, xs, p1, A2, ys, p2⟩ n hn hin (by show xs.length ≤ _ ∧ ys.length ≤ _; omega) wr HC.out
        unfold Ex.val at RT
        dsimp only at RT
        by_cases hz : 0 < xs.length ∧ 0 < ys.length
        · have hf3 := hf2 hz
          rw [show exTextS xs ys n = (exText xs ys n, true) by unfold exTextS; rw [if_pos hz]] at RT
          obtain ⟨T, hT⟩ : ∃ T : ByteArray, ⟨(exText xs ys n).toArray⟩ = T := ⟨_, rfl⟩
          have hTd : T.data.toList = exText xs ys n := by rw [← hT]
          dsimp only at RT
          rw [hT] at RT
          have HRT := Lib.hid RT
          by_cases he : T.data.toList = s.data.toList
          · have HE := Lib.hid (hf3.1 (by rw [← hTd]; exact he))
            have hbe : (T.toList == s.toList) = true := by rw [Go.ByteArray.toList_eq, Go.ByteArray.toList_eq]; simp [he]
            clear RT hT hTd hf1 hf2 hf3 hin he hz hq hn HSM
            go_wp2_with fail
            (with_reducible refine HRT.out.mono ?_)
            rintro e w5 ⟨rfl, hb5⟩
            have HB5 := Lib.hid (HBk.out.trans (hb5.mono HBk.out.size))
            have HQ5 := Lib.hid (blk_below HQk.out hb5 (blk_lt HQk.out))
            have HZ5 := Lib.hid (blk_below HZk.out hb5 (blk_lt HZk.out))
            have HX5 := Lib.hid (own_below HX1.out hb5)
            have HY5 := Lib.hid (own_below HY1.out hb5)
            clear hb5 HBk HQk HZk HRT HX1 HY1 HC c0 c1
            have c0 := blk_cell HZ5.out 0
            have c1 := blk_cell HZ5.out 1
            have z0 := blk_frozen HQ5.out 0
            have z1 := blk_frozen HQ5.out 1
            have d0 := blk_cell HQ5.out 0
            have d1 := blk_cell HQ5.out 1
            have lz := blk_lt HQ5.out
            go_wp2_with fail
            have s0 := blk_set HQ5.out 0 (.slice A1 xs.length p1)
            have s1 := blk_set s0 1 (.slice A2 ys.length p2)
            have hbW := (HB5.out.setCell (p := ⟨w.heap.size, 0, none⟩) (by simp) (.slice A1 xs.length p1)).setCell (p := ⟨w.heap.size, 1, none⟩) (by simp) (.slice A2 ys.length p2)
            have o1 := own_far (own_far HX5.out (p := ⟨w.heap.size, 0, none⟩) (Nat.lt_of_succ_lt HL3.out) (.slice A1 xs.length p1)) (p := ⟨w.heap.size, 1, none⟩) (Nat.lt_of_succ_lt HL3.out) (.slice A2 ys.length p2)
            have o2 := own_far (own_far HY5.out (p := ⟨w.heap.size, 0, none⟩) (Nat.lt_of_lt_of_le (Nat.lt_of_succ_lt HL3.out) HL6.out) (.slice A1 xs.length p1)) (p := ⟨w.heap.size, 1, none⟩) (Nat.lt_of_lt_of_le (Nat.lt_of_succ_lt HL3.out) HL6.out) (.slice A2 ys.length p2)
            generalize (World.setCell (World.setCell w5 ⟨w.heap.size, 0, none⟩ (.slice A1 xs.length p1)) ⟨w.heap.size, 1, none⟩ (.slice A2 ys.length p2)) = W at s1 hbW o1 o2 ⊢
            have k0 := blk_cell s1 0
            have k1 := blk_cell s1 1
            have e1 : xs.length ≤ 9223372036854775807 := by omega
            have e2 : ys.length ≤ 9223372036854775807 := by omega
            refine bodyPost_ret (v := .tuple #[.agg #[.slice A1 xs.length p1, .slice A2 ys.length p2], .bool true]) ?_ rfl ⟨.inl ⟨by rw [HE.out], ⟨A1, xs, p1, A2, ys, p2⟩, rfl, by rw [HE.out], by rw [HE.out], rd_of_own o1, rd_of_own o2, own_cap o1, own_cap o2, e1, e2⟩, hbW⟩
            simp [results, Tryd.results47, go_sem, k0, k1]
          · have HE := Lib.hid (hf3.2 (by rw [← hTd]; exact he))
            have hbe : (T.toList == s.toList) = false := by rw [Go.ByteArray.toList_eq, Go.ByteArray.toList_eq, beq_eq_false_iff_ne]; exact he
            clear RT hT hTd hf1 hf2 hf3 hin he hz hq hn HSM
            go_wp2_with fail
            (with_reducible refine HRT.out.mono ?_)
            rintro e w5 ⟨rfl, hb5⟩
            have HB5 := Lib.hid (HBk.out.trans (hb5.mono HBk.out.size))
            have HQ5 := Lib.hid (blk_below HQk.out hb5 (blk_lt HQk.out))
            clear hb5 HBk HQk HZk HRT HX1 HY1 HC c0 c1
            have z0 := blk_frozen HQ5.out 0
            have z1 := blk_frozen HQ5.out 1
            have d0 := blk_cell HQ5.out 0
            have d1 := blk_cell HQ5.out 1
            have lz := blk_lt HQ5.out
            go_wp2_with fail
            have s0 := blk_set HQ5.out 0 (.slice none 0 0)
            have s1 := blk_set s0 1 (.slice none 0 0)
            have hbW := (HB5.out.setCell (p := ⟨w.heap.size, 0, none⟩) (by simp) (.slice none 0 0)).setCell (p := ⟨w.heap.size, 1, none⟩) (by simp) (.slice none 0 0)
            generalize (World.setCell (World.setCell w5 ⟨w.heap.size, 0, none⟩ (.slice none 0 0)) ⟨w.heap.size, 1, none⟩ (.slice none 0 0)) = W at s1 hbW ⊢
            have k0 := blk_cell s1 0
            have k1 := blk_cell s1 1
            refine bodyPost_ret (v := .tuple #[.agg #[.slice none 0 0, .slice none 0 0], .bool false]) ?_ rfl ⟨.inr ⟨by rw [HE.out]; rfl, rfl⟩, hbW⟩
            simp [results, Tryd.results47, go_sem, k0, k1]
        · have HE := Lib.hid (hf1 hz)
          rw [show exTextS xs ys n = ([], false) by unfold exTextS; rw [if_neg hz]] at RT
          have HRT := Lib.hid RT
          clear RT hf1 hf2 hin hz hq hn HSM
          go_wp2_with fail
          (with_reducible refine HRT.out.mono ?_)
          rintro e w5 ⟨rfl, hb5⟩
          have HB5 := Lib.hid (HBk.out.trans (hb5.mono HBk.out.size))
          have HQ5 := Lib.hid (blk_below HQk.out hb5 (blk_lt HQk.out))
          clear hb5 HBk HQk HZk HRT HX1 HY1 HC c0 c1
          have z0 := blk_frozen HQ5.out 0
          have z1 := blk_frozen HQ5.out 1
          have d0 := blk_cell HQ5.out 0
          have d1 := blk_cell HQ5.out 1
          have lz := blk_lt HQ5.out
          go_wp2_with fail
          have s0 := blk_set HQ5.out 0 (.slice none 0 0)
          have s1 := blk_set s0 1 (.slice none 0 0)
          have hbW := (HB5.out.setCell (p := ⟨w.heap.size, 0, none⟩) (by simp) (.slice none 0 0)).setCell (p := ⟨w.heap.size, 1, none⟩) (by simp) (.slice none 0 0)
          generalize (World.setCell (World.setCell w5 ⟨w.heap.size, 0, none⟩ (.slice none 0 0)) ⟨w.heap.size, 1, none⟩ (.slice none 0 0)) = W at s1 hbW ⊢
          have k0 := blk_cell s1 0
          have k1 := blk_cell s1 1
          refine bodyPost_ret (v := .tuple #[.agg #[.slice none 0 0, .slice none 0 0], .bool false]) ?_ rfl ⟨.inr ⟨by rw [HE.out]; rfl, rfl⟩, hbW⟩
          simp [results, Tryd.results47, go_sem, k0, k1]
      · have HE := Lib.hid (show exS s.data.toList q = exNone from HSO.out hq)
        have RT := refText10_no ⟨A1, xs, p1, A2, ys, p2⟩ q hq wr
        unfold Ex.val at RT
        dsimp only at RT
        have HRT := Lib.hid RT
        clear RT hq HSM
        go_wp2_with fail
        (with_reducible refine HRT.out.mono ?_)
        rintro e w5 ⟨rfl, hb5⟩
        have HB5 := Lib.hid (HBk.out.trans (hb5.mono HBk.out.size))
        have HQ5 := Lib.hid (blk_below HQk.out hb5 (blk_lt HQk.out))
        clear hb5 HBk HQk HZk HRT HX1 HY1 HC c0 c1
        have z0 := blk_frozen HQ5.out 0
        have z1 := blk_frozen HQ5.out 1
        have d0 := blk_cell HQ5.out 0
        have d1 := blk_cell HQ5.out 1
        have lz := blk_lt HQ5.out
        go_wp2_with fail
        have s0 := blk_set HQ5.out 0 (.slice none 0 0)
        have s1 := blk_set s0 1 (.slice none 0 0)
        have hbW := (HB5.out.setCell (p := ⟨w.heap.size, 0, none⟩) (by simp) (.slice none 0 0)).setCell (p := ⟨w.heap.size, 1, none⟩) (by simp) (.slice none 0 0)
        generalize (World.setCell (World.setCell w5 ⟨w.heap.size, 0, none⟩ (.slice none 0 0)) ⟨w.heap.size, 1, none⟩ (.slice none 0 0)) = W at s1 hbW ⊢
        have k0 := blk_cell s1 0
        have k1 := blk_cell s1 1
        refine bodyPost_ret (v := .tuple #[.agg #[.slice none 0 0, .slice none 0 0], .bool false]) ?_ rfl ⟨.inr ⟨by rw [HE.out]; rfl, rfl⟩, hbW⟩
        simp [results, Tryd.results47, go_sem, k0, k1]

end Go.Proofs.YtajilipbnfpemaaDoor
