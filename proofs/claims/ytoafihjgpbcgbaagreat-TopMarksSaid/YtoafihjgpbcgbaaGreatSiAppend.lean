/- The interpreter's append is sound. Conditions: none. -/
import Derived.Test.YtoafihjgpbcgbaaGreatSiGrow
namespace Go.Proofs.YtoafihjgpbcgbaaGreat.Si
noncomputable section
open Go.RowKit

theorem TypeOk.get {P : Program} {t : TypeId} {ti : TI} (h : TypeOk P t ti) : ∃ i z, P.info? t = some i ∧ i.size = ti.size ∧ i.bytes = ti.bytes ∧ i.zero = some z ∧ z.cells.size = ti.size := by
  obtain ⟨z, h1, h2⟩ := h.info
  have h3 := concL_len (absCs_conc (fun _ => none) _ _ h2)
  rw [h.len] at h3
  cases hq : P.info? t with
  | none => rw [hq] at h1; cases h1
  | some i =>
    rw [hq] at h1
    simp only [Option.map_some, Option.some.injEq, Prod.mk.injEq] at h1
    exact ⟨i, z, rfl, h1.1, h1.2.1, h1.2.2, by simpa using h3⟩

section
variable {P : Program} {φ : Phi} {B : Nat} {w0 w : World} {s s' : St}

/-- The old elements and the new ones go into a new row. -/
theorem append_grow {t tx ty e : TypeId} {te : TI} (ht : P.underlying t = some (.slice e)) (he : TypeOk P e te) (hs : Stands B w0 φ s w) (hr : s.next < 2 ^ dep)
    {base : Option Addr} {len c n : Nat} {olds us : List Value} {lo l : List AV} (hlo : concL φ lo = some olds) (hl : concL φ l = some us) (hlen : olds.length = len * te.size)
    (hold : (Builtin.firstCells te.size len (.slice base len c)).run P w.drew = .ok olds.toArray w.drew) {v : Value} (hsrc : Src P te.size tx v n us w) (hc : c < len + n) (hb : (len + n) * te.bytes ≤ 140737488355328) (hm : len + n ≤ 1048576) :
    ∃ φ' w' q, (Builtin.append_ #[t, tx] ty #[.slice base len c, v]).run P w = .ok q w' ∧ Eff B w0 φ φ' s (s.new (.cells (lo ++ l) e)) w' ∧ conc φ' (.sl s.next 0 (len + n) (len + n) false te.size) = some q := by
  obtain ⟨i, z, hi, e1, e2, hz, hzs⟩ := he.get
  have hn := hsrc.newsLen
  obtain ⟨k1, k2⟩ := grow_ok he hs hr (concL_append hlo hl) (need := len + n) (by rw [List.length_append, hlen, hn, Nat.add_mul]) (g := grownCap w (len + n) c e) (grownCap_ge _ _ _ _) hzs
  refine ⟨_, _, _, ?_, k1, k2⟩
  rw [← e1] at hold hsrc
  have := run_append_grow_src w t tx ty e i z ht hi hz base len c olds hold v n us hsrc hc (by omega) (growslice_fits hc (by rw [e2]; exact hb))
  exact this

theorem append_ok {T : TT} (hT : TypesOk P T) (hs : Stands B w0 φ s w) {t tx ty : TypeId} {x y r : AV} (h : appendA T s t tx x y = some (r, s')) {u v : Value} (hx : conc φ x = some u) (hy : conc φ y = some v) :
    ∃ φ' w' q, (Builtin.append_ #[t, tx] ty #[u, v]).run P w = .ok q w' ∧ Eff B w0 φ φ' s s' w' ∧ conc φ' r = some q := by
  unfold appendA at h
  split at h
  · rename_i e hl
    simp only [Option.bind_eq_some_iff] at h
    obtain ⟨te, hte, ⟨n, l⟩, hsrc, h⟩ := h
    dsimp only at h
    obtain ⟨d, ht, _, hk⟩ := (hT.at hl).kind
    dsimp only at hk
    subst hk
    have he := hT.at hte
    obtain ⟨i, z, hi, e1, e2, hz, hzs⟩ := he.get
    obtain ⟨us, k1, k2, k3⟩ := src_ok hT hs hsrc hy
    unfold growA at h
    split at h
    · -- the first argument is nil
      injection hx with hx
      subst hx
      split at h
      · rename_i h0
        subst h0
        obtain rfl : us = [] := List.eq_nil_of_length_eq_zero (by simpa using k2)
        obtain ⟨rfl, rfl⟩ : AV.snil = r ∧ s = s' := by simpa using h
        rw [← e1] at k3
        exact ⟨φ, w, _, run_append_nothing w t tx ty e i ht hi none 0 0 (Nat.le_refl _) v k3, Eff.refl hs, rfl⟩
      · rename_i h0
        split at h
        · rename_i hb
          obtain ⟨rfl, rfl⟩ : AV.sl s.next 0 n n false te.size = r ∧ s.new (.cells l e) = s' := by simpa using h
          have := append_grow (ty := ty) ht he hs hb.2.2 (base := none) (len := 0) (c := 0) (lo := []) (olds := []) rfl k1 (by simp) (run_firstCells_none w.drew _ 0 0 0) k3 (by omega) (by rw [Nat.zero_add]; exact hb.1) (by omega)
          simpa using this
        · cases h
    · rename_i id off len cap ex es
      obtain ⟨L, c, hL, rfl, hcap, hcc⟩ := conc_sl hx
      split at h
      · rename_i hes
        obtain ⟨rfl, hlc⟩ := hes
        split at h
        · rename_i h0
          subst h0
          obtain rfl : us = [] := List.eq_nil_of_length_eq_zero (by simpa using k2)
          obtain ⟨rfl, rfl⟩ : AV.sl id off len cap ex te.size = r ∧ s = s' := by simpa using h
          rw [← e1] at k3
          exact ⟨φ, w, _, run_append_nothing w t tx ty e i ht hi _ len c (by omega) v k3, Eff.refl hs, hx⟩
        · split at h
          · rename_i h0 hroom
            simp only [Option.map_eq_some_iff] at h
            obtain ⟨s1, hw, h⟩ := h
            obtain ⟨rfl, rfl⟩ : AV.sl id off (len + n) cap ex te.size = r ∧ s1 = s' := by simpa using h
            obtain ⟨m1, m2, m3, m4⟩ := hs.write hL hw k1
            rw [← e1] at k3
            have := run_append_room_src w t tx ty e i ht hi L.blk (L.base + off) len c v n us k3 (by omega) (fun j hj => by rw [e1, Nat.add_assoc L.base]; exact (m2 j hj).1) (fun j hj => by rw [e1, Nat.add_assoc L.base]; exact (m2 j hj).2)
            refine ⟨φ, _, _, this, ⟨φ.le_refl, ?_, by omega, fun j hj hjn => ⟨hjn, m4 j (Nat.lt_of_lt_of_le hj hs.room) hjn⟩⟩, ?_⟩
            · rw [e1, Nat.add_assoc L.base]
              exact m1
            · simp only [conc, hL, Option.bind_some]
              rw [← hcc, if_pos hcap]
          · rename_i h0 hroom
            split at h
            · rename_i hb
              simp only [Option.bind_eq_some_iff] at h
              obtain ⟨lo, hlo, h⟩ := h
              obtain ⟨olds, o1, o2, o3, o4⟩ := read_ok hs hL hlo
              have hold : (Builtin.firstCells te.size len (.slice (some ⟨L.blk, L.base + off, none⟩) len c)).run P w.drew = .ok olds.toArray w.drew :=
                run_firstCells_some w.drew te.size len _ len c olds o2 fun j u hj => by rw [Addr.add_mid]; simpa using o4 j u hj
              cases hex : ex with
              | true =>
                rw [hex] at h hcc
                obtain ⟨rfl, rfl⟩ : AV.sl s.next 0 (len + n) (len + n) false te.size = r ∧ s.new (.cells (lo ++ l) e) = s' := by simpa using h
                simp only [if_true] at hcc
                exact append_grow ht he hs hb.2.2 o1 k1 o2 hold k3 (by omega) hb.1 hb.2.1
              | false =>
                rw [hex] at h hcc
                simp only [cond_false] at h
                simp only [Bool.false_eq_true, if_false] at hcc
                split at h
                · rename_i cs ct hg
                  split at h
                  · rename_i hct
                    subst hct
                    obtain ⟨rfl, rfl⟩ : AV.sl s.next 0 (len + n) (len + n) false te.size = r ∧ (s.put id none).new (.cells (lo ++ l) ct) = s' := by simpa using h
                    have hid := hs.lt hL
                    have hnn := hs.none_next
                    have hne : id ≠ s.next := fun e => by rw [e, hnn] at hL; cases hL
                    -- the state without the old object
                    have hs1 : Stands B w0 φ (s.put id none) w := ⟨hs.below, hs.size, hs.room, hs.dom, fun i M o hM ho => by
                      rw [St.get_put hid (hs.lt hM)] at ho
                      split at ho
                      · cases ho
                      · exact hs.lies i M o hM ho, fun i j M N o p hM hN ho hp he => by
                      rw [St.get_put hid (hs.lt hM)] at ho
                      rw [St.get_put hid (hs.lt hN)] at hp
                      split at ho
                      · cases ho
                      · split at hp
                        · cases hp
                        · exact hs.apart i j M N o p hM hN ho hp he⟩
                    by_cases hcr : c < len + n
                    · obtain ⟨φ', w', q, r1, r2, r3⟩ := append_grow (ty := ty) ht he hs1 hb.2.2 o1 k1 o2 hold k3 hcr hb.1 hb.2.1
                      refine ⟨φ', w', q, r1, ⟨r2.le, r2.stands, r2.next, fun j hj hjn => ?_⟩, r3⟩
                      obtain ⟨a1, a2⟩ := r2.kept j hj hjn
                      refine ⟨a1, a2.trans ?_⟩
                      rw [St.get_put hid (Nat.lt_of_lt_of_le hj hs.room), if_neg (fun e => by subst e; rw [hL] at hjn; cases hjn)]
                    · obtain ⟨C, vs, h1, h2, h3, h4, h5⟩ := hs.lies id L _ hL hg
                      have hmul : (len + n) * te.size ≤ L.size - off := by
                        have : len + n ≤ (L.size - off) / te.size := by omega
                        exact Nat.le_trans (Nat.mul_le_mul_right _ this) (Nat.div_mul_le_self _ _)
                      rw [Nat.add_mul] at hmul
                      have hcell : ∀ j, j < us.length → (w.cell? ⟨L.blk, L.base + off + len * te.size + j, none⟩).isSome = true ∧ w.frozen? ⟨L.blk, L.base + off + len * te.size + j, none⟩ = false := fun j hj => by
                        refine ⟨?_, by simp [World.frozen?, h1]⟩
                        rw [cell_of_row w L.blk _ C ct (0, 0) h1, Array.getElem?_eq_getElem (by omega)]
                        rfl
                      rw [← e1] at k3
                      have hrun := run_append_room_src w t tx ty ct i ht hi L.blk (L.base + off) len c v n us k3 (by omega) (fun j hj => by rw [e1]; exact (hcell j hj).1) (fun j hj => by rw [e1]; exact (hcell j hj).2)
                      rw [e1] at hrun
                      have hdom := hs.dom id L hL
                      have hup : ∀ i M, (φ.up s.next ⟨L.blk, L.base + off, L.size - off⟩) i = some M → (i = s.next ∧ M = ⟨L.blk, L.base + off, L.size - off⟩) ∨ (i ≠ s.next ∧ φ i = some M) := fun i M hM => by
                        unfold Phi.up at hM
                        split at hM
                        · rename_i e
                          exact .inl ⟨e, by injection hM with hM; exact hM.symm⟩
                        · rename_i e
                          exact .inr ⟨e, hM⟩
                      have hget : ∀ i o, i ≠ s.next → i < 2 ^ dep → ((s.put id none).new (.cells (lo ++ l) ct)).get i = some o → i ≠ id ∧ s.get i = some o := fun i o hi hi2 ho => by
                        rw [St.get_new (show (s.put id none).next < 2 ^ dep from hb.2.2) hi2, if_neg (show ¬ i = (s.put id none).next from hi), St.get_put hid hi2] at ho
                        split at ho
                        · cases ho
                        · rename_i e
                          exact ⟨e, ho⟩
                      have hself : ((s.put id none).new (.cells (lo ++ l) ct)).get s.next = some (.cells (lo ++ l) ct) := by
                        rw [St.get_new (show (s.put id none).next < 2 ^ dep from hb.2.2) hb.2.2, if_pos (show s.next = (s.put id none).next from rfl)]
                      have hnx : ((s.put id none).new (.cells (lo ++ l) ct)).next = s.next + 1 := rfl
                      refine ⟨φ.up s.next ⟨L.blk, L.base + off, L.size - off⟩, _, _, hrun, ⟨Phi.up_le hnn _, ⟨below_setCells hdom.2.1 us _ w0 w hs.below, by rw [size_setCells]; exact hs.size, hb.2.2, fun i M hM => ?_, fun i M o hM ho => ?_, fun i j M N o p hM hN ho hp heq => ?_⟩, by omega, fun j hj hjn => ⟨?_, ?_⟩⟩, ?_⟩
                      · rw [size_setCells, hnx]
                        rcases hup i M hM with ⟨rfl, rfl⟩ | ⟨_, hM⟩
                        · exact ⟨by omega, hdom.2⟩
                        · have := hs.dom i M hM
                          exact ⟨by omega, this.2⟩
                      · rcases hup i M hM with ⟨rfl, rfl⟩ | ⟨hi, hM⟩
                        · rw [hself] at ho
                          injection ho with ho
                          subst ho
                          have hC : w.heap[L.blk]? = some (.cells C.toList.toArray ct (0, 0)) := by simpa using h1
                          refine ⟨_, olds ++ us, block_setCells L.blk us _ w C.toList ct (0, 0) hC, ?_, ?_, concL_mono (Phi.up_le hnn _) _ _ (concL_append o1 k1), fun j v hj => ?_⟩
                          · simp only [List.size_toArray, setV_len, Array.length_toList, h2]
                            omega
                          · rw [← concL_len (concL_append o1 k1), List.length_append, o2, k2]
                            exact hmul
                          · rw [List.getElem?_toArray, setV_at _ _ _ _ (by simp only [Array.length_toList]; omega)]
                            rcases Nat.lt_or_ge j (len * te.size) with hj1 | hj1
                            · rw [if_neg (by dsimp only; omega)]
                              rw [List.getElem?_append_left (by omega)] at hj
                              have := o4 j v hj
                              rw [cell_of_row w L.blk _ C ct (0, 0) h1] at this
                              simpa using this
                            · rw [List.getElem?_append_right (by omega), o2] at hj
                              have hjl : j - len * te.size < us.length := (List.getElem?_eq_some_iff.1 hj).1
                              rw [if_pos (by dsimp only; omega)]
                              dsimp only
                              rw [show L.base + off + j - (L.base + off + len * te.size) = j - len * te.size by omega]
                              exact hj
                        · obtain ⟨hne2, hg2⟩ := hget i o hi (hs.lt hM) ho
                          have hblk : M.blk ≠ L.blk := fun e => hne2 (hs.apart i id M L _ _ hM hL hg2 hg e)
                          exact ((hs.lies i M o hM hg2).heap (heap_setCells _ us _ w _ hblk)).mono (Phi.up_le hnn _)
                      · rcases hup i M hM with ⟨rfl, rfl⟩ | ⟨hi, hM⟩ <;> rcases hup j N hN with ⟨rfl, rfl⟩ | ⟨hj, hN⟩
                        · rfl
                        · obtain ⟨hne2, hg2⟩ := hget j p hj (hs.lt hN) hp
                          exact absurd (hs.apart j id N L _ _ hN hL hg2 hg heq.symm) hne2
                        · obtain ⟨hne2, hg2⟩ := hget i o hi (hs.lt hM) ho
                          exact absurd (hs.apart i id M L _ _ hM hL hg2 hg heq) hne2
                        · exact hs.apart i j M N o p hM hN (hget i o hi (hs.lt hM) ho).2 (hget j p hj (hs.lt hN) hp).2 heq
                      · unfold Phi.up
                        rw [if_neg (by omega)]
                        exact hjn
                      · have hj2 : j < 2 ^ dep := Nat.lt_of_lt_of_le hj hs.room
                        rw [St.get_new (show (s.put id none).next < 2 ^ dep from hb.2.2) hj2, if_neg (show ¬ j = (s.put id none).next from Nat.ne_of_lt hj), St.get_put hid hj2, if_neg (fun e => by subst e; rw [hL] at hjn; cases hjn)]
                      · simp only [conc, Phi.up_self, Option.bind_some, Bool.false_eq_true, if_false, Nat.sub_zero, Nat.add_zero]
                        rw [← hcc, if_pos (by omega)]
                  · cases h
                · cases h
            · cases h
      · cases h
    · cases h
  · cases h

end
end
end Go.Proofs.YtoafihjgpbcgbaaGreat.Si
