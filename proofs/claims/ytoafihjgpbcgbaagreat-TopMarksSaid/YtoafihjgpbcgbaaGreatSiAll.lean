/- The interpreter, whole: functions, rounds, jumps back to a label. Conditions: none. -/
import Derived.Test.YtoafihjgpbcgbaaGreatSiFun
import Derived.Test.YtoafihjgpbcgbaaGreatSiRange
import Derived.ScopeJumps
namespace Go.Proofs.YtoafihjgpbcgbaaGreat.Si
noncomputable section
open Go.RowKit

/-- A scope: code that jumps back to labels. -/
def scopeA (run : Code → List AV → St → Option (Ex × List AV × St)) (c : Code) : Nat → Code → List AV → St → Option (Ex × List AV × St)
  | 0, _, _, _ => none
  | m + 1, cur, ts, s => match run cur ts s with
    | some (.goto l, ts1, s1) => match findLabel c l with
      | some rest => scopeA run c m rest ts1 s1
      | none => none
    | r => r

/-- Jumps, at most m of them. -/
def Jumps (P : Program) (c : Code) (Q : Exit → Act → World → Prop) : Nat → Code → Act → World → Prop
  | 0, _, _, _ => False
  | m + 1, cur, a, w => cur.wp P (fun e a' w' => match e with
    | .goto l => ∃ rest, findLabel c l = some rest ∧ Jumps P c Q m rest a' w'
    | e => Q e a' w') a w

theorem wp_scope_fuel {P : Program} {c : Code} {Q : Exit → Act → World → Prop} {m : Nat} {a : Act} {w : World} (h : Jumps P c Q m c a w) : (Code.scope c).wp P Q a w := by
  intro b k cs
  have key : ∀ m cur a w, Jumps P c Q m cur a w → ∃ e a' w', Q e a' w' ∧ Arrives P (lone (b.at a (.code cur :: .inScope c :: k)) cs w) b k cs e a' w' := by
    intro m
    induction m with
    | zero => intro cur a w h; exact h.elim
    | succ m ih =>
      intro cur a w h
      obtain ⟨e, a₁, w₁, hq, harr⟩ := h b (.inScope c :: k) cs
      cases e with
      | normal => exact ⟨.normal, a₁, w₁, hq, Steps.trans harr (.one step_inScope)⟩
      | exit id => exact ⟨.exit id, a₁, w₁, hq, fun k' hk => harr k' (by simp [exitTo, hk])⟩
      | goto l =>
        obtain ⟨rest, hf, hJ⟩ := hq
        obtain ⟨e₂, a₂, w₂, hq₂, harr₂⟩ := ih rest a₁ w₁ hJ
        exact ⟨e₂, a₂, w₂, hq₂, .of_steps (harr _ (by simp [gotoIn, hf])) harr₂⟩
      | ret => exact ⟨_, a₁, w₁, hq, harr⟩
      | panic ch => exact ⟨_, a₁, w₁, hq, harr⟩
      | outgrown => exact ⟨_, a₁, w₁, hq, harr⟩
  obtain ⟨e₂, a₂, w₂, hq₂, harr₂⟩ := key m c a w h
  exact ⟨e₂, a₂, w₂, hq₂, .of_steps (.one step_scope) harr₂⟩

theorem scope_ok {n : Nat} {P : Program} {run : Code → List AV → St → Option (Ex × List AV × St)} (hx : ∀ c ts s e ts' s', run c ts s = some (e, ts', s') → Runs Fence.wide n P c ts s e ts' s') {c : Code} {m : Nat} {ts ts' : List AV} {s s' : St} {e : Ex} (h : scopeA run c m c ts s = some (e, ts', s')) :
    Runs Fence.wide n P (.scope c) ts s e ts' s' := by
  intro B w0 w φ a ha hs Q hQ
  refine wpIn_wide.2 (wp_scope_fuel (m := m) ?_)
  have key : ∀ m cur ts s w φ a, scopeA run c m cur ts s = some (e, ts', s') → Slots φ ts a → Stands B w0 φ s w → (∀ φ' w' a', Eff B w0 φ φ' s s' w' → Slots φ' ts' a' → a'.defers = a.defers → Q e.toExit a' w') → Jumps P c Q m cur a w := by
    intro m
    induction m with
    | zero => intro cur ts s w φ a h; simp [scopeA] at h
    | succ m ih =>
      intro cur ts s w φ a h ha hs hQ
      simp only [scopeA] at h
      refine (wpIn_wide (n := n)).1 ?_
      split at h
      · rename_i l ts1 s1 h1
        split at h
        · rename_i rest hf
          refine hx _ _ _ _ _ _ h1 B w0 w φ a ha hs _ fun φ1 w1 a1 hE1 ha1 hd1 => ?_
          exact ⟨rest, hf, ih rest ts1 s1 w1 φ1 a1 h ha1 hE1.stands fun φ2 w2 a2 hE2 ha2 hd2 => hQ φ2 w2 a2 (hE1.trans hE2) ha2 (hd2.trans hd1)⟩
        · cases h
      · rename_i hne
        refine hx _ _ _ _ _ _ h B w0 w φ a ha hs _ fun φ1 w1 a1 hE1 ha1 hd1 => ?_
        have := hQ φ1 w1 a1 hE1 ha1 hd1
        cases e with
        | normal => exact this
        | exit id => exact this
        | goto l => exact absurd h (hne l ts' s')
        | ret => exact this
  exact key m c ts s w φ a h ha hs hQ

/-- The functions: the code's own text, the regions' orders; does a range over a function stand in it? -/
abbrev FTabR := List (Nat × Func × List (Nat × RI) × Bool)
def FTabOk (P : Program) (FT : FTabR) : Prop := ∀ p ∈ FT, P.funcs[p.1]? = some p.2.1 ∧ ∀ qs w, (callFunc p.1 qs).run P w = .ok (.enter p.1 qs) w

def calAll (MT : List (Nat × String × Nat)) (E : Cal) (cf : CF) (yf : Nat → List AV → St → Option (AV × St)) : Cal := orCal E (orCal (calV cf) (orCal (calI cf MT) (calY yf)))

def runK (T : TT) (MT : List (Nat × String × Nat)) (FT : FTabR) (E : Cal) : Nat → Bool → Nat → List AV → St → Option (AV × St)
  | 0, _, _, _, _ => none
  | k + 1, true, id, args, s => yieldA (fun rno c ts s => match look FT rno with
      | some p => execA T (calAll MT E (runK T MT FT E k false) (runK T MT FT E k true)) (look p.2.1) (fun _ _ _ => none) k c ts s
      | none => none) id args s
  | k + 1, false, f, args, s => match look FT f with
    | none => none
    | some p => match p.1.body with
      | none => none
      | some c => match execB (runK T MT FT E k false) f (fun c ts s => execA T (calAll MT E (runK T MT FT E k false) (runK T MT FT E k true)) (look p.2.1) (fun c' ts s => match c' with
            | .scope c2 => scopeA (execA T (calAll MT E (runK T MT FT E k false) (runK T MT FT E k true)) (look p.2.1) (fun _ _ _ => none) k) c2 k c2 ts s
            | _ => none) k c ts s) c (args ++ List.replicate (p.1.ntmps - args.length) (.tup [])) s with
        | some (.normal, ts', s', ms) => (dropA ms s').bind fun s2 => (resA T s2 ts' p.1.results.toList).map fun rs => (oneOf rs, s2)
        | some (.ret, ts', s', ms) => (dropA ms s').bind fun s2 => (resA T s2 ts' p.1.results.toList).map fun rs => (oneOf rs, s2)
        | _ => none

section
variable {P : Program} {T : TT}

theorem calAll_ok {F : Fence} {n : Nat} {MT : List (Nat × String × Nat)} {E : Cal} {cf : CF} {yf : Nat → List AV → St → Option (AV × St)} (hM : MTOk P MT) (hE : CalOk F n P E) (hc : CallOk F P cf) (hy : YOk F P yf) (hF : ∀ f, F.fn f) (hD : F.depth = none) : CalOk F n P (calAll MT E cf yf) :=
  orCal_ok hE (orCal_ok (calV_ok hc hF hD) (orCal_ok (calI_ok hM hc hF hD) (calY_ok hy hF hD)))

theorem runK_ok (hT : TypesOk P T) {MT : List (Nat × String × Nat)} (hM : MTOk P MT) {FT : FTabR} (hFT : FTabOk P FT) {E : Cal} (hE : ∀ F, (F = Fence.wide ∨ ∃ l, F = Fence.wide.inRound l) → ∀ n, CalOk F n P E) (hm : P.follows .mixedOrders = true) :
    ∀ k, CallOk Fence.wide P (runK T MT FT E k false) ∧ YOk Fence.wide P (runK T MT FT E k true)
  | 0 => ⟨fun f args s r s' h => by simp [runK] at h, fun id args s r s' h => by simp [runK] at h⟩
  | k + 1 => by
    obtain ⟨ihc, ihy⟩ := runK_ok hT hM hFT hE hm k
    have hW : ∀ f, Fence.wide.fn f := fun _ => trivial
    refine ⟨fun f args s r s' h => ?_, ?_⟩
    · simp only [runK] at h
      split at h
      · cases h
      · rename_i p hl
        obtain ⟨hf, hen⟩ := hFT _ (look_mem hl)
        dsimp only at hf hen
        split at h
        · cases h
        · rename_i c hb
          refine ⟨hen, fun n B w0 w φ qs hq hs R hR => ?_⟩
          have hcal : CalOk Fence.wide n P (calAll MT E (runK T MT FT E k false) (runK T MT FT E k true)) := calAll_ok hM (hE _ (.inl rfl) _) ihc ihy hW rfl
          have hnone : OthOk Fence.wide n P (fun _ _ _ => none) := fun _ _ _ _ _ _ h => by cases h
          have hoth : OthOk Fence.wide n P (fun c' ts s => match c' with
            | .scope c2 => scopeA (execA T (calAll MT E (runK T MT FT E k false) (runK T MT FT E k true)) (look p.2.1) (fun _ _ _ => none) k) c2 k c2 ts s
            | _ => none) := fun c' ts s e ts' s' h => by
            dsimp only at h
            split at h
            · exact scope_ok (fun c ts s e ts' s' h => exec_ok hT hcal hW hm hnone k c ts s e ts' s' h) h
            · cases h
          have hx := exec_ok (ri := look p.2.1) hT hcal hW hm hoth k
          split at h
          · rename_i ts' s1 ms hex
            simp only [Option.bind_eq_some_iff, Option.map_eq_some_iff] at h
            obtain ⟨s2, hdrop, rs, hrs, h⟩ := h
            obtain ⟨rfl, rfl⟩ : oneOf rs = r ∧ s2 = s' := by simpa using h
            exact funM_ok hT hf hb trivial rfl (execB_ok ihc hW rfl rfl hx _ _ _ _ _ _ _ hex) (.inl rfl) hdrop hrs hq hs hR
          · rename_i ts' s1 ms hex
            simp only [Option.bind_eq_some_iff, Option.map_eq_some_iff] at h
            obtain ⟨s2, hdrop, rs, hrs, h⟩ := h
            obtain ⟨rfl, rfl⟩ : oneOf rs = r ∧ s2 = s' := by simpa using h
            exact funM_ok hT hf hb trivial rfl (execB_ok ihc hW rfl rfl hx _ _ _ _ _ _ _ hex) (.inr rfl) hdrop hrs hq hs hR
          · cases h
    · have e : runK T MT FT E (k + 1) true = yieldA (fun rno c ts s => match look FT rno with
        | some p => execA T (calAll MT E (runK T MT FT E k false) (runK T MT FT E k true)) (look p.2.1) (fun _ _ _ => none) k c ts s
        | none => none) := by funext id args s; simp only [runK]
      rw [e]
      refine yield_ok hW fun rno c ts s e ts' s' h l n => ?_
      split at h
      · have ihc' : CallOk (Fence.wide.inRound l) P (runK T MT FT E k false) := ihc
        have ihy' : YOk (Fence.wide.inRound l) P (runK T MT FT E k true) := ihy
        have hcal : CalOk (Fence.wide.inRound l) n P (calAll MT E (runK T MT FT E k false) (runK T MT FT E k true)) := calAll_ok (F := Fence.wide.inRound l) hM (hE (Fence.wide.inRound l) (.inr ⟨l, rfl⟩) n) ihc' ihy' hW rfl
        have hnone : OthOk (Fence.wide.inRound l) n P (fun _ _ _ => none) := fun _ _ _ _ _ _ h => by cases h
        exact exec_ok hT hcal hW hm hnone k c ts s e ts' s' h
      · cases h

end
end
end Go.Proofs.YtoafihjgpbcgbaaGreat.Si
