/- strings.Join of a row of the call's own. Conditions: none. -/
import Derived.Test.YtnifbipbpengeaaDoorAppend
import Derived.Test.YtnifbipbpengeaaDoorShelf
import Derived.Lib.Join
namespace Go.Proofs.YtnifbipbpengeaaDoor
open Go.RowKit

theorem mk_list (l : List UInt8) : (⟨l.toArray⟩ : ByteArray).data.toList = l := rfl

/-- strings.Join of a row that the call owns, nil let in. -/
theorem join_own (v : Value) (xs : List ByteArray) (sep : ByteArray) (base : Nat) (w : World) (hown : w.ownsRow base 9 1 v xs.length (xs.map Value.string))
    (hN : xs.length ≤ 140737488355328) (hlen : (Lib.join (xs.map (·.data.toList)) sep.data.toList).length ≤ 140737488355328) :
    Calls Tryd.prog 16 #[v, .string sep] w fun e w' => e = .returned (.string ⟨(Lib.join (xs.map (·.data.toList)) sep.data.toList).toArray⟩) ∧ Below w.heap.size w w' := by
  obtain ⟨A, cap, rfl⟩ := own_slice hown
  have hcap := own_cap hown
  have hrd := rd_of_own hown
  cases xs with
  | nil => exact (Tryd.strings_Join_none A cap sep w).mono fun e w' ⟨he, hw⟩ => ⟨he, hw ▸ Below.refl _ _⟩
  | cons x r =>
    obtain ⟨b, off, rfl, hb, hc⟩ := hrd (by simp)
    exact Tryd.strings_Join b off cap (x :: r) sep w (fun j y hy => hc j _ (by rw [List.getElem?_map, hy]; rfl)) hb hN hcap hlen

theorem infoStr : (Tryd.prog.info? 9).map (fun i => (i.zero, i.size, i.bytes)) = some (some (.string ByteArray.empty), 1, 16) := by kernel_rfl

/-- What Join makes of texts that are given as lists. -/
theorem join_lists (l : List (List UInt8)) (sep : ByteArray) : Lib.join ((l.map fun x => (⟨x.toArray⟩ : ByteArray)).map (·.data.toList)) sep.data.toList = Lib.join l sep.data.toList := by
  rw [List.map_map]
  congr 1
  exact List.map_id' l

end Go.Proofs.YtnifbipbpengeaaDoor
