/-
  No cell of these rows narrows 'for every input' (looked for: loops, veiled, ifaces, maps, wideKeys, modest, calm, conditions, laid).
  DERIVED. THE GIVEN ROWS OF THIS SEAT. 3 by the template 'for every input the law returns true; each argument reads behind the call as it read before'; 0 by the template 'total and deterministic' (their statements: YtdpojpcoghcieaaGreatTotals.lean).
  GIVEN WITH THE SEED: the statements are not yours to turn. If you find one false, say at which input.
  Laid BY PROGRAM, IN A SANDBOX (cutbox-rows.mjs): the forced cells as the released guide's own fill.sh prints them over the translation 807141fdb0112130… (all of the seat's roots in one cut). By AI agents, Wed Nov 11 2026. No macro, syntax, notation, axiom, sorry.
-/
import Derived.Test.YtdpojpcoghcieaaGreatChecked
import GoSem.Claim
import GoSem.ClaimJoined
import GoSem.ClaimMapViews
import Derived.JoinedTies
import Derived.KernelRfl
namespace Go.Proofs.YtdpojpcoghcieaaGreat
/- THE CELL 'sum', in the pinned program and in every row, IS THE sha256 OF THE DUMP (.gsa) THAT YtdpojpcoghcieaaGreatProg.lean LOADS. Nothing in Lean hashes anything: it is a label: what it is worth is what the hold of that sum in a sandbox is worth. -/
noncomputable def Tryz.pinned : Pinned := { name := "ytdpojpcoghcieaagreat", sum := "807141fdb0112130e74451aef1c5867556f97acd73ae9f1098c128e0d2a6d9f4", checked := Tryz.checked }
namespace Rows
def none {H : Type} : Left H := { results := [], args := [] }

/-- 'sakiatop.TopSerial': WHATEVER THE INPUT: true; the input reads as it did. -/
def topSerialSpec : ChangeSpec := { name := "topSerial", fn := fun _ => fun
  | [d1, d2] => { results := [.lit (.bool true)], args := [d1, d2] }
  | _ => none }
def topSerialRow : OpenClaim := { program := "ytdpojpcoghcieaagreat", sum := "807141fdb0112130e74451aef1c5867556f97acd73ae9f1098c128e0d2a6d9f4", func := "sakia/sakiatop.TopSerial", spec := "topSerial", unfollowed := true, recurses := true, apart := false }
def TopSerialSaid : Prop := topSerialRow.holds Tryz.pinned (OpenSpec.ofChange topSerialSpec)

/-- ITS FALSE NEIGHBOUR: 'it returns false'. Refute it at one input. -/
def topSerialWrong : ChangeSpec := { name := "topSerial", fn := fun _ => fun
  | [d1, d2] => { results := [.lit (.bool false)], args := [d1, d2] }
  | _ => none }
def TopSerialWrongFalsely : Prop := topSerialRow.holds Tryz.pinned (OpenSpec.ofChange topSerialWrong)

/-- 'sakiatop.TopBound': WHATEVER THE INPUT: true; the input reads as it did. -/
def topBoundSpec : ChangeSpec := { name := "topBound", fn := fun _ => fun
  | [d1, d2] => { results := [.lit (.bool true)], args := [d1, d2] }
  | _ => none }
def topBoundRow : OpenClaim := { program := "ytdpojpcoghcieaagreat", sum := "807141fdb0112130e74451aef1c5867556f97acd73ae9f1098c128e0d2a6d9f4", func := "sakia/sakiatop.TopBound", spec := "topBound", unfollowed := true, recurses := true, apart := false }
def TopBoundSaid : Prop := topBoundRow.holds Tryz.pinned (OpenSpec.ofChange topBoundSpec)

/-- ITS FALSE NEIGHBOUR: 'it returns false'. Refute it at one input. -/
def topBoundWrong : ChangeSpec := { name := "topBound", fn := fun _ => fun
  | [d1, d2] => { results := [.lit (.bool false)], args := [d1, d2] }
  | _ => none }
def TopBoundWrongFalsely : Prop := topBoundRow.holds Tryz.pinned (OpenSpec.ofChange topBoundWrong)

/-- 'sakiatop.TopTags': WHATEVER THE INPUT: true; the input reads as it did. -/
def topTagsSpec : ChangeSpec := { name := "topTags", fn := fun _ => fun
  | [d1, d2] => { results := [.lit (.bool true)], args := [d1, d2] }
  | _ => none }
def topTagsRow : OpenClaim := { program := "ytdpojpcoghcieaagreat", sum := "807141fdb0112130e74451aef1c5867556f97acd73ae9f1098c128e0d2a6d9f4", func := "sakia/sakiatop.TopTags", spec := "topTags", unfollowed := true, recurses := true, apart := false }
def TopTagsSaid : Prop := topTagsRow.holds Tryz.pinned (OpenSpec.ofChange topTagsSpec)

/-- ITS FALSE NEIGHBOUR: 'it returns false'. Refute it at one input. -/
def topTagsWrong : ChangeSpec := { name := "topTags", fn := fun _ => fun
  | [d1, d2] => { results := [.lit (.bool false)], args := [d1, d2] }
  | _ => none }
def TopTagsWrongFalsely : Prop := topTagsRow.holds Tryz.pinned (OpenSpec.ofChange topTagsWrong)

/- THE SECOND FORM. 'bulk': how many values and letters a reading holds, each counted each time it is reached (what is shared counts as often as it is met; a slice's spare places count too). A statement '..UptoSaid' is the law's where the arguments, and the package variables that the reading takes, are together of bulk at most 1048576: NARROWER than '..Said'. Prove '..Said' where nothing that the law and all that it calls make is longer than what came in: it says more and counts as full. Else prove '..UptoSaid'. A law counts once. -/
mutual
def uptoBulk {H : Type} : DataW H → Nat
  | .lit (.string bytes) => bytes.length + 1
  | .lit _ => 1
  | .nil => 1
  | .ptr d => uptoBulk d + 1
  | .slice elems spare => uptoBulkAll elems + uptoBulkAll spare + 1
  | .agg parts => uptoBulkAll parts + 1
  | .iface _ d => uptoBulk d + 1
  | .map entries => uptoBulkEntries entries + 1
  | .held _ => 1
def uptoBulkAll {H : Type} : List (DataW H) → Nat
  | [] => 0
  | d :: r => uptoBulk d + uptoBulkAll r
def uptoBulkEntries {H : Type} : List (Lit × DataW H) → Nat
  | [] => 0
  | x :: r => uptoBulkEntry x + uptoBulkEntries r
def uptoBulkEntry {H : Type} : Lit × DataW H → Nat
  | (.string bytes, d) => bytes.length + uptoBulk d + 1
  | (_, d) => uptoBulk d + 1
 end
def uptoSmall : (H : Type) → List (DataW H) → Bool := fun _ ds => decide (uptoBulkAll ds ≤ 1048576)
def OpenSpec.upto (s : _root_.Go.ChangeSpec) : _root_.Go.OpenSpec := { _root_.Go.OpenSpec.ofChange s with cond := some uptoSmall }

/-- 'sakiatop.TopSerial', WHERE WHAT IT READS IS OF BULK AT MOST 1048576: true; the input reads as it did. -/
def topSerialUptoRow : OpenClaim := { program := "ytdpojpcoghcieaagreat", sum := "807141fdb0112130e74451aef1c5867556f97acd73ae9f1098c128e0d2a6d9f4", func := "sakia/sakiatop.TopSerial", spec := "topSerial", unfollowed := true, recurses := true, apart := false, narrowed := true }
def TopSerialUptoSaid : Prop := topSerialUptoRow.holds Tryz.pinned (OpenSpec.upto topSerialSpec)

/-- 'sakiatop.TopBound', WHERE WHAT IT READS IS OF BULK AT MOST 1048576: true; the input reads as it did. -/
def topBoundUptoRow : OpenClaim := { program := "ytdpojpcoghcieaagreat", sum := "807141fdb0112130e74451aef1c5867556f97acd73ae9f1098c128e0d2a6d9f4", func := "sakia/sakiatop.TopBound", spec := "topBound", unfollowed := true, recurses := true, apart := false, narrowed := true }
def TopBoundUptoSaid : Prop := topBoundUptoRow.holds Tryz.pinned (OpenSpec.upto topBoundSpec)

/-- 'sakiatop.TopTags', WHERE WHAT IT READS IS OF BULK AT MOST 1048576: true; the input reads as it did. -/
def topTagsUptoRow : OpenClaim := { program := "ytdpojpcoghcieaagreat", sum := "807141fdb0112130e74451aef1c5867556f97acd73ae9f1098c128e0d2a6d9f4", func := "sakia/sakiatop.TopTags", spec := "topTags", unfollowed := true, recurses := true, apart := false, narrowed := true }
def TopTagsUptoSaid : Prop := topTagsUptoRow.holds Tryz.pinned (OpenSpec.upto topTagsSpec)

end Rows
end Go.Proofs.YtdpojpcoghcieaaGreat
