/- The contracts of Go's library at this dump that the proofs use, as the kit's own tool has printed them. Conditions: none. -/
import Derived.Test.YtiokdfkddcokoaaGreatDoorShelfB
import Derived.Shelf.Strings.Builder1
import Derived.Shelf.Strings.Builder2
import Derived.Shelf.Strings.OnBuilder
import Derived.Shelf.Small.Wraps
import Derived.Shelf.Strings.BuilderF
import Derived.Shelf.Strings.BuilderK
import Derived.Shelf.Utf8.RuneCount
import Derived.Shelf.Strings.Builder2Cap
import Derived.Shelf.Strconv.Itoa0
import Derived.Shelf.Strconv.Itoa1
import Derived.Shelf.LaysM
import Derived.Shelf.Strconv.Itoa2
import Derived.Shelf.Strconv.Itoa3
import Derived.Shelf.Strconv.Itoa4
import Derived.Shelf.Strconv.ParseIntEmpty
import Derived.Shelf.Strconv.Clone
import Derived.Shelf.Strconv.SyntaxError
import Derived.Shelf.LaysC
import Derived.Shelf.Strconv.ToError
import Derived.Shelf.Strconv.Lower
import Derived.Shelf.Strconv.ParseUint10
import Derived.Shelf.Strconv.ParseUint10Empty
import Derived.Shelf.Strconv.ParseUint10Any
import Derived.Shelf.Strconv.ParseInt10
import Derived.Shelf.Strconv.RangeError
import Derived.Shelf.Strconv.ToErrorRange
import Derived.Shelf.Strconv.ParseUintEmpty
import Derived.Shelf.Strconv.ParseUint10b64
import Derived.Shelf.Strconv.ParseUint10b32
import Derived.Shelf.Strconv.ParseUint10b16
import Derived.Shelf.Strconv.ParseUint10b8
import Derived.Shelf.Strconv.ParseUint10At
import Derived.Shelf.Strconv.ParseInt10At64
import Derived.Shelf.Strconv.ParseInt10At32
import Derived.Shelf.Strconv.ParseInt10At16
import Derived.Shelf.Strconv.ParseInt10At8
import Derived.Shelf.Strconv.ParseInt10All
import Derived.Shelf.Strconv.ParseIntPublic10
import Derived.Shelf.Strconv.ErrVarParseInt
import Derived.Ground.MpProg
import Derived.Shelf.Pu.ParseUintPublic10
import Derived.Shelf.Pu.ErrVarParseUint
import Derived.Shelf.Strings.Search1
import Derived.Shelf.Strings.Search2
import Derived.Shelf.Strings.Search3
import Derived.Shelf.Strings.Cut
import Derived.Shelf.Strings.Count
import Derived.Shelf.Strings.Shaped
import Derived.Shelf.Strings.Prefix
import Derived.Shelf.Strings.Split
import Derived.Shelf.Strings.SplitShaped
import Derived.Shelf.Unicode.Decode
import Derived.Shelf.Strings.RuneCount
import Derived.Shelf.Strings.Explode
import Derived.Shelf.Bits.Mul64
import Derived.Shelf.Unicode.DecodeSlow
import Derived.Shelf.Unicode.DecodeAny
import Derived.Shelf.Strings.BuilderCap
import Derived.Shelf.Slices.Equal
import Derived.Ground.Names2Prog
import Derived.Shelf.Slices.Clone
import Derived.Shelf.Slices.Empties2
import Derived.Ground.SlgnProg
import Derived.Shelf.SlicesE.Clone
import Derived.Test.YtiokdfkddcokoaaGreatDoorProg
namespace Go.Proofs
open Go.Shelf
def Tryz.lays146_ren : Go.Shelf.Ren := ⟨fun | 146 => 20 | 221 => 37 | 268 => 59 | 138 => 60 | 143 => 61 | 195 => 76 | 197 => 77 | 218 => 78 | 219 => 79 | 260 => 88 | 217 => 89 | 225 => 90 | 224 => 91 | 267 => 92 | 266 => 105 | 314 => 106 | n => n, fun | 9 => 9 | 31 => 35 | 3 => 3 | 4 => 4 | 0 => 0 | 105 => 116 | 21 => 21 | 5 => 5 | 46 => 79 | 119 => 134 | 139 => 137 | 138 => 136 | 146 => 139 | 51 => 138 | n => n, fun | 1 => 0 | 3 => 1 | 4 => 2 | n => n⟩
theorem Tryz.lays146 : Go.Proofs.Lays.n146 Tryz.prog Tryz.lays146_ren := {
  mixed := by kernel_rfl
  f138 := Tryz.func60.trans (congrArg some (by kernel_rfl))
  f143 := Tryz.func61.trans (congrArg some (by kernel_rfl))
  f146 := Tryz.func20.trans (congrArg some (by kernel_rfl))
  f195 := Tryz.func76.trans (congrArg some (by kernel_rfl))
  f197 := Tryz.func77.trans (congrArg some (by kernel_rfl))
  f217 := Tryz.func89.trans (congrArg some (by kernel_rfl))
  f218 := Tryz.func78.trans (congrArg some (by kernel_rfl))
  f219 := Tryz.func79.trans (congrArg some (by kernel_rfl))
  f221 := Tryz.func37.trans (congrArg some (by kernel_rfl))
  f224 := Tryz.func91.trans (congrArg some (by kernel_rfl))
  f225 := Tryz.func90.trans (congrArg some (by kernel_rfl))
  f260 := Tryz.func88.trans (congrArg some (by kernel_rfl))
  f266 := Tryz.func105.trans (congrArg some (by kernel_rfl))
  f267 := Tryz.func92.trans (congrArg some (by kernel_rfl))
  f268 := Tryz.func59.trans (congrArg some (by kernel_rfl))
  f314 := Tryz.func106.trans (congrArg some (by kernel_rfl))
  t0 := Tryz.underlying0
  a0 := Tryz.isAgg0
  z0 := Tryz.sizeOf0
  v0 := Tryz.zeroValue0
  t3 := Tryz.underlying3
  a3 := Tryz.isAgg3
  z3 := Tryz.sizeOf3
  v3 := Tryz.zeroValue3
  t4 := Tryz.underlying4
  a4 := Tryz.isAgg4
  z4 := Tryz.sizeOf4
  v4 := Tryz.zeroValue4
  t5 := Tryz.underlying5
  a5 := Tryz.isAgg5
  z5 := Tryz.sizeOf5
  v5 := Tryz.zeroValue5
  t9 := Tryz.underlying9
  a9 := Tryz.isAgg9
  z9 := Tryz.sizeOf9
  v9 := Tryz.zeroValue9
  t21 := Tryz.underlying21
  a21 := Tryz.isAgg21
  z21 := Tryz.sizeOf21
  v21 := Tryz.zeroValue21
  t31 := Tryz.underlying35
  a31 := Tryz.isAgg35
  z31 := Tryz.sizeOf35
  v31 := Tryz.zeroValue35
  t46 := Tryz.underlying79
  a46 := Tryz.isAgg79
  z46 := Tryz.sizeOf79
  v46 := Tryz.zeroValue79
  t51 := Tryz.underlying138
  a51 := Tryz.isAgg138
  z51 := Tryz.sizeOf138
  v51 := Tryz.zeroValue138
  t105 := Tryz.underlying116
  a105 := Tryz.isAgg116
  z105 := Tryz.sizeOf116
  v105 := Tryz.zeroValue116
  t119 := Tryz.underlying134
  a119 := Tryz.isAgg134
  z119 := Tryz.sizeOf134
  t138 := Tryz.underlying136
  a138 := Tryz.isAgg136
  z138 := Tryz.sizeOf136
  v138 := Tryz.zeroValue136
  t139 := Tryz.underlying137
  a139 := Tryz.isAgg137
  z139 := Tryz.sizeOf137
  v139 := Tryz.zeroValue137
  t146 := Tryz.underlying139
  a146 := Tryz.isAgg139
  z146 := Tryz.sizeOf139
  v146 := Tryz.zeroValue139
  g1 := by kernel_rfl
  g3 := by kernel_rfl
  g4 := by kernel_rfl }
open Go.RowKit Go.Lib in
theorem Tryz.strings_Split (s sep : ByteArray) (m : Int) (w : World) (hs : s.size < 4294967281) (hm : w.cell? ⟨0, 0, none⟩ = some (.int .i64 m)) (h1 : 1 ≤ sep.size) :
    Calls Tryz.prog 20 #[.string s, .string sep] w fun e w' =>
      e = .returned (.slice (some ⟨w.heap.size, 0, none⟩) (Lib.countB s sep + 1) (Lib.countB s sep + 1)) ∧ w' = w.alloc (.cells ((Lib.splitB sep 0 (Lib.countB s sep) s).map Value.string).toArray 9) := Any.strings_Split Tryz.lays146 (by kernel_rfl) s sep m w hs hm h1
end Go.Proofs
