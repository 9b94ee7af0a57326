/- The contracts of Go's library at this dump that the proofs use, as the kit's own tool has printed them. Conditions: none. -/
import Derived.Test.YtjjoendjgiiknaaDoorShelf
import Derived.Shelf.Strings.Builder1
import Derived.Shelf.Strings.Builder2
import Derived.Shelf.Strings.OnBuilder
import Derived.Shelf.Strings.BuilderF
import Derived.Shelf.Strings.BuilderK
import Derived.Shelf.Utf8.RuneCount
import Derived.Shelf.Strings.Builder2Cap
import Derived.Shelf.Strconv.Atoi
import Derived.Shelf.Strconv.Itoa0
import Derived.Shelf.Strconv.Itoa1
import Derived.Shelf.LaysM
import Derived.Shelf.Strconv.Itoa2
import Derived.Shelf.Strconv.Itoa3
import Derived.Shelf.Strconv.AtoiErrFast
import Derived.Shelf.Strconv.ParseIntEmpty
import Derived.Shelf.Strconv.AtoiFail
import Derived.Shelf.Strconv.Clone
import Derived.Shelf.Strconv.SyntaxError
import Derived.Shelf.LaysC
import Derived.Shelf.Strconv.ToError
import Derived.Shelf.Strconv.AtoiErr
import Derived.Shelf.Strconv.ErrVar
import Derived.Shelf.Strconv.Lower
import Derived.Shelf.Strconv.ParseUint10
import Derived.Shelf.Strconv.ParseUint10Empty
import Derived.Shelf.Strconv.ParseUint10Any
import Derived.Shelf.Strconv.ParseInt10
import Derived.Shelf.Strconv.AtoiLong
import Derived.Shelf.Strconv.AtoiInnerAll
import Derived.Shelf.Strconv.RangeError
import Derived.Shelf.Strconv.ToErrorRange
import Derived.Shelf.Strconv.AtoiAll
import Derived.Shelf.Strconv.ErrVarAll
import Derived.Shelf.Strconv.ParseUintEmpty
import Derived.Shelf.Strconv.ParseUint10b64
import Derived.Shelf.Strconv.ParseUint10b32
import Derived.Shelf.Strconv.ParseUint10b16
import Derived.Shelf.Strconv.ParseUint10b8
import Derived.Shelf.Strconv.ParseUint10At
import Derived.Shelf.Strconv.ParseInt10At64
import Derived.Shelf.Strconv.ParseInt10At32
import Derived.Shelf.Strconv.ParseInt10At16
import Derived.Shelf.Strconv.ParseInt10At8
import Derived.Shelf.Strconv.ParseInt10All
import Derived.Shelf.Strings.Search1
import Derived.Shelf.Strings.Search2
import Derived.Shelf.Strings.Search3
import Derived.Shelf.Strings.Count
import Derived.Shelf.Strings.Shaped
import Derived.Shelf.Strings.Split
import Derived.Shelf.Strings.SplitShaped
import Derived.Shelf.Unicode.Decode
import Derived.Shelf.Strings.RuneCount
import Derived.Shelf.Strings.Explode
import Derived.Shelf.Unicode.DecodeSlow
import Derived.Shelf.Unicode.DecodeAny
import Derived.Shelf.Strings.BuilderCap
import Derived.Shelf.Slices.Equal
import Derived.Ground.Names2Prog
import Derived.Shelf.Slices.Clone
import Derived.Shelf.Slices.Empties2
import Derived.Ground.SlgnProg
import Derived.Shelf.SlicesE.Clone
import Derived.Test.YtjjoendjgiiknaaDoorProg
namespace Go.Proofs
open Go.Shelf
def Tryd.laysC172_ren : Go.Shelf.Ren := ⟨fun | 172 => 35 | 244 => 41 | 245 => 42 | 247 => 51 | 279 => 52 | 280 => 53 | 281 => 54 | 282 => 55 | 287 => 63 | 316 => 64 | 171 => 38 | 205 => 65 | 321 => 77 | 322 => 78 | 243 => 44 | 246 => 56 | 283 => 66 | 284 => 67 | 285 => 68 | 286 => 69 | 129 => 80 | 317 => 79 | 318 => 81 | 319 => 82 | 320 => 83 | 337 => 86 | 338 => 87 | n => n, fun | 9 => 9 | 3 => 3 | 75 => 64 | 76 => 65 | 4 => 4 | 5 => 5 | 167 => 81 | 37 => 74 | 0 => 0 | 85 => 82 | 2 => 2 | 168 => 84 | 53 => 72 | 175 => 93 | 46 => 95 | 210 => 98 | 127 => 88 | 145 => 113 | 143 => 111 | 21 => 21 | 171 => 100 | 173 => 103 | 212 => 115 | 51 => 116 | 20 => 20 | 213 => 117 | 232 => 126 | 233 => 127 | 80 => 78 | n => n, fun | 15 => 0 | 16 => 1 | 17 => 3 | 18 => 6 | 19 => 7 | n => n⟩
theorem Tryd.laysC172 : Go.Proofs.LaysC.n172 Tryd.prog Tryd.laysC172_ren := {
  mixed := by kernel_rfl
  f129 := Tryd.func80.trans (congrArg some (by kernel_rfl))
  f171 := Tryd.func38.trans (congrArg some (by kernel_rfl))
  f172 := Tryd.func35.trans (congrArg some (by kernel_rfl))
  f205 := Tryd.func65.trans (congrArg some (by kernel_rfl))
  f243 := Tryd.func44.trans (congrArg some (by kernel_rfl))
  f244 := Tryd.func41.trans (congrArg some (by kernel_rfl))
  f245 := Tryd.func42.trans (congrArg some (by kernel_rfl))
  f246 := Tryd.func56.trans (congrArg some (by kernel_rfl))
  f247 := Tryd.func51.trans (congrArg some (by kernel_rfl))
  f279 := Tryd.func52.trans (congrArg some (by kernel_rfl))
  f280 := Tryd.func53.trans (congrArg some (by kernel_rfl))
  f281 := Tryd.func54.trans (congrArg some (by kernel_rfl))
  f282 := Tryd.func55.trans (congrArg some (by kernel_rfl))
  f283 := Tryd.func66.trans (congrArg some (by kernel_rfl))
  f284 := Tryd.func67.trans (congrArg some (by kernel_rfl))
  f285 := Tryd.func68.trans (congrArg some (by kernel_rfl))
  f286 := Tryd.func69.trans (congrArg some (by kernel_rfl))
  f287 := Tryd.func63.trans (congrArg some (by kernel_rfl))
  f316 := Tryd.func64.trans (congrArg some (by kernel_rfl))
  f317 := Tryd.func79.trans (congrArg some (by kernel_rfl))
  f318 := Tryd.func81.trans (congrArg some (by kernel_rfl))
  f319 := Tryd.func82.trans (congrArg some (by kernel_rfl))
  f320 := Tryd.func83.trans (congrArg some (by kernel_rfl))
  f321 := Tryd.func77.trans (congrArg some (by kernel_rfl))
  f322 := Tryd.func78.trans (congrArg some (by kernel_rfl))
  f337 := Tryd.func86.trans (congrArg some (by kernel_rfl))
  f338 := Tryd.func87.trans (congrArg some (by kernel_rfl))
  t0 := Tryd.underlying0
  a0 := Tryd.isAgg0
  z0 := Tryd.sizeOf0
  v0 := Tryd.zeroValue0
  t2 := Tryd.underlying2
  a2 := Tryd.isAgg2
  z2 := Tryd.sizeOf2
  v2 := Tryd.zeroValue2
  t3 := Tryd.underlying3
  a3 := Tryd.isAgg3
  z3 := Tryd.sizeOf3
  v3 := Tryd.zeroValue3
  t4 := Tryd.underlying4
  a4 := Tryd.isAgg4
  z4 := Tryd.sizeOf4
  v4 := Tryd.zeroValue4
  t5 := Tryd.underlying5
  a5 := Tryd.isAgg5
  z5 := Tryd.sizeOf5
  v5 := Tryd.zeroValue5
  t9 := Tryd.underlying9
  a9 := Tryd.isAgg9
  z9 := Tryd.sizeOf9
  v9 := Tryd.zeroValue9
  t20 := Tryd.underlying20
  a20 := Tryd.isAgg20
  z20 := Tryd.sizeOf20
  v20 := Tryd.zeroValue20
  t21 := Tryd.underlying21
  a21 := Tryd.isAgg21
  z21 := Tryd.sizeOf21
  v21 := Tryd.zeroValue21
  t37 := Tryd.underlying74
  a37 := Tryd.isAgg74
  z37 := Tryd.sizeOf74
  v37 := Tryd.zeroValue74
  t46 := Tryd.underlying95
  a46 := Tryd.isAgg95
  z46 := Tryd.sizeOf95
  v46 := Tryd.zeroValue95
  t51 := Tryd.underlying116
  a51 := Tryd.isAgg116
  z51 := Tryd.sizeOf116
  v51 := Tryd.zeroValue116
  t53 := Tryd.underlying72
  a53 := Tryd.isAgg72
  z53 := Tryd.sizeOf72
  v53 := Tryd.zeroValue72
  t75 := Tryd.underlying64
  a75 := Tryd.isAgg64
  z75 := Tryd.sizeOf64
  v75 := Tryd.zeroValue64
  t76 := Tryd.underlying65
  a76 := Tryd.isAgg65
  z76 := Tryd.sizeOf65
  v76 := Tryd.zeroValue65
  t85 := Tryd.underlying82
  a85 := Tryd.isAgg82
  z85 := Tryd.sizeOf82
  v85 := Tryd.zeroValue82
  t127 := Tryd.underlying88
  a127 := Tryd.isAgg88
  z127 := Tryd.sizeOf88
  v127 := Tryd.zeroValue88
  t143 := Tryd.underlying111
  a143 := Tryd.isAgg111
  z143 := Tryd.sizeOf111
  v143 := Tryd.zeroValue111
  t145 := Tryd.underlying113
  a145 := Tryd.isAgg113
  z145 := Tryd.sizeOf113
  v145 := Tryd.zeroValue113
  t167 := Tryd.underlying81
  a167 := Tryd.isAgg81
  z167 := Tryd.sizeOf81
  v167 := Tryd.zeroValue81
  t168 := Tryd.underlying84
  a168 := Tryd.isAgg84
  z168 := Tryd.sizeOf84
  v168 := Tryd.zeroValue84
  t171 := Tryd.underlying100
  a171 := Tryd.isAgg100
  z171 := Tryd.sizeOf100
  v171 := Tryd.zeroValue100
  t173 := Tryd.underlying103
  a173 := Tryd.isAgg103
  z173 := Tryd.sizeOf103
  v173 := Tryd.zeroValue103
  t175 := Tryd.underlying93
  a175 := Tryd.isAgg93
  z175 := Tryd.sizeOf93
  v175 := Tryd.zeroValue93
  t210 := Tryd.underlying98
  a210 := Tryd.isAgg98
  z210 := Tryd.sizeOf98
  v210 := Tryd.zeroValue98
  t212 := Tryd.underlying115
  a212 := Tryd.isAgg115
  z212 := Tryd.sizeOf115
  v212 := Tryd.zeroValue115
  t213 := Tryd.underlying117
  a213 := Tryd.isAgg117
  z213 := Tryd.sizeOf117
  t232 := Tryd.underlying126
  a232 := Tryd.isAgg126
  z232 := Tryd.sizeOf126
  v232 := Tryd.zeroValue126
  t233 := Tryd.underlying127
  a233 := Tryd.isAgg127
  z233 := Tryd.sizeOf127
  v233 := Tryd.zeroValue127
  g15 := by kernel_rfl
  g16 := by kernel_rfl
  g17 := by kernel_rfl
  g18 := by kernel_rfl
  g19 := by kernel_rfl
  t80 := Tryd.underlying78
  a80 := Tryd.isAgg78
  z80 := Tryd.sizeOf78
  v80 := Tryd.zeroValue78
  i0 := by kernel_rfl
  i2 := by kernel_rfl
  i3 := by kernel_rfl
  i4 := by kernel_rfl
  i5 := by kernel_rfl
  i9 := by kernel_rfl
  i20 := by kernel_rfl
  i21 := by kernel_rfl
  i37 := by kernel_rfl
  i46 := by kernel_rfl
  i51 := by kernel_rfl
  i53 := by kernel_rfl
  i75 := by kernel_rfl
  i76 := by kernel_rfl
  i80 := by kernel_rfl
  i85 := by kernel_rfl
  i127 := by kernel_rfl
  i143 := by kernel_rfl
  i145 := by kernel_rfl
  i167 := by kernel_rfl
  i168 := by kernel_rfl
  i171 := by kernel_rfl
  i173 := by kernel_rfl
  i175 := by kernel_rfl
  i210 := by kernel_rfl
  i212 := by kernel_rfl
  i232 := by kernel_rfl
  i233 := by kernel_rfl
  m15 := by kernel_rfl
  m16 := by kernel_rfl
  m17 := by kernel_rfl
  m18 := by kernel_rfl
  m19 := by kernel_rfl
  c0 := by kernel_rfl
  c2 := by kernel_rfl
  c3 := by kernel_rfl
  c4 := by kernel_rfl
  c5 := by kernel_rfl
  c9 := by kernel_rfl
  c20 := by kernel_rfl
  c21 := by kernel_rfl
  c37 := by kernel_rfl
  c46 := by kernel_rfl
  c51 := by kernel_rfl
  c53 := by kernel_rfl
  c75 := by kernel_rfl
  c76 := by kernel_rfl
  c80 := by kernel_rfl
  c85 := by kernel_rfl
  c127 := by kernel_rfl
  c143 := by kernel_rfl
  c145 := by kernel_rfl
  c167 := by kernel_rfl
  c168 := by kernel_rfl
  c171 := by kernel_rfl
  c173 := by kernel_rfl
  c175 := by kernel_rfl
  c210 := by kernel_rfl
  c212 := by kernel_rfl
  c213 := by kernel_rfl
  c232 := by kernel_rfl
  c233 := by kernel_rfl }
open Go.RowKit in
theorem Tryd.strconv_Atoi_ok (s : ByteArray) (hmax : s.size ≤ 9223372036854775806) (v : Int) (h : Lib.atoiAll s.data.toList = .ok v) (w : World) :
    Calls Tryd.prog 35 #[.string s] w fun e w' => e = .returned (.tuple #[.int .i64 v, .nilIface]) ∧ (w' = w ∨ ∃ t, w' = Lib.bytesWorld w 5 t) := Any.strconv_Atoi_ok Tryd.laysC172 s hmax v h w
end Go.Proofs
