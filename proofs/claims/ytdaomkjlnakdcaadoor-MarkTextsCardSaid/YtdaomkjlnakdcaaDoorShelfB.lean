/- The contracts of Go's library at this dump that the proofs use, as the kit's own tool has printed them. Conditions: none. -/
import Derived.Test.YtdaomkjlnakdcaaDoorShelf
import Derived.Shelf.Strings.Builder1
import Derived.Shelf.Small.Utf8
import Derived.Shelf.Small.Strs
import Derived.Shelf.Small.Wraps
import Derived.Shelf.Strings.BuilderF
import Derived.Shelf.Strings.BuilderK
import Derived.Shelf.Strconv.Itoa0
import Derived.Shelf.Strconv.Itoa1
import Derived.Shelf.LaysM
import Derived.Shelf.Strconv.Itoa2
import Derived.Shelf.Strconv.Itoa3
import Derived.Shelf.Strconv.Itoa4
import Derived.Shelf.Strconv.ParseIntEmpty
import Derived.Shelf.Strconv.Clone
import Derived.Shelf.Strconv.SyntaxError
import Derived.Shelf.LaysC
import Derived.Shelf.Strconv.ToError
import Derived.Shelf.Strconv.Lower
import Derived.Shelf.Strconv.ParseUint10
import Derived.Shelf.Strconv.ParseUint10Empty
import Derived.Shelf.Strconv.ParseUint10Any
import Derived.Shelf.Strconv.ParseInt10
import Derived.Shelf.Strconv.RangeError
import Derived.Shelf.Strconv.ToErrorRange
import Derived.Shelf.Strconv.ParseUintEmpty
import Derived.Shelf.Strconv.ParseUint10b64
import Derived.Shelf.Strconv.ParseUint10b32
import Derived.Shelf.Strconv.ParseUint10b16
import Derived.Shelf.Strconv.ParseUint10b8
import Derived.Shelf.Strconv.ParseUint10At
import Derived.Shelf.Strconv.ParseInt10At64
import Derived.Shelf.Strconv.ParseInt10At32
import Derived.Shelf.Strconv.ParseInt10At16
import Derived.Shelf.Strconv.ParseInt10At8
import Derived.Shelf.Strconv.ParseInt10All
import Derived.Shelf.Strconv.ParseIntPublic10
import Derived.Shelf.Strconv.ErrVarParseInt
import Derived.Ground.MpProg
import Derived.Shelf.Pu.ParseUintPublic10
import Derived.Shelf.Pu.ErrVarParseUint
import Derived.Shelf.Strings.Search1
import Derived.Shelf.Strings.Search2
import Derived.Shelf.Strings.Cut
import Derived.Shelf.Strings.Shaped
import Derived.Shelf.Strings.Prefix
import Derived.Shelf.Unicode.Decode
import Derived.Shelf.Strings.Runes
import Derived.Shelf.Strings.IndexAny
import Derived.Shelf.Strings.AsciiSet
import Derived.Shelf.Bits.Mul64
import Derived.Shelf.Unicode.DecodeSlow
import Derived.Shelf.Unicode.DecodeAny
import Derived.Shelf.Unicode.DecodeLast
import Derived.Shelf.Strings.BuilderCap
import Derived.Test.YtdaomkjlnakdcaaDoorProg
namespace Go.Proofs
open Go.Shelf
def Tryd.lays103_ren : Go.Shelf.Ren := ⟨fun | 103 => 55 | 210 => 69 | 206 => 88 | n => n, fun | 9 => 9 | 4 => 4 | 24 => 90 | 3 => 3 | n => n, fun | n => n⟩
theorem Tryd.lays103 : Go.Proofs.Lays.n103 Tryd.prog Tryd.lays103_ren := {
  mixed := by kernel_rfl
  f103 := Tryd.func55.trans (congrArg some (by kernel_rfl))
  f206 := Tryd.func88.trans (congrArg some (by kernel_rfl))
  f210 := Tryd.func69.trans (congrArg some (by kernel_rfl))
  t3 := Tryd.underlying3
  a3 := Tryd.isAgg3
  z3 := Tryd.sizeOf3
  v3 := Tryd.zeroValue3
  t4 := Tryd.underlying4
  a4 := Tryd.isAgg4
  z4 := Tryd.sizeOf4
  v4 := Tryd.zeroValue4
  t9 := Tryd.underlying9
  a9 := Tryd.isAgg9
  z9 := Tryd.sizeOf9
  v9 := Tryd.zeroValue9
  t24 := Tryd.underlying90
  a24 := Tryd.isAgg90
  z24 := Tryd.sizeOf90
  v24 := Tryd.zeroValue90 }
open Go.RowKit in
theorem Tryd.strings_CutPrefix (s p : ByteArray) (w : World) :
    Calls Tryd.prog 55 #[.string s, .string p] w fun e w' => e = .returned (.tuple #[.string ⟨(Lib.trimPrefix s.data.toList p.data.toList).toArray⟩, .bool (Lib.hasPrefix s.data.toList p.data.toList)]) ∧ w' = w := Any.strings_CutPrefix Tryd.lays103 s p w
def Tryd.lays104_ren : Go.Shelf.Ren := ⟨fun | 104 => 61 | 211 => 77 | 207 => 98 | n => n, fun | 9 => 9 | 4 => 4 | 24 => 90 | 3 => 3 | n => n, fun | n => n⟩
theorem Tryd.lays104 : Go.Proofs.Lays.n104 Tryd.prog Tryd.lays104_ren := {
  mixed := by kernel_rfl
  f104 := Tryd.func61.trans (congrArg some (by kernel_rfl))
  f207 := Tryd.func98.trans (congrArg some (by kernel_rfl))
  f211 := Tryd.func77.trans (congrArg some (by kernel_rfl))
  t3 := Tryd.underlying3
  a3 := Tryd.isAgg3
  z3 := Tryd.sizeOf3
  v3 := Tryd.zeroValue3
  t4 := Tryd.underlying4
  a4 := Tryd.isAgg4
  z4 := Tryd.sizeOf4
  v4 := Tryd.zeroValue4
  t9 := Tryd.underlying9
  a9 := Tryd.isAgg9
  z9 := Tryd.sizeOf9
  v9 := Tryd.zeroValue9
  t24 := Tryd.underlying90
  a24 := Tryd.isAgg90
  z24 := Tryd.sizeOf90
  v24 := Tryd.zeroValue90 }
open Go.RowKit in
theorem Tryd.strings_CutSuffix (s p : ByteArray) (w : World) (hs : s.size ≤ 9223372036854775807) :
    Calls Tryd.prog 61 #[.string s, .string p] w fun e w' => e = .returned (.tuple #[.string ⟨(Lib.trimSuffix s.data.toList p.data.toList).toArray⟩, .bool (Lib.hasSuffix s.data.toList p.data.toList)]) ∧ w' = w := Any.strings_CutSuffix Tryd.lays104 s p w hs
def Tryd.laysC174_ren : Go.Shelf.Ren := ⟨fun | 174 => 48 | 247 => 65 | 245 => 66 | 287 => 71 | 279 => 84 | 280 => 85 | 281 => 86 | 282 => 87 | 321 => 90 | 322 => 91 | 316 => 104 | 171 => 106 | 205 => 105 | 243 => 112 | 246 => 67 | 283 => 80 | 284 => 81 | 285 => 82 | 286 => 83 | 129 => 100 | 317 => 99 | 318 => 101 | 319 => 102 | 320 => 103 | 337 => 110 | 338 => 111 | n => n, fun | 9 => 9 | 3 => 3 | 2 => 2 | 75 => 73 | 85 => 82 | 4 => 4 | 167 => 120 | 5 => 5 | 53 => 49 | 175 => 94 | 46 => 81 | 168 => 121 | 37 => 69 | 0 => 0 | 210 => 136 | 21 => 21 | 127 => 101 | 145 => 141 | 143 => 139 | 171 => 115 | 173 => 118 | 212 => 131 | 51 => 132 | 20 => 20 | 213 => 133 | 232 => 148 | 233 => 149 | 80 => 80 | n => n, fun | 15 => 1 | 16 => 2 | 17 => 0 | 18 => 6 | 19 => 7 | n => n⟩
theorem Tryd.laysC174 : Go.Proofs.LaysC.n174 Tryd.prog Tryd.laysC174_ren := {
  mixed := by kernel_rfl
  f129 := Tryd.func100.trans (congrArg some (by kernel_rfl))
  f171 := Tryd.func106.trans (congrArg some (by kernel_rfl))
  f174 := Tryd.func48.trans (congrArg some (by kernel_rfl))
  f205 := Tryd.func105.trans (congrArg some (by kernel_rfl))
  f243 := Tryd.func112.trans (congrArg some (by kernel_rfl))
  f245 := Tryd.func66.trans (congrArg some (by kernel_rfl))
  f246 := Tryd.func67.trans (congrArg some (by kernel_rfl))
  f247 := Tryd.func65.trans (congrArg some (by kernel_rfl))
  f279 := Tryd.func84.trans (congrArg some (by kernel_rfl))
  f280 := Tryd.func85.trans (congrArg some (by kernel_rfl))
  f281 := Tryd.func86.trans (congrArg some (by kernel_rfl))
  f282 := Tryd.func87.trans (congrArg some (by kernel_rfl))
  f283 := Tryd.func80.trans (congrArg some (by kernel_rfl))
  f284 := Tryd.func81.trans (congrArg some (by kernel_rfl))
  f285 := Tryd.func82.trans (congrArg some (by kernel_rfl))
  f286 := Tryd.func83.trans (congrArg some (by kernel_rfl))
  f287 := Tryd.func71.trans (congrArg some (by kernel_rfl))
  f316 := Tryd.func104.trans (congrArg some (by kernel_rfl))
  f317 := Tryd.func99.trans (congrArg some (by kernel_rfl))
  f318 := Tryd.func101.trans (congrArg some (by kernel_rfl))
  f319 := Tryd.func102.trans (congrArg some (by kernel_rfl))
  f320 := Tryd.func103.trans (congrArg some (by kernel_rfl))
  f321 := Tryd.func90.trans (congrArg some (by kernel_rfl))
  f322 := Tryd.func91.trans (congrArg some (by kernel_rfl))
  f337 := Tryd.func110.trans (congrArg some (by kernel_rfl))
  f338 := Tryd.func111.trans (congrArg some (by kernel_rfl))
  t0 := Tryd.underlying0
  a0 := Tryd.isAgg0
  z0 := Tryd.sizeOf0
  v0 := Tryd.zeroValue0
  t2 := Tryd.underlying2
  a2 := Tryd.isAgg2
  z2 := Tryd.sizeOf2
  v2 := Tryd.zeroValue2
  t3 := Tryd.underlying3
  a3 := Tryd.isAgg3
  z3 := Tryd.sizeOf3
  v3 := Tryd.zeroValue3
  t4 := Tryd.underlying4
  a4 := Tryd.isAgg4
  z4 := Tryd.sizeOf4
  v4 := Tryd.zeroValue4
  t5 := Tryd.underlying5
  a5 := Tryd.isAgg5
  z5 := Tryd.sizeOf5
  v5 := Tryd.zeroValue5
  t9 := Tryd.underlying9
  a9 := Tryd.isAgg9
  z9 := Tryd.sizeOf9
  v9 := Tryd.zeroValue9
  t20 := Tryd.underlying20
  a20 := Tryd.isAgg20
  z20 := Tryd.sizeOf20
  v20 := Tryd.zeroValue20
  t21 := Tryd.underlying21
  a21 := Tryd.isAgg21
  z21 := Tryd.sizeOf21
  v21 := Tryd.zeroValue21
  t37 := Tryd.underlying69
  a37 := Tryd.isAgg69
  z37 := Tryd.sizeOf69
  v37 := Tryd.zeroValue69
  t46 := Tryd.underlying81
  a46 := Tryd.isAgg81
  z46 := Tryd.sizeOf81
  v46 := Tryd.zeroValue81
  t51 := Tryd.underlying132
  a51 := Tryd.isAgg132
  z51 := Tryd.sizeOf132
  v51 := Tryd.zeroValue132
  t53 := Tryd.underlying49
  a53 := Tryd.isAgg49
  z53 := Tryd.sizeOf49
  v53 := Tryd.zeroValue49
  t75 := Tryd.underlying73
  a75 := Tryd.isAgg73
  z75 := Tryd.sizeOf73
  v75 := Tryd.zeroValue73
  t85 := Tryd.underlying82
  a85 := Tryd.isAgg82
  z85 := Tryd.sizeOf82
  v85 := Tryd.zeroValue82
  t127 := Tryd.underlying101
  a127 := Tryd.isAgg101
  z127 := Tryd.sizeOf101
  v127 := Tryd.zeroValue101
  t143 := Tryd.underlying139
  a143 := Tryd.isAgg139
  z143 := Tryd.sizeOf139
  v143 := Tryd.zeroValue139
  t145 := Tryd.underlying141
  a145 := Tryd.isAgg141
  z145 := Tryd.sizeOf141
  v145 := Tryd.zeroValue141
  t167 := Tryd.underlying120
  a167 := Tryd.isAgg120
  z167 := Tryd.sizeOf120
  v167 := Tryd.zeroValue120
  t168 := Tryd.underlying121
  a168 := Tryd.isAgg121
  z168 := Tryd.sizeOf121
  v168 := Tryd.zeroValue121
  t171 := Tryd.underlying115
  a171 := Tryd.isAgg115
  z171 := Tryd.sizeOf115
  v171 := Tryd.zeroValue115
  t173 := Tryd.underlying118
  a173 := Tryd.isAgg118
  z173 := Tryd.sizeOf118
  v173 := Tryd.zeroValue118
  t175 := Tryd.underlying94
  a175 := Tryd.isAgg94
  z175 := Tryd.sizeOf94
  v175 := Tryd.zeroValue94
  t210 := Tryd.underlying136
  a210 := Tryd.isAgg136
  z210 := Tryd.sizeOf136
  v210 := Tryd.zeroValue136
  t212 := Tryd.underlying131
  a212 := Tryd.isAgg131
  z212 := Tryd.sizeOf131
  v212 := Tryd.zeroValue131
  t213 := Tryd.underlying133
  a213 := Tryd.isAgg133
  z213 := Tryd.sizeOf133
  t232 := Tryd.underlying148
  a232 := Tryd.isAgg148
  z232 := Tryd.sizeOf148
  v232 := Tryd.zeroValue148
  t233 := Tryd.underlying149
  a233 := Tryd.isAgg149
  z233 := Tryd.sizeOf149
  v233 := Tryd.zeroValue149
  g15 := by kernel_rfl
  g16 := by kernel_rfl
  g17 := by kernel_rfl
  g18 := by kernel_rfl
  g19 := by kernel_rfl
  t80 := Tryd.underlying80
  a80 := Tryd.isAgg80
  z80 := Tryd.sizeOf80
  v80 := Tryd.zeroValue80
  i0 := by kernel_rfl
  i2 := by kernel_rfl
  i3 := by kernel_rfl
  i4 := by kernel_rfl
  i5 := by kernel_rfl
  i9 := by kernel_rfl
  i20 := by kernel_rfl
  i21 := by kernel_rfl
  i37 := by kernel_rfl
  i46 := by kernel_rfl
  i51 := by kernel_rfl
  i53 := by kernel_rfl
  i75 := by kernel_rfl
  i80 := by kernel_rfl
  i85 := by kernel_rfl
  i127 := by kernel_rfl
  i143 := by kernel_rfl
  i145 := by kernel_rfl
  i167 := by kernel_rfl
  i168 := by kernel_rfl
  i171 := by kernel_rfl
  i173 := by kernel_rfl
  i175 := by kernel_rfl
  i210 := by kernel_rfl
  i212 := by kernel_rfl
  i232 := by kernel_rfl
  i233 := by kernel_rfl
  m15 := by kernel_rfl
  m16 := by kernel_rfl
  m17 := by kernel_rfl
  m18 := by kernel_rfl
  m19 := by kernel_rfl
  c0 := by kernel_rfl
  c2 := by kernel_rfl
  c3 := by kernel_rfl
  c4 := by kernel_rfl
  c5 := by kernel_rfl
  c9 := by kernel_rfl
  c20 := by kernel_rfl
  c21 := by kernel_rfl
  c37 := by kernel_rfl
  c46 := by kernel_rfl
  c51 := by kernel_rfl
  c53 := by kernel_rfl
  c75 := by kernel_rfl
  c80 := by kernel_rfl
  c85 := by kernel_rfl
  c127 := by kernel_rfl
  c143 := by kernel_rfl
  c145 := by kernel_rfl
  c167 := by kernel_rfl
  c168 := by kernel_rfl
  c171 := by kernel_rfl
  c173 := by kernel_rfl
  c175 := by kernel_rfl
  c210 := by kernel_rfl
  c212 := by kernel_rfl
  c213 := by kernel_rfl
  c232 := by kernel_rfl
  c233 := by kernel_rfl }
open Go.RowKit in
theorem Tryd.strconv_ParseInt_10_at64_ok (s : ByteArray) (hmax : s.size ≤ 9223372036854775806) (v : Int) (h : Lib.parseIntB 64 s.data.toList = .ok v) (w : World) :
    Calls Tryd.prog 48 #[.string s, .int .i64 10, .int .i64 64] w fun e w' => e = .returned (.tuple #[.int .i64 v, .nilIface]) ∧ (w' = w ∨ ∃ t, w' = Lib.bytesWorld w 5 t) := Any.strconv_ParseInt_10_at64_ok Tryd.laysC174 s hmax v h w
def Tryd.laysPu14_ren : Go.Shelf.Ren := ⟨fun | 14 => 57 | 16 => 71 | 17 => 66 | 19 => 90 | 20 => 91 | 21 => 84 | 22 => 85 | 23 => 86 | 24 => 87 | 25 => 104 | 27 => 106 | 26 => 105 | 28 => 112 | 29 => 67 | 30 => 80 | 31 => 81 | 32 => 82 | 33 => 83 | 35 => 100 | 34 => 99 | 36 => 101 | 37 => 102 | 38 => 103 | 39 => 110 | 40 => 111 | n => n, fun | 9 => 9 | 3 => 3 | 22 => 49 | 24 => 73 | 25 => 94 | 4 => 4 | 34 => 120 | 5 => 5 | 36 => 81 | 37 => 69 | 0 => 0 | 39 => 121 | 21 => 21 | 44 => 136 | 47 => 101 | 50 => 141 | 48 => 139 | 2 => 2 | 52 => 115 | 55 => 118 | 59 => 131 | 60 => 132 | 20 => 20 | 61 => 133 | 65 => 148 | 66 => 149 | 67 => 80 | n => n, fun | 0 => 1 | 1 => 2 | 2 => 0 | 3 => 6 | 4 => 7 | n => n⟩
theorem Tryd.laysPu14 : Go.Proofs.LaysPu.n14 Tryd.prog Tryd.laysPu14_ren := {
  mixed := by kernel_rfl
  f14 := Tryd.func57.trans (congrArg some (by kernel_rfl))
  f16 := Tryd.func71.trans (congrArg some (by kernel_rfl))
  f17 := Tryd.func66.trans (congrArg some (by kernel_rfl))
  f19 := Tryd.func90.trans (congrArg some (by kernel_rfl))
  f20 := Tryd.func91.trans (congrArg some (by kernel_rfl))
  f21 := Tryd.func84.trans (congrArg some (by kernel_rfl))
  f22 := Tryd.func85.trans (congrArg some (by kernel_rfl))
  f23 := Tryd.func86.trans (congrArg some (by kernel_rfl))
  f24 := Tryd.func87.trans (congrArg some (by kernel_rfl))
  f25 := Tryd.func104.trans (congrArg some (by kernel_rfl))
  f26 := Tryd.func105.trans (congrArg some (by kernel_rfl))
  f27 := Tryd.func106.trans (congrArg some (by kernel_rfl))
  f28 := Tryd.func112.trans (congrArg some (by kernel_rfl))
  f29 := Tryd.func67.trans (congrArg some (by kernel_rfl))
  f30 := Tryd.func80.trans (congrArg some (by kernel_rfl))
  f31 := Tryd.func81.trans (congrArg some (by kernel_rfl))
  f32 := Tryd.func82.trans (congrArg some (by kernel_rfl))
  f33 := Tryd.func83.trans (congrArg some (by kernel_rfl))
  f34 := Tryd.func99.trans (congrArg some (by kernel_rfl))
  f35 := Tryd.func100.trans (congrArg some (by kernel_rfl))
  f36 := Tryd.func101.trans (congrArg some (by kernel_rfl))
  f37 := Tryd.func102.trans (congrArg some (by kernel_rfl))
  f38 := Tryd.func103.trans (congrArg some (by kernel_rfl))
  f39 := Tryd.func110.trans (congrArg some (by kernel_rfl))
  f40 := Tryd.func111.trans (congrArg some (by kernel_rfl))
  t0 := Tryd.underlying0
  a0 := Tryd.isAgg0
  z0 := Tryd.sizeOf0
  v0 := Tryd.zeroValue0
  i0 := by kernel_rfl
  t2 := Tryd.underlying2
  a2 := Tryd.isAgg2
  z2 := Tryd.sizeOf2
  v2 := Tryd.zeroValue2
  i2 := by kernel_rfl
  t3 := Tryd.underlying3
  a3 := Tryd.isAgg3
  z3 := Tryd.sizeOf3
  v3 := Tryd.zeroValue3
  i3 := by kernel_rfl
  t4 := Tryd.underlying4
  a4 := Tryd.isAgg4
  z4 := Tryd.sizeOf4
  v4 := Tryd.zeroValue4
  i4 := by kernel_rfl
  t5 := Tryd.underlying5
  a5 := Tryd.isAgg5
  z5 := Tryd.sizeOf5
  v5 := Tryd.zeroValue5
  i5 := by kernel_rfl
  t9 := Tryd.underlying9
  a9 := Tryd.isAgg9
  z9 := Tryd.sizeOf9
  v9 := Tryd.zeroValue9
  i9 := by kernel_rfl
  t20 := Tryd.underlying20
  a20 := Tryd.isAgg20
  z20 := Tryd.sizeOf20
  v20 := Tryd.zeroValue20
  i20 := by kernel_rfl
  t21 := Tryd.underlying21
  a21 := Tryd.isAgg21
  z21 := Tryd.sizeOf21
  v21 := Tryd.zeroValue21
  i21 := by kernel_rfl
  t22 := Tryd.underlying49
  a22 := Tryd.isAgg49
  z22 := Tryd.sizeOf49
  v22 := Tryd.zeroValue49
  i22 := by kernel_rfl
  t24 := Tryd.underlying73
  a24 := Tryd.isAgg73
  z24 := Tryd.sizeOf73
  v24 := Tryd.zeroValue73
  i24 := by kernel_rfl
  t25 := Tryd.underlying94
  a25 := Tryd.isAgg94
  z25 := Tryd.sizeOf94
  v25 := Tryd.zeroValue94
  i25 := by kernel_rfl
  t34 := Tryd.underlying120
  a34 := Tryd.isAgg120
  z34 := Tryd.sizeOf120
  v34 := Tryd.zeroValue120
  i34 := by kernel_rfl
  c34 := by kernel_rfl
  t36 := Tryd.underlying81
  a36 := Tryd.isAgg81
  z36 := Tryd.sizeOf81
  v36 := Tryd.zeroValue81
  i36 := by kernel_rfl
  t37 := Tryd.underlying69
  a37 := Tryd.isAgg69
  z37 := Tryd.sizeOf69
  v37 := Tryd.zeroValue69
  i37 := by kernel_rfl
  t39 := Tryd.underlying121
  a39 := Tryd.isAgg121
  z39 := Tryd.sizeOf121
  v39 := Tryd.zeroValue121
  i39 := by kernel_rfl
  t44 := Tryd.underlying136
  a44 := Tryd.isAgg136
  z44 := Tryd.sizeOf136
  v44 := Tryd.zeroValue136
  i44 := by kernel_rfl
  t47 := Tryd.underlying101
  a47 := Tryd.isAgg101
  z47 := Tryd.sizeOf101
  v47 := Tryd.zeroValue101
  i47 := by kernel_rfl
  t48 := Tryd.underlying139
  a48 := Tryd.isAgg139
  z48 := Tryd.sizeOf139
  v48 := Tryd.zeroValue139
  i48 := by kernel_rfl
  t50 := Tryd.underlying141
  a50 := Tryd.isAgg141
  z50 := Tryd.sizeOf141
  v50 := Tryd.zeroValue141
  i50 := by kernel_rfl
  t52 := Tryd.underlying115
  a52 := Tryd.isAgg115
  z52 := Tryd.sizeOf115
  v52 := Tryd.zeroValue115
  i52 := by kernel_rfl
  t55 := Tryd.underlying118
  a55 := Tryd.isAgg118
  z55 := Tryd.sizeOf118
  v55 := Tryd.zeroValue118
  i55 := by kernel_rfl
  t59 := Tryd.underlying131
  a59 := Tryd.isAgg131
  z59 := Tryd.sizeOf131
  v59 := Tryd.zeroValue131
  i59 := by kernel_rfl
  t60 := Tryd.underlying132
  a60 := Tryd.isAgg132
  z60 := Tryd.sizeOf132
  v60 := Tryd.zeroValue132
  i60 := by kernel_rfl
  t61 := Tryd.underlying133
  a61 := Tryd.isAgg133
  z61 := Tryd.sizeOf133
  t65 := Tryd.underlying148
  a65 := Tryd.isAgg148
  z65 := Tryd.sizeOf148
  v65 := Tryd.zeroValue148
  i65 := by kernel_rfl
  t66 := Tryd.underlying149
  a66 := Tryd.isAgg149
  z66 := Tryd.sizeOf149
  v66 := Tryd.zeroValue149
  i66 := by kernel_rfl
  t67 := Tryd.underlying80
  a67 := Tryd.isAgg80
  z67 := Tryd.sizeOf80
  v67 := Tryd.zeroValue80
  i67 := by kernel_rfl
  g0 := by kernel_rfl
  m0 := by kernel_rfl
  g1 := by kernel_rfl
  m1 := by kernel_rfl
  g2 := by kernel_rfl
  m2 := by kernel_rfl
  g3 := by kernel_rfl
  m3 := by kernel_rfl
  g4 := by kernel_rfl
  m4 := by kernel_rfl }
open Go.RowKit in
theorem Tryd.strconv_ParseUint_10_at64_ok (s : ByteArray) (hmax : s.size ≤ 9223372036854775806) (u : Nat) (h : Lib.parseUintB 64 s.data.toList = .ok u) (w : World) :
    Calls Tryd.prog 57 #[.string s, .int .i64 10, .int .i64 64] w fun e w' => e = .returned (.tuple #[.int .u64 u, .nilIface]) ∧ (w' = w ∨ w' = Lib.bytesWorld w 5 s) := Any.strconv_ParseUint_10_at64_ok Tryd.laysPu14 s hmax u h w
def Tryd.lays145_ren : Go.Shelf.Ren := ⟨fun | 145 => 56 | 220 => 70 | 219 => 89 | 217 => 107 | 225 => 95 | 224 => 94 | 267 => 108 | 266 => 113 | 314 => 114 | n => n, fun | 9 => 9 | 4 => 4 | 59 => 92 | 3 => 3 | 5 => 5 | 46 => 81 | 146 => 142 | 51 => 132 | n => n, fun | 1 => 3 | n => n⟩
theorem Tryd.lays145 : Go.Proofs.Lays.n145 Tryd.prog Tryd.lays145_ren := {
  mixed := by kernel_rfl
  f145 := Tryd.func56.trans (congrArg some (by kernel_rfl))
  f217 := Tryd.func107.trans (congrArg some (by kernel_rfl))
  f219 := Tryd.func89.trans (congrArg some (by kernel_rfl))
  f220 := Tryd.func70.trans (congrArg some (by kernel_rfl))
  f224 := Tryd.func94.trans (congrArg some (by kernel_rfl))
  f225 := Tryd.func95.trans (congrArg some (by kernel_rfl))
  f266 := Tryd.func113.trans (congrArg some (by kernel_rfl))
  f267 := Tryd.func108.trans (congrArg some (by kernel_rfl))
  f314 := Tryd.func114.trans (congrArg some (by kernel_rfl))
  t3 := Tryd.underlying3
  a3 := Tryd.isAgg3
  z3 := Tryd.sizeOf3
  v3 := Tryd.zeroValue3
  t4 := Tryd.underlying4
  a4 := Tryd.isAgg4
  z4 := Tryd.sizeOf4
  v4 := Tryd.zeroValue4
  t5 := Tryd.underlying5
  a5 := Tryd.isAgg5
  z5 := Tryd.sizeOf5
  v5 := Tryd.zeroValue5
  t9 := Tryd.underlying9
  a9 := Tryd.isAgg9
  z9 := Tryd.sizeOf9
  v9 := Tryd.zeroValue9
  t46 := Tryd.underlying81
  a46 := Tryd.isAgg81
  z46 := Tryd.sizeOf81
  v46 := Tryd.zeroValue81
  t51 := Tryd.underlying132
  a51 := Tryd.isAgg132
  z51 := Tryd.sizeOf132
  v51 := Tryd.zeroValue132
  t59 := Tryd.underlying92
  a59 := Tryd.isAgg92
  z59 := Tryd.sizeOf92
  v59 := Tryd.zeroValue92
  t146 := Tryd.underlying142
  a146 := Tryd.isAgg142
  z146 := Tryd.sizeOf142
  v146 := Tryd.zeroValue142
  g1 := by kernel_rfl }
open Go.RowKit Go.Lib in
theorem Tryd.strings_Cut (s sep : ByteArray) (m : Int) (w : World) (hs : s.size < 4294967281) (hm : w.cell? ⟨3, 0, none⟩ = some (.int .i64 m)) :
    Calls Tryd.prog 56 #[.string s, .string sep] w fun e w' => e = .returned (.tuple #[.string ⟨(Lib.cut s.data.toList sep.data.toList).1.toArray⟩, .string ⟨(Lib.cut s.data.toList sep.data.toList).2.1.toArray⟩, .bool (Lib.cut s.data.toList sep.data.toList).2.2]) ∧ ∃ n, w' = w.drewN n := Any.strings_Cut Tryd.lays145 s sep m w hs hm
def Tryd.lays101_ren : Go.Shelf.Ren := ⟨fun | 101 => 62 | 208 => 78 | 206 => 88 | n => n, fun | 9 => 9 | 4 => 4 | 3 => 3 | n => n, fun | n => n⟩
theorem Tryd.lays101 : Go.Proofs.Lays.n101 Tryd.prog Tryd.lays101_ren := {
  mixed := by kernel_rfl
  f101 := Tryd.func62.trans (congrArg some (by kernel_rfl))
  f206 := Tryd.func88.trans (congrArg some (by kernel_rfl))
  f208 := Tryd.func78.trans (congrArg some (by kernel_rfl))
  t3 := Tryd.underlying3
  a3 := Tryd.isAgg3
  z3 := Tryd.sizeOf3
  v3 := Tryd.zeroValue3
  t4 := Tryd.underlying4
  a4 := Tryd.isAgg4
  z4 := Tryd.sizeOf4
  v4 := Tryd.zeroValue4
  t9 := Tryd.underlying9
  a9 := Tryd.isAgg9
  z9 := Tryd.sizeOf9
  v9 := Tryd.zeroValue9 }
open Go.RowKit Go.Lib in
theorem Tryd.strings_TrimPrefix (s p : ByteArray) (w : World) :
    Calls Tryd.prog 62 #[.string s, .string p] w fun e w' => e = .returned (.string ⟨(Lib.trimPrefix s.data.toList p.data.toList).toArray⟩) ∧ w' = w := Any.strings_TrimPrefix Tryd.lays101 s p w
end Go.Proofs
