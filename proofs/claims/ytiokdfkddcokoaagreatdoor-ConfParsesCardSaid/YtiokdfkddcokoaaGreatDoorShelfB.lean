/- The contracts of Go's library at this dump that the proofs use, as the kit's own tool has printed them. Conditions: none. -/
import Derived.Test.YtiokdfkddcokoaaGreatDoorShelf
import Derived.Shelf.Strings.Builder1
import Derived.Shelf.Strings.Builder2
import Derived.Shelf.Strings.OnBuilder
import Derived.Shelf.Small.Wraps
import Derived.Shelf.Strings.BuilderF
import Derived.Shelf.Strings.BuilderK
import Derived.Shelf.Utf8.RuneCount
import Derived.Shelf.Strings.Builder2Cap
import Derived.Shelf.Strconv.Itoa0
import Derived.Shelf.Strconv.Itoa1
import Derived.Shelf.LaysM
import Derived.Shelf.Strconv.Itoa2
import Derived.Shelf.Strconv.Itoa3
import Derived.Shelf.Strconv.Itoa4
import Derived.Shelf.Strconv.ParseIntEmpty
import Derived.Shelf.Strconv.Clone
import Derived.Shelf.Strconv.SyntaxError
import Derived.Shelf.LaysC
import Derived.Shelf.Strconv.ToError
import Derived.Shelf.Strconv.Lower
import Derived.Shelf.Strconv.ParseUint10
import Derived.Shelf.Strconv.ParseUint10Empty
import Derived.Shelf.Strconv.ParseUint10Any
import Derived.Shelf.Strconv.ParseInt10
import Derived.Shelf.Strconv.RangeError
import Derived.Shelf.Strconv.ToErrorRange
import Derived.Shelf.Strconv.ParseUintEmpty
import Derived.Shelf.Strconv.ParseUint10b64
import Derived.Shelf.Strconv.ParseUint10b32
import Derived.Shelf.Strconv.ParseUint10b16
import Derived.Shelf.Strconv.ParseUint10b8
import Derived.Shelf.Strconv.ParseUint10At
import Derived.Shelf.Strconv.ParseInt10At64
import Derived.Shelf.Strconv.ParseInt10At32
import Derived.Shelf.Strconv.ParseInt10At16
import Derived.Shelf.Strconv.ParseInt10At8
import Derived.Shelf.Strconv.ParseInt10All
import Derived.Shelf.Strconv.ParseIntPublic10
import Derived.Shelf.Strconv.ErrVarParseInt
import Derived.Ground.MpProg
import Derived.Shelf.Pu.ParseUintPublic10
import Derived.Shelf.Pu.ErrVarParseUint
import Derived.Shelf.Strings.Search1
import Derived.Shelf.Strings.Search2
import Derived.Shelf.Strings.Search3
import Derived.Shelf.Strings.Cut
import Derived.Shelf.Strings.Count
import Derived.Shelf.Strings.Shaped
import Derived.Shelf.Strings.Prefix
import Derived.Shelf.Strings.Split
import Derived.Shelf.Strings.SplitShaped
import Derived.Shelf.Unicode.Decode
import Derived.Shelf.Strings.RuneCount
import Derived.Shelf.Strings.Explode
import Derived.Shelf.Bits.Mul64
import Derived.Shelf.Unicode.DecodeSlow
import Derived.Shelf.Unicode.DecodeAny
import Derived.Shelf.Strings.BuilderCap
import Derived.Shelf.Slices.Equal
import Derived.Ground.Names2Prog
import Derived.Shelf.Slices.Clone
import Derived.Shelf.Slices.Empties2
import Derived.Ground.SlgnProg
import Derived.Shelf.SlicesE.Clone
import Derived.Test.YtiokdfkddcokoaaGreatDoorProg
namespace Go.Proofs
open Go.Shelf
def Tryz.lays103_ren : Go.Shelf.Ren := ⟨fun | 103 => 70 | 210 => 84 | 206 => 98 | n => n, fun | 9 => 9 | 4 => 4 | 24 => 26 | 3 => 3 | n => n, fun | n => n⟩
theorem Tryz.lays103 : Go.Proofs.Lays.n103 Tryz.prog Tryz.lays103_ren := {
  mixed := by kernel_rfl
  f103 := Tryz.func70.trans (congrArg some (by kernel_rfl))
  f206 := Tryz.func98.trans (congrArg some (by kernel_rfl))
  f210 := Tryz.func84.trans (congrArg some (by kernel_rfl))
  t3 := Tryz.underlying3
  a3 := Tryz.isAgg3
  z3 := Tryz.sizeOf3
  v3 := Tryz.zeroValue3
  t4 := Tryz.underlying4
  a4 := Tryz.isAgg4
  z4 := Tryz.sizeOf4
  v4 := Tryz.zeroValue4
  t9 := Tryz.underlying9
  a9 := Tryz.isAgg9
  z9 := Tryz.sizeOf9
  v9 := Tryz.zeroValue9
  t24 := Tryz.underlying26
  a24 := Tryz.isAgg26
  z24 := Tryz.sizeOf26
  v24 := Tryz.zeroValue26 }
open Go.RowKit in
theorem Tryz.strings_CutPrefix (s p : ByteArray) (w : World) :
    Calls Tryz.prog 70 #[.string s, .string p] w fun e w' => e = .returned (.tuple #[.string ⟨(Lib.trimPrefix s.data.toList p.data.toList).toArray⟩, .bool (Lib.hasPrefix s.data.toList p.data.toList)]) ∧ w' = w := Any.strings_CutPrefix Tryz.lays103 s p w
def Tryz.laysC174_ren : Go.Shelf.Ren := ⟨fun | 174 => 81 | 247 => 97 | 245 => 87 | 287 => 86 | 279 => 101 | 280 => 102 | 281 => 103 | 282 => 104 | 321 => 99 | 322 => 100 | 316 => 112 | 171 => 47 | 205 => 113 | 243 => 64 | 246 => 80 | 283 => 93 | 284 => 94 | 285 => 95 | 286 => 96 | 129 => 108 | 317 => 107 | 318 => 109 | 319 => 110 | 320 => 111 | 337 => 114 | 338 => 115 | n => n, fun | 9 => 9 | 3 => 3 | 2 => 2 | 75 => 74 | 85 => 119 | 4 => 4 | 167 => 129 | 5 => 5 | 53 => 46 | 175 => 110 | 46 => 79 | 168 => 131 | 37 => 69 | 0 => 0 | 210 => 146 | 21 => 21 | 127 => 97 | 145 => 151 | 143 => 149 | 171 => 123 | 173 => 126 | 212 => 142 | 51 => 138 | 20 => 20 | 213 => 143 | 232 => 152 | 233 => 153 | 80 => 77 | n => n, fun | 15 => 4 | 16 => 5 | 17 => 3 | 18 => 6 | 19 => 7 | n => n⟩
theorem Tryz.laysC174 : Go.Proofs.LaysC.n174 Tryz.prog Tryz.laysC174_ren := {
  mixed := by kernel_rfl
  f129 := Tryz.func108.trans (congrArg some (by kernel_rfl))
  f171 := Tryz.func47.trans (congrArg some (by kernel_rfl))
  f174 := Tryz.func81.trans (congrArg some (by kernel_rfl))
  f205 := Tryz.func113.trans (congrArg some (by kernel_rfl))
  f243 := Tryz.func64.trans (congrArg some (by kernel_rfl))
  f245 := Tryz.func87.trans (congrArg some (by kernel_rfl))
  f246 := Tryz.func80.trans (congrArg some (by kernel_rfl))
  f247 := Tryz.func97.trans (congrArg some (by kernel_rfl))
  f279 := Tryz.func101.trans (congrArg some (by kernel_rfl))
  f280 := Tryz.func102.trans (congrArg some (by kernel_rfl))
  f281 := Tryz.func103.trans (congrArg some (by kernel_rfl))
  f282 := Tryz.func104.trans (congrArg some (by kernel_rfl))
  f283 := Tryz.func93.trans (congrArg some (by kernel_rfl))
  f284 := Tryz.func94.trans (congrArg some (by kernel_rfl))
  f285 := Tryz.func95.trans (congrArg some (by kernel_rfl))
  f286 := Tryz.func96.trans (congrArg some (by kernel_rfl))
  f287 := Tryz.func86.trans (congrArg some (by kernel_rfl))
  f316 := Tryz.func112.trans (congrArg some (by kernel_rfl))
  f317 := Tryz.func107.trans (congrArg some (by kernel_rfl))
  f318 := Tryz.func109.trans (congrArg some (by kernel_rfl))
  f319 := Tryz.func110.trans (congrArg some (by kernel_rfl))
  f320 := Tryz.func111.trans (congrArg some (by kernel_rfl))
  f321 := Tryz.func99.trans (congrArg some (by kernel_rfl))
  f322 := Tryz.func100.trans (congrArg some (by kernel_rfl))
  f337 := Tryz.func114.trans (congrArg some (by kernel_rfl))
  f338 := Tryz.func115.trans (congrArg some (by kernel_rfl))
  t0 := Tryz.underlying0
  a0 := Tryz.isAgg0
  z0 := Tryz.sizeOf0
  v0 := Tryz.zeroValue0
  t2 := Tryz.underlying2
  a2 := Tryz.isAgg2
  z2 := Tryz.sizeOf2
  v2 := Tryz.zeroValue2
  t3 := Tryz.underlying3
  a3 := Tryz.isAgg3
  z3 := Tryz.sizeOf3
  v3 := Tryz.zeroValue3
  t4 := Tryz.underlying4
  a4 := Tryz.isAgg4
  z4 := Tryz.sizeOf4
  v4 := Tryz.zeroValue4
  t5 := Tryz.underlying5
  a5 := Tryz.isAgg5
  z5 := Tryz.sizeOf5
  v5 := Tryz.zeroValue5
  t9 := Tryz.underlying9
  a9 := Tryz.isAgg9
  z9 := Tryz.sizeOf9
  v9 := Tryz.zeroValue9
  t20 := Tryz.underlying20
  a20 := Tryz.isAgg20
  z20 := Tryz.sizeOf20
  v20 := Tryz.zeroValue20
  t21 := Tryz.underlying21
  a21 := Tryz.isAgg21
  z21 := Tryz.sizeOf21
  v21 := Tryz.zeroValue21
  t37 := Tryz.underlying69
  a37 := Tryz.isAgg69
  z37 := Tryz.sizeOf69
  v37 := Tryz.zeroValue69
  t46 := Tryz.underlying79
  a46 := Tryz.isAgg79
  z46 := Tryz.sizeOf79
  v46 := Tryz.zeroValue79
  t51 := Tryz.underlying138
  a51 := Tryz.isAgg138
  z51 := Tryz.sizeOf138
  v51 := Tryz.zeroValue138
  t53 := Tryz.underlying46
  a53 := Tryz.isAgg46
  z53 := Tryz.sizeOf46
  v53 := Tryz.zeroValue46
  t75 := Tryz.underlying74
  a75 := Tryz.isAgg74
  z75 := Tryz.sizeOf74
  v75 := Tryz.zeroValue74
  t85 := Tryz.underlying119
  a85 := Tryz.isAgg119
  z85 := Tryz.sizeOf119
  v85 := Tryz.zeroValue119
  t127 := Tryz.underlying97
  a127 := Tryz.isAgg97
  z127 := Tryz.sizeOf97
  v127 := Tryz.zeroValue97
  t143 := Tryz.underlying149
  a143 := Tryz.isAgg149
  z143 := Tryz.sizeOf149
  v143 := Tryz.zeroValue149
  t145 := Tryz.underlying151
  a145 := Tryz.isAgg151
  z145 := Tryz.sizeOf151
  v145 := Tryz.zeroValue151
  t167 := Tryz.underlying129
  a167 := Tryz.isAgg129
  z167 := Tryz.sizeOf129
  v167 := Tryz.zeroValue129
  t168 := Tryz.underlying131
  a168 := Tryz.isAgg131
  z168 := Tryz.sizeOf131
  v168 := Tryz.zeroValue131
  t171 := Tryz.underlying123
  a171 := Tryz.isAgg123
  z171 := Tryz.sizeOf123
  v171 := Tryz.zeroValue123
  t173 := Tryz.underlying126
  a173 := Tryz.isAgg126
  z173 := Tryz.sizeOf126
  v173 := Tryz.zeroValue126
  t175 := Tryz.underlying110
  a175 := Tryz.isAgg110
  z175 := Tryz.sizeOf110
  v175 := Tryz.zeroValue110
  t210 := Tryz.underlying146
  a210 := Tryz.isAgg146
  z210 := Tryz.sizeOf146
  v210 := Tryz.zeroValue146
  t212 := Tryz.underlying142
  a212 := Tryz.isAgg142
  z212 := Tryz.sizeOf142
  v212 := Tryz.zeroValue142
  t213 := Tryz.underlying143
  a213 := Tryz.isAgg143
  z213 := Tryz.sizeOf143
  t232 := Tryz.underlying152
  a232 := Tryz.isAgg152
  z232 := Tryz.sizeOf152
  v232 := Tryz.zeroValue152
  t233 := Tryz.underlying153
  a233 := Tryz.isAgg153
  z233 := Tryz.sizeOf153
  v233 := Tryz.zeroValue153
  g15 := by kernel_rfl
  g16 := by kernel_rfl
  g17 := by kernel_rfl
  g18 := by kernel_rfl
  g19 := by kernel_rfl
  t80 := Tryz.underlying77
  a80 := Tryz.isAgg77
  z80 := Tryz.sizeOf77
  v80 := Tryz.zeroValue77
  i0 := by kernel_rfl
  i2 := by kernel_rfl
  i3 := by kernel_rfl
  i4 := by kernel_rfl
  i5 := by kernel_rfl
  i9 := by kernel_rfl
  i20 := by kernel_rfl
  i21 := by kernel_rfl
  i37 := by kernel_rfl
  i46 := by kernel_rfl
  i51 := by kernel_rfl
  i53 := by kernel_rfl
  i75 := by kernel_rfl
  i80 := by kernel_rfl
  i85 := by kernel_rfl
  i127 := by kernel_rfl
  i143 := by kernel_rfl
  i145 := by kernel_rfl
  i167 := by kernel_rfl
  i168 := by kernel_rfl
  i171 := by kernel_rfl
  i173 := by kernel_rfl
  i175 := by kernel_rfl
  i210 := by kernel_rfl
  i212 := by kernel_rfl
  i232 := by kernel_rfl
  i233 := by kernel_rfl
  m15 := by kernel_rfl
  m16 := by kernel_rfl
  m17 := by kernel_rfl
  m18 := by kernel_rfl
  m19 := by kernel_rfl
  c0 := by kernel_rfl
  c2 := by kernel_rfl
  c3 := by kernel_rfl
  c4 := by kernel_rfl
  c5 := by kernel_rfl
  c9 := by kernel_rfl
  c20 := by kernel_rfl
  c21 := by kernel_rfl
  c37 := by kernel_rfl
  c46 := by kernel_rfl
  c51 := by kernel_rfl
  c53 := by kernel_rfl
  c75 := by kernel_rfl
  c80 := by kernel_rfl
  c85 := by kernel_rfl
  c127 := by kernel_rfl
  c143 := by kernel_rfl
  c145 := by kernel_rfl
  c167 := by kernel_rfl
  c168 := by kernel_rfl
  c171 := by kernel_rfl
  c173 := by kernel_rfl
  c175 := by kernel_rfl
  c210 := by kernel_rfl
  c212 := by kernel_rfl
  c213 := by kernel_rfl
  c232 := by kernel_rfl
  c233 := by kernel_rfl }
open Go.RowKit in
theorem Tryz.strconv_ParseInt_10_at64_ok (s : ByteArray) (hmax : s.size ≤ 9223372036854775806) (v : Int) (h : Lib.parseIntB 64 s.data.toList = .ok v) (w : World) :
    Calls Tryz.prog 81 #[.string s, .int .i64 10, .int .i64 64] w fun e w' => e = .returned (.tuple #[.int .i64 v, .nilIface]) ∧ (w' = w ∨ ∃ t, w' = Lib.bytesWorld w 5 t) := Any.strconv_ParseInt_10_at64_ok Tryz.laysC174 s hmax v h w
def Tryz.laysPu14_ren : Go.Shelf.Ren := ⟨fun | 14 => 72 | 16 => 86 | 17 => 87 | 19 => 99 | 20 => 100 | 21 => 101 | 22 => 102 | 23 => 103 | 24 => 104 | 25 => 112 | 27 => 47 | 26 => 113 | 28 => 64 | 29 => 80 | 30 => 93 | 31 => 94 | 32 => 95 | 33 => 96 | 35 => 108 | 34 => 107 | 36 => 109 | 37 => 110 | 38 => 111 | 39 => 114 | 40 => 115 | n => n, fun | 9 => 9 | 3 => 3 | 22 => 46 | 24 => 74 | 25 => 110 | 4 => 4 | 34 => 129 | 5 => 5 | 36 => 79 | 37 => 69 | 0 => 0 | 39 => 131 | 21 => 21 | 44 => 146 | 47 => 97 | 50 => 151 | 48 => 149 | 2 => 2 | 52 => 123 | 55 => 126 | 59 => 142 | 60 => 138 | 20 => 20 | 61 => 143 | 65 => 152 | 66 => 153 | 67 => 77 | n => n, fun | 0 => 4 | 1 => 5 | 2 => 3 | 3 => 6 | 4 => 7 | n => n⟩
theorem Tryz.laysPu14 : Go.Proofs.LaysPu.n14 Tryz.prog Tryz.laysPu14_ren := {
  mixed := by kernel_rfl
  f14 := Tryz.func72.trans (congrArg some (by kernel_rfl))
  f16 := Tryz.func86.trans (congrArg some (by kernel_rfl))
  f17 := Tryz.func87.trans (congrArg some (by kernel_rfl))
  f19 := Tryz.func99.trans (congrArg some (by kernel_rfl))
  f20 := Tryz.func100.trans (congrArg some (by kernel_rfl))
  f21 := Tryz.func101.trans (congrArg some (by kernel_rfl))
  f22 := Tryz.func102.trans (congrArg some (by kernel_rfl))
  f23 := Tryz.func103.trans (congrArg some (by kernel_rfl))
  f24 := Tryz.func104.trans (congrArg some (by kernel_rfl))
  f25 := Tryz.func112.trans (congrArg some (by kernel_rfl))
  f26 := Tryz.func113.trans (congrArg some (by kernel_rfl))
  f27 := Tryz.func47.trans (congrArg some (by kernel_rfl))
  f28 := Tryz.func64.trans (congrArg some (by kernel_rfl))
  f29 := Tryz.func80.trans (congrArg some (by kernel_rfl))
  f30 := Tryz.func93.trans (congrArg some (by kernel_rfl))
  f31 := Tryz.func94.trans (congrArg some (by kernel_rfl))
  f32 := Tryz.func95.trans (congrArg some (by kernel_rfl))
  f33 := Tryz.func96.trans (congrArg some (by kernel_rfl))
  f34 := Tryz.func107.trans (congrArg some (by kernel_rfl))
  f35 := Tryz.func108.trans (congrArg some (by kernel_rfl))
  f36 := Tryz.func109.trans (congrArg some (by kernel_rfl))
  f37 := Tryz.func110.trans (congrArg some (by kernel_rfl))
  f38 := Tryz.func111.trans (congrArg some (by kernel_rfl))
  f39 := Tryz.func114.trans (congrArg some (by kernel_rfl))
  f40 := Tryz.func115.trans (congrArg some (by kernel_rfl))
  t0 := Tryz.underlying0
  a0 := Tryz.isAgg0
  z0 := Tryz.sizeOf0
  v0 := Tryz.zeroValue0
  i0 := by kernel_rfl
  t2 := Tryz.underlying2
  a2 := Tryz.isAgg2
  z2 := Tryz.sizeOf2
  v2 := Tryz.zeroValue2
  i2 := by kernel_rfl
  t3 := Tryz.underlying3
  a3 := Tryz.isAgg3
  z3 := Tryz.sizeOf3
  v3 := Tryz.zeroValue3
  i3 := by kernel_rfl
  t4 := Tryz.underlying4
  a4 := Tryz.isAgg4
  z4 := Tryz.sizeOf4
  v4 := Tryz.zeroValue4
  i4 := by kernel_rfl
  t5 := Tryz.underlying5
  a5 := Tryz.isAgg5
  z5 := Tryz.sizeOf5
  v5 := Tryz.zeroValue5
  i5 := by kernel_rfl
  t9 := Tryz.underlying9
  a9 := Tryz.isAgg9
  z9 := Tryz.sizeOf9
  v9 := Tryz.zeroValue9
  i9 := by kernel_rfl
  t20 := Tryz.underlying20
  a20 := Tryz.isAgg20
  z20 := Tryz.sizeOf20
  v20 := Tryz.zeroValue20
  i20 := by kernel_rfl
  t21 := Tryz.underlying21
  a21 := Tryz.isAgg21
  z21 := Tryz.sizeOf21
  v21 := Tryz.zeroValue21
  i21 := by kernel_rfl
  t22 := Tryz.underlying46
  a22 := Tryz.isAgg46
  z22 := Tryz.sizeOf46
  v22 := Tryz.zeroValue46
  i22 := by kernel_rfl
  t24 := Tryz.underlying74
  a24 := Tryz.isAgg74
  z24 := Tryz.sizeOf74
  v24 := Tryz.zeroValue74
  i24 := by kernel_rfl
  t25 := Tryz.underlying110
  a25 := Tryz.isAgg110
  z25 := Tryz.sizeOf110
  v25 := Tryz.zeroValue110
  i25 := by kernel_rfl
  t34 := Tryz.underlying129
  a34 := Tryz.isAgg129
  z34 := Tryz.sizeOf129
  v34 := Tryz.zeroValue129
  i34 := by kernel_rfl
  c34 := by kernel_rfl
  t36 := Tryz.underlying79
  a36 := Tryz.isAgg79
  z36 := Tryz.sizeOf79
  v36 := Tryz.zeroValue79
  i36 := by kernel_rfl
  t37 := Tryz.underlying69
  a37 := Tryz.isAgg69
  z37 := Tryz.sizeOf69
  v37 := Tryz.zeroValue69
  i37 := by kernel_rfl
  t39 := Tryz.underlying131
  a39 := Tryz.isAgg131
  z39 := Tryz.sizeOf131
  v39 := Tryz.zeroValue131
  i39 := by kernel_rfl
  t44 := Tryz.underlying146
  a44 := Tryz.isAgg146
  z44 := Tryz.sizeOf146
  v44 := Tryz.zeroValue146
  i44 := by kernel_rfl
  t47 := Tryz.underlying97
  a47 := Tryz.isAgg97
  z47 := Tryz.sizeOf97
  v47 := Tryz.zeroValue97
  i47 := by kernel_rfl
  t48 := Tryz.underlying149
  a48 := Tryz.isAgg149
  z48 := Tryz.sizeOf149
  v48 := Tryz.zeroValue149
  i48 := by kernel_rfl
  t50 := Tryz.underlying151
  a50 := Tryz.isAgg151
  z50 := Tryz.sizeOf151
  v50 := Tryz.zeroValue151
  i50 := by kernel_rfl
  t52 := Tryz.underlying123
  a52 := Tryz.isAgg123
  z52 := Tryz.sizeOf123
  v52 := Tryz.zeroValue123
  i52 := by kernel_rfl
  t55 := Tryz.underlying126
  a55 := Tryz.isAgg126
  z55 := Tryz.sizeOf126
  v55 := Tryz.zeroValue126
  i55 := by kernel_rfl
  t59 := Tryz.underlying142
  a59 := Tryz.isAgg142
  z59 := Tryz.sizeOf142
  v59 := Tryz.zeroValue142
  i59 := by kernel_rfl
  t60 := Tryz.underlying138
  a60 := Tryz.isAgg138
  z60 := Tryz.sizeOf138
  v60 := Tryz.zeroValue138
  i60 := by kernel_rfl
  t61 := Tryz.underlying143
  a61 := Tryz.isAgg143
  z61 := Tryz.sizeOf143
  t65 := Tryz.underlying152
  a65 := Tryz.isAgg152
  z65 := Tryz.sizeOf152
  v65 := Tryz.zeroValue152
  i65 := by kernel_rfl
  t66 := Tryz.underlying153
  a66 := Tryz.isAgg153
  z66 := Tryz.sizeOf153
  v66 := Tryz.zeroValue153
  i66 := by kernel_rfl
  t67 := Tryz.underlying77
  a67 := Tryz.isAgg77
  z67 := Tryz.sizeOf77
  v67 := Tryz.zeroValue77
  i67 := by kernel_rfl
  g0 := by kernel_rfl
  m0 := by kernel_rfl
  g1 := by kernel_rfl
  m1 := by kernel_rfl
  g2 := by kernel_rfl
  m2 := by kernel_rfl
  g3 := by kernel_rfl
  m3 := by kernel_rfl
  g4 := by kernel_rfl
  m4 := by kernel_rfl }
open Go.RowKit in
theorem Tryz.strconv_ParseUint_10_at64_ok (s : ByteArray) (hmax : s.size ≤ 9223372036854775806) (u : Nat) (h : Lib.parseUintB 64 s.data.toList = .ok u) (w : World) :
    Calls Tryz.prog 72 #[.string s, .int .i64 10, .int .i64 64] w fun e w' => e = .returned (.tuple #[.int .u64 u, .nilIface]) ∧ (w' = w ∨ w' = Lib.bytesWorld w 5 s) := Any.strconv_ParseUint_10_at64_ok Tryz.laysPu14 s hmax u h w
def Tryz.lays145_ren : Go.Shelf.Ren := ⟨fun | 145 => 71 | 220 => 85 | 219 => 79 | 217 => 89 | 225 => 90 | 224 => 91 | 267 => 92 | 266 => 105 | 314 => 106 | n => n, fun | 9 => 9 | 4 => 4 | 59 => 108 | 3 => 3 | 5 => 5 | 46 => 79 | 146 => 139 | 51 => 138 | n => n, fun | 1 => 0 | n => n⟩
theorem Tryz.lays145 : Go.Proofs.Lays.n145 Tryz.prog Tryz.lays145_ren := {
  mixed := by kernel_rfl
  f145 := Tryz.func71.trans (congrArg some (by kernel_rfl))
  f217 := Tryz.func89.trans (congrArg some (by kernel_rfl))
  f219 := Tryz.func79.trans (congrArg some (by kernel_rfl))
  f220 := Tryz.func85.trans (congrArg some (by kernel_rfl))
  f224 := Tryz.func91.trans (congrArg some (by kernel_rfl))
  f225 := Tryz.func90.trans (congrArg some (by kernel_rfl))
  f266 := Tryz.func105.trans (congrArg some (by kernel_rfl))
  f267 := Tryz.func92.trans (congrArg some (by kernel_rfl))
  f314 := Tryz.func106.trans (congrArg some (by kernel_rfl))
  t3 := Tryz.underlying3
  a3 := Tryz.isAgg3
  z3 := Tryz.sizeOf3
  v3 := Tryz.zeroValue3
  t4 := Tryz.underlying4
  a4 := Tryz.isAgg4
  z4 := Tryz.sizeOf4
  v4 := Tryz.zeroValue4
  t5 := Tryz.underlying5
  a5 := Tryz.isAgg5
  z5 := Tryz.sizeOf5
  v5 := Tryz.zeroValue5
  t9 := Tryz.underlying9
  a9 := Tryz.isAgg9
  z9 := Tryz.sizeOf9
  v9 := Tryz.zeroValue9
  t46 := Tryz.underlying79
  a46 := Tryz.isAgg79
  z46 := Tryz.sizeOf79
  v46 := Tryz.zeroValue79
  t51 := Tryz.underlying138
  a51 := Tryz.isAgg138
  z51 := Tryz.sizeOf138
  v51 := Tryz.zeroValue138
  t59 := Tryz.underlying108
  a59 := Tryz.isAgg108
  z59 := Tryz.sizeOf108
  v59 := Tryz.zeroValue108
  t146 := Tryz.underlying139
  a146 := Tryz.isAgg139
  z146 := Tryz.sizeOf139
  v146 := Tryz.zeroValue139
  g1 := by kernel_rfl }
open Go.RowKit Go.Lib in
theorem Tryz.strings_Cut (s sep : ByteArray) (m : Int) (w : World) (hs : s.size < 4294967281) (hm : w.cell? ⟨0, 0, none⟩ = some (.int .i64 m)) :
    Calls Tryz.prog 71 #[.string s, .string sep] w fun e w' => e = .returned (.tuple #[.string ⟨(Lib.cut s.data.toList sep.data.toList).1.toArray⟩, .string ⟨(Lib.cut s.data.toList sep.data.toList).2.1.toArray⟩, .bool (Lib.cut s.data.toList sep.data.toList).2.2]) ∧ ∃ n, w' = w.drewN n := Any.strings_Cut Tryz.lays145 s sep m w hs hm
end Go.Proofs
