/- The contracts of Go's library at this dump that the proofs use, as the kit's own tool has printed them. Conditions: none. -/
import Derived.Test.YtajilipbnfpemaaDoorShelf
import Derived.Shelf.Strings.Builder1
import Derived.Shelf.Strings.Builder2
import Derived.Shelf.Strings.OnBuilder
import Derived.Shelf.Small.Wraps
import Derived.Shelf.Strings.BuilderF
import Derived.Shelf.Strings.BuilderK
import Derived.Shelf.Utf8.RuneCount
import Derived.Shelf.Strings.Builder2Cap
import Derived.Shelf.Strconv.Itoa0
import Derived.Shelf.Strconv.Itoa1
import Derived.Shelf.LaysM
import Derived.Shelf.Strconv.Itoa2
import Derived.Shelf.Strconv.Itoa3
import Derived.Shelf.Strconv.Itoa4
import Derived.Shelf.Strconv.ParseIntEmpty
import Derived.Shelf.Strconv.Clone
import Derived.Shelf.Strconv.SyntaxError
import Derived.Shelf.LaysC
import Derived.Shelf.Strconv.ToError
import Derived.Shelf.Strconv.Lower
import Derived.Shelf.Strconv.ParseUint10
import Derived.Shelf.Strconv.ParseUint10Empty
import Derived.Shelf.Strconv.ParseUint10Any
import Derived.Shelf.Strconv.ParseInt10
import Derived.Shelf.Strconv.RangeError
import Derived.Shelf.Strconv.ToErrorRange
import Derived.Shelf.Strconv.ParseUintEmpty
import Derived.Shelf.Strconv.ParseUint10b64
import Derived.Shelf.Strconv.ParseUint10b32
import Derived.Shelf.Strconv.ParseUint10b16
import Derived.Shelf.Strconv.ParseUint10b8
import Derived.Shelf.Strconv.ParseUint10At
import Derived.Shelf.Strconv.ParseInt10At64
import Derived.Shelf.Strconv.ParseInt10At32
import Derived.Shelf.Strconv.ParseInt10At16
import Derived.Shelf.Strconv.ParseInt10At8
import Derived.Shelf.Strconv.ParseInt10All
import Derived.Shelf.Strconv.ParseIntPublic10
import Derived.Shelf.Strconv.ErrVarParseInt
import Derived.Ground.MpProg
import Derived.Shelf.Pu.ParseUintPublic10
import Derived.Shelf.Pu.ErrVarParseUint
import Derived.Shelf.Strings.Search1
import Derived.Shelf.Strings.Search2
import Derived.Shelf.Strings.Search3
import Derived.Shelf.Strings.Cut
import Derived.Shelf.Strings.Count
import Derived.Shelf.Strings.Shaped
import Derived.Shelf.Strings.Prefix
import Derived.Shelf.Strings.Split
import Derived.Shelf.Strings.SplitShaped
import Derived.Shelf.Unicode.Decode
import Derived.Shelf.Strings.RuneCount
import Derived.Shelf.Strings.Explode
import Derived.Shelf.Bits.Mul64
import Derived.Shelf.Unicode.DecodeSlow
import Derived.Shelf.Unicode.DecodeAny
import Derived.Shelf.Strings.BuilderCap
import Derived.Ground.Names2Prog
import Derived.Shelf.Slices.SearchI
import Derived.Test.YtajilipbnfpemaaDoorProg
namespace Go.Proofs
open Go.Shelf
def Tryd.lays103_ren : Go.Shelf.Ren := ⟨fun | 103 => 68 | 210 => 92 | 206 => 113 | n => n, fun | 9 => 9 | 4 => 4 | 24 => 55 | 3 => 3 | n => n, fun | n => n⟩
theorem Tryd.lays103 : Go.Proofs.Lays.n103 Tryd.prog Tryd.lays103_ren := {
  mixed := by kernel_rfl
  f103 := Tryd.func68.trans (congrArg some (by kernel_rfl))
  f206 := Tryd.func113.trans (congrArg some (by kernel_rfl))
  f210 := Tryd.func92.trans (congrArg some (by kernel_rfl))
  t3 := Tryd.underlying3
  a3 := Tryd.isAgg3
  z3 := Tryd.sizeOf3
  v3 := Tryd.zeroValue3
  t4 := Tryd.underlying4
  a4 := Tryd.isAgg4
  z4 := Tryd.sizeOf4
  v4 := Tryd.zeroValue4
  t9 := Tryd.underlying9
  a9 := Tryd.isAgg9
  z9 := Tryd.sizeOf9
  v9 := Tryd.zeroValue9
  t24 := Tryd.underlying55
  a24 := Tryd.isAgg55
  z24 := Tryd.sizeOf55
  v24 := Tryd.zeroValue55 }
open Go.RowKit in
theorem Tryd.strings_CutPrefix (s p : ByteArray) (w : World) :
    Calls Tryd.prog 68 #[.string s, .string p] w fun e w' => e = .returned (.tuple #[.string ⟨(Lib.trimPrefix s.data.toList p.data.toList).toArray⟩, .bool (Lib.hasPrefix s.data.toList p.data.toList)]) ∧ w' = w := Any.strings_CutPrefix Tryd.lays103 s p w
def Tryd.laysC174_ren : Go.Shelf.Ren := ⟨fun | 174 => 114 | 247 => 130 | 245 => 119 | 287 => 118 | 279 => 138 | 280 => 139 | 281 => 140 | 282 => 141 | 321 => 136 | 322 => 137 | 316 => 150 | 171 => 65 | 205 => 151 | 243 => 87 | 246 => 107 | 283 => 121 | 284 => 122 | 285 => 123 | 286 => 124 | 129 => 143 | 317 => 142 | 318 => 144 | 319 => 145 | 320 => 146 | 337 => 152 | 338 => 153 | n => n, fun | 9 => 9 | 3 => 3 | 2 => 2 | 75 => 120 | 85 => 143 | 4 => 4 | 167 => 161 | 5 => 5 | 53 => 24 | 175 => 126 | 46 => 68 | 168 => 163 | 37 => 115 | 0 => 0 | 210 => 174 | 21 => 21 | 127 => 139 | 145 => 183 | 143 => 181 | 171 => 147 | 173 => 150 | 212 => 167 | 51 => 168 | 20 => 20 | 213 => 169 | 232 => 184 | 233 => 185 | 80 => 123 | n => n, fun | 15 => 2 | 16 => 3 | 17 => 1 | 18 => 6 | 19 => 7 | n => n⟩
theorem Tryd.laysC174 : Go.Proofs.LaysC.n174 Tryd.prog Tryd.laysC174_ren := {
  mixed := by kernel_rfl
  f129 := Tryd.func143.trans (congrArg some (by kernel_rfl))
  f171 := Tryd.func65.trans (congrArg some (by kernel_rfl))
  f174 := Tryd.func114.trans (congrArg some (by kernel_rfl))
  f205 := Tryd.func151.trans (congrArg some (by kernel_rfl))
  f243 := Tryd.func87.trans (congrArg some (by kernel_rfl))
  f245 := Tryd.func119.trans (congrArg some (by kernel_rfl))
  f246 := Tryd.func107.trans (congrArg some (by kernel_rfl))
  f247 := Tryd.func130.trans (congrArg some (by kernel_rfl))
  f279 := Tryd.func138.trans (congrArg some (by kernel_rfl))
  f280 := Tryd.func139.trans (congrArg some (by kernel_rfl))
  f281 := Tryd.func140.trans (congrArg some (by kernel_rfl))
  f282 := Tryd.func141.trans (congrArg some (by kernel_rfl))
  f283 := Tryd.func121.trans (congrArg some (by kernel_rfl))
  f284 := Tryd.func122.trans (congrArg some (by kernel_rfl))
  f285 := Tryd.func123.trans (congrArg some (by kernel_rfl))
  f286 := Tryd.func124.trans (congrArg some (by kernel_rfl))
  f287 := Tryd.func118.trans (congrArg some (by kernel_rfl))
  f316 := Tryd.func150.trans (congrArg some (by kernel_rfl))
  f317 := Tryd.func142.trans (congrArg some (by kernel_rfl))
  f318 := Tryd.func144.trans (congrArg some (by kernel_rfl))
  f319 := Tryd.func145.trans (congrArg some (by kernel_rfl))
  f320 := Tryd.func146.trans (congrArg some (by kernel_rfl))
  f321 := Tryd.func136.trans (congrArg some (by kernel_rfl))
  f322 := Tryd.func137.trans (congrArg some (by kernel_rfl))
  f337 := Tryd.func152.trans (congrArg some (by kernel_rfl))
  f338 := Tryd.func153.trans (congrArg some (by kernel_rfl))
  t0 := Tryd.underlying0
  a0 := Tryd.isAgg0
  z0 := Tryd.sizeOf0
  v0 := Tryd.zeroValue0
  t2 := Tryd.underlying2
  a2 := Tryd.isAgg2
  z2 := Tryd.sizeOf2
  v2 := Tryd.zeroValue2
  t3 := Tryd.underlying3
  a3 := Tryd.isAgg3
  z3 := Tryd.sizeOf3
  v3 := Tryd.zeroValue3
  t4 := Tryd.underlying4
  a4 := Tryd.isAgg4
  z4 := Tryd.sizeOf4
  v4 := Tryd.zeroValue4
  t5 := Tryd.underlying5
  a5 := Tryd.isAgg5
  z5 := Tryd.sizeOf5
  v5 := Tryd.zeroValue5
  t9 := Tryd.underlying9
  a9 := Tryd.isAgg9
  z9 := Tryd.sizeOf9
  v9 := Tryd.zeroValue9
  t20 := Tryd.underlying20
  a20 := Tryd.isAgg20
  z20 := Tryd.sizeOf20
  v20 := Tryd.zeroValue20
  t21 := Tryd.underlying21
  a21 := Tryd.isAgg21
  z21 := Tryd.sizeOf21
  v21 := Tryd.zeroValue21
  t37 := Tryd.underlying115
  a37 := Tryd.isAgg115
  z37 := Tryd.sizeOf115
  v37 := Tryd.zeroValue115
  t46 := Tryd.underlying68
  a46 := Tryd.isAgg68
  z46 := Tryd.sizeOf68
  v46 := Tryd.zeroValue68
  t51 := Tryd.underlying168
  a51 := Tryd.isAgg168
  z51 := Tryd.sizeOf168
  v51 := Tryd.zeroValue168
  t53 := Tryd.underlying24
  a53 := Tryd.isAgg24
  z53 := Tryd.sizeOf24
  v53 := Tryd.zeroValue24
  t75 := Tryd.underlying120
  a75 := Tryd.isAgg120
  z75 := Tryd.sizeOf120
  v75 := Tryd.zeroValue120
  t85 := Tryd.underlying143
  a85 := Tryd.isAgg143
  z85 := Tryd.sizeOf143
  v85 := Tryd.zeroValue143
  t127 := Tryd.underlying139
  a127 := Tryd.isAgg139
  z127 := Tryd.sizeOf139
  v127 := Tryd.zeroValue139
  t143 := Tryd.underlying181
  a143 := Tryd.isAgg181
  z143 := Tryd.sizeOf181
  v143 := Tryd.zeroValue181
  t145 := Tryd.underlying183
  a145 := Tryd.isAgg183
  z145 := Tryd.sizeOf183
  v145 := Tryd.zeroValue183
  t167 := Tryd.underlying161
  a167 := Tryd.isAgg161
  z167 := Tryd.sizeOf161
  v167 := Tryd.zeroValue161
  t168 := Tryd.underlying163
  a168 := Tryd.isAgg163
  z168 := Tryd.sizeOf163
  v168 := Tryd.zeroValue163
  t171 := Tryd.underlying147
  a171 := Tryd.isAgg147
  z171 := Tryd.sizeOf147
  v171 := Tryd.zeroValue147
  t173 := Tryd.underlying150
  a173 := Tryd.isAgg150
  z173 := Tryd.sizeOf150
  v173 := Tryd.zeroValue150
  t175 := Tryd.underlying126
  a175 := Tryd.isAgg126
  z175 := Tryd.sizeOf126
  v175 := Tryd.zeroValue126
  t210 := Tryd.underlying174
  a210 := Tryd.isAgg174
  z210 := Tryd.sizeOf174
  v210 := Tryd.zeroValue174
  t212 := Tryd.underlying167
  a212 := Tryd.isAgg167
  z212 := Tryd.sizeOf167
  v212 := Tryd.zeroValue167
  t213 := Tryd.underlying169
  a213 := Tryd.isAgg169
  z213 := Tryd.sizeOf169
  t232 := Tryd.underlying184
  a232 := Tryd.isAgg184
  z232 := Tryd.sizeOf184
  v232 := Tryd.zeroValue184
  t233 := Tryd.underlying185
  a233 := Tryd.isAgg185
  z233 := Tryd.sizeOf185
  v233 := Tryd.zeroValue185
  g15 := by kernel_rfl
  g16 := by kernel_rfl
  g17 := by kernel_rfl
  g18 := by kernel_rfl
  g19 := by kernel_rfl
  t80 := Tryd.underlying123
  a80 := Tryd.isAgg123
  z80 := Tryd.sizeOf123
  v80 := Tryd.zeroValue123
  i0 := by kernel_rfl
  i2 := by kernel_rfl
  i3 := by kernel_rfl
  i4 := by kernel_rfl
  i5 := by kernel_rfl
  i9 := by kernel_rfl
  i20 := by kernel_rfl
  i21 := by kernel_rfl
  i37 := by kernel_rfl
  i46 := by kernel_rfl
  i51 := by kernel_rfl
  i53 := by kernel_rfl
  i75 := by kernel_rfl
  i80 := by kernel_rfl
  i85 := by kernel_rfl
  i127 := by kernel_rfl
  i143 := by kernel_rfl
  i145 := by kernel_rfl
  i167 := by kernel_rfl
  i168 := by kernel_rfl
  i171 := by kernel_rfl
  i173 := by kernel_rfl
  i175 := by kernel_rfl
  i210 := by kernel_rfl
  i212 := by kernel_rfl
  i232 := by kernel_rfl
  i233 := by kernel_rfl
  m15 := by kernel_rfl
  m16 := by kernel_rfl
  m17 := by kernel_rfl
  m18 := by kernel_rfl
  m19 := by kernel_rfl
  c0 := by kernel_rfl
  c2 := by kernel_rfl
  c3 := by kernel_rfl
  c4 := by kernel_rfl
  c5 := by kernel_rfl
  c9 := by kernel_rfl
  c20 := by kernel_rfl
  c21 := by kernel_rfl
  c37 := by kernel_rfl
  c46 := by kernel_rfl
  c51 := by kernel_rfl
  c53 := by kernel_rfl
  c75 := by kernel_rfl
  c80 := by kernel_rfl
  c85 := by kernel_rfl
  c127 := by kernel_rfl
  c143 := by kernel_rfl
  c145 := by kernel_rfl
  c167 := by kernel_rfl
  c168 := by kernel_rfl
  c171 := by kernel_rfl
  c173 := by kernel_rfl
  c175 := by kernel_rfl
  c210 := by kernel_rfl
  c212 := by kernel_rfl
  c213 := by kernel_rfl
  c232 := by kernel_rfl
  c233 := by kernel_rfl }
open Go.RowKit in
theorem Tryd.strconv_ParseInt_10_at64_ok (s : ByteArray) (hmax : s.size ≤ 9223372036854775806) (v : Int) (h : Lib.parseIntB 64 s.data.toList = .ok v) (w : World) :
    Calls Tryd.prog 114 #[.string s, .int .i64 10, .int .i64 64] w fun e w' => e = .returned (.tuple #[.int .i64 v, .nilIface]) ∧ (w' = w ∨ ∃ t, w' = Lib.bytesWorld w 5 t) := Any.strconv_ParseInt_10_at64_ok Tryd.laysC174 s hmax v h w
def Tryd.laysPu14_ren : Go.Shelf.Ren := ⟨fun | 14 => 98 | 16 => 118 | 17 => 119 | 19 => 136 | 20 => 137 | 21 => 138 | 22 => 139 | 23 => 140 | 24 => 141 | 25 => 150 | 27 => 65 | 26 => 151 | 28 => 87 | 29 => 107 | 30 => 121 | 31 => 122 | 32 => 123 | 33 => 124 | 35 => 143 | 34 => 142 | 36 => 144 | 37 => 145 | 38 => 146 | 39 => 152 | 40 => 153 | n => n, fun | 9 => 9 | 3 => 3 | 22 => 24 | 24 => 120 | 25 => 126 | 4 => 4 | 34 => 161 | 5 => 5 | 36 => 68 | 37 => 115 | 0 => 0 | 39 => 163 | 21 => 21 | 44 => 174 | 47 => 139 | 50 => 183 | 48 => 181 | 2 => 2 | 52 => 147 | 55 => 150 | 59 => 167 | 60 => 168 | 20 => 20 | 61 => 169 | 65 => 184 | 66 => 185 | 67 => 123 | n => n, fun | 0 => 2 | 1 => 3 | 2 => 1 | 3 => 6 | 4 => 7 | n => n⟩
theorem Tryd.laysPu14 : Go.Proofs.LaysPu.n14 Tryd.prog Tryd.laysPu14_ren := {
  mixed := by kernel_rfl
  f14 := Tryd.func98.trans (congrArg some (by kernel_rfl))
  f16 := Tryd.func118.trans (congrArg some (by kernel_rfl))
  f17 := Tryd.func119.trans (congrArg some (by kernel_rfl))
  f19 := Tryd.func136.trans (congrArg some (by kernel_rfl))
  f20 := Tryd.func137.trans (congrArg some (by kernel_rfl))
  f21 := Tryd.func138.trans (congrArg some (by kernel_rfl))
  f22 := Tryd.func139.trans (congrArg some (by kernel_rfl))
  f23 := Tryd.func140.trans (congrArg some (by kernel_rfl))
  f24 := Tryd.func141.trans (congrArg some (by kernel_rfl))
  f25 := Tryd.func150.trans (congrArg some (by kernel_rfl))
  f26 := Tryd.func151.trans (congrArg some (by kernel_rfl))
  f27 := Tryd.func65.trans (congrArg some (by kernel_rfl))
  f28 := Tryd.func87.trans (congrArg some (by kernel_rfl))
  f29 := Tryd.func107.trans (congrArg some (by kernel_rfl))
  f30 := Tryd.func121.trans (congrArg some (by kernel_rfl))
  f31 := Tryd.func122.trans (congrArg some (by kernel_rfl))
  f32 := Tryd.func123.trans (congrArg some (by kernel_rfl))
  f33 := Tryd.func124.trans (congrArg some (by kernel_rfl))
  f34 := Tryd.func142.trans (congrArg some (by kernel_rfl))
  f35 := Tryd.func143.trans (congrArg some (by kernel_rfl))
  f36 := Tryd.func144.trans (congrArg some (by kernel_rfl))
  f37 := Tryd.func145.trans (congrArg some (by kernel_rfl))
  f38 := Tryd.func146.trans (congrArg some (by kernel_rfl))
  f39 := Tryd.func152.trans (congrArg some (by kernel_rfl))
  f40 := Tryd.func153.trans (congrArg some (by kernel_rfl))
  t0 := Tryd.underlying0
  a0 := Tryd.isAgg0
  z0 := Tryd.sizeOf0
  v0 := Tryd.zeroValue0
  i0 := by kernel_rfl
  t2 := Tryd.underlying2
  a2 := Tryd.isAgg2
  z2 := Tryd.sizeOf2
  v2 := Tryd.zeroValue2
  i2 := by kernel_rfl
  t3 := Tryd.underlying3
  a3 := Tryd.isAgg3
  z3 := Tryd.sizeOf3
  v3 := Tryd.zeroValue3
  i3 := by kernel_rfl
  t4 := Tryd.underlying4
  a4 := Tryd.isAgg4
  z4 := Tryd.sizeOf4
  v4 := Tryd.zeroValue4
  i4 := by kernel_rfl
  t5 := Tryd.underlying5
  a5 := Tryd.isAgg5
  z5 := Tryd.sizeOf5
  v5 := Tryd.zeroValue5
  i5 := by kernel_rfl
  t9 := Tryd.underlying9
  a9 := Tryd.isAgg9
  z9 := Tryd.sizeOf9
  v9 := Tryd.zeroValue9
  i9 := by kernel_rfl
  t20 := Tryd.underlying20
  a20 := Tryd.isAgg20
  z20 := Tryd.sizeOf20
  v20 := Tryd.zeroValue20
  i20 := by kernel_rfl
  t21 := Tryd.underlying21
  a21 := Tryd.isAgg21
  z21 := Tryd.sizeOf21
  v21 := Tryd.zeroValue21
  i21 := by kernel_rfl
  t22 := Tryd.underlying24
  a22 := Tryd.isAgg24
  z22 := Tryd.sizeOf24
  v22 := Tryd.zeroValue24
  i22 := by kernel_rfl
  t24 := Tryd.underlying120
  a24 := Tryd.isAgg120
  z24 := Tryd.sizeOf120
  v24 := Tryd.zeroValue120
  i24 := by kernel_rfl
  t25 := Tryd.underlying126
  a25 := Tryd.isAgg126
  z25 := Tryd.sizeOf126
  v25 := Tryd.zeroValue126
  i25 := by kernel_rfl
  t34 := Tryd.underlying161
  a34 := Tryd.isAgg161
  z34 := Tryd.sizeOf161
  v34 := Tryd.zeroValue161
  i34 := by kernel_rfl
  c34 := by kernel_rfl
  t36 := Tryd.underlying68
  a36 := Tryd.isAgg68
  z36 := Tryd.sizeOf68
  v36 := Tryd.zeroValue68
  i36 := by kernel_rfl
  t37 := Tryd.underlying115
  a37 := Tryd.isAgg115
  z37 := Tryd.sizeOf115
  v37 := Tryd.zeroValue115
  i37 := by kernel_rfl
  t39 := Tryd.underlying163
  a39 := Tryd.isAgg163
  z39 := Tryd.sizeOf163
  v39 := Tryd.zeroValue163
  i39 := by kernel_rfl
  t44 := Tryd.underlying174
  a44 := Tryd.isAgg174
  z44 := Tryd.sizeOf174
  v44 := Tryd.zeroValue174
  i44 := by kernel_rfl
  t47 := Tryd.underlying139
  a47 := Tryd.isAgg139
  z47 := Tryd.sizeOf139
  v47 := Tryd.zeroValue139
  i47 := by kernel_rfl
  t48 := Tryd.underlying181
  a48 := Tryd.isAgg181
  z48 := Tryd.sizeOf181
  v48 := Tryd.zeroValue181
  i48 := by kernel_rfl
  t50 := Tryd.underlying183
  a50 := Tryd.isAgg183
  z50 := Tryd.sizeOf183
  v50 := Tryd.zeroValue183
  i50 := by kernel_rfl
  t52 := Tryd.underlying147
  a52 := Tryd.isAgg147
  z52 := Tryd.sizeOf147
  v52 := Tryd.zeroValue147
  i52 := by kernel_rfl
  t55 := Tryd.underlying150
  a55 := Tryd.isAgg150
  z55 := Tryd.sizeOf150
  v55 := Tryd.zeroValue150
  i55 := by kernel_rfl
  t59 := Tryd.underlying167
  a59 := Tryd.isAgg167
  z59 := Tryd.sizeOf167
  v59 := Tryd.zeroValue167
  i59 := by kernel_rfl
  t60 := Tryd.underlying168
  a60 := Tryd.isAgg168
  z60 := Tryd.sizeOf168
  v60 := Tryd.zeroValue168
  i60 := by kernel_rfl
  t61 := Tryd.underlying169
  a61 := Tryd.isAgg169
  z61 := Tryd.sizeOf169
  t65 := Tryd.underlying184
  a65 := Tryd.isAgg184
  z65 := Tryd.sizeOf184
  v65 := Tryd.zeroValue184
  i65 := by kernel_rfl
  t66 := Tryd.underlying185
  a66 := Tryd.isAgg185
  z66 := Tryd.sizeOf185
  v66 := Tryd.zeroValue185
  i66 := by kernel_rfl
  t67 := Tryd.underlying123
  a67 := Tryd.isAgg123
  z67 := Tryd.sizeOf123
  v67 := Tryd.zeroValue123
  i67 := by kernel_rfl
  g0 := by kernel_rfl
  m0 := by kernel_rfl
  g1 := by kernel_rfl
  m1 := by kernel_rfl
  g2 := by kernel_rfl
  m2 := by kernel_rfl
  g3 := by kernel_rfl
  m3 := by kernel_rfl
  g4 := by kernel_rfl
  m4 := by kernel_rfl }
open Go.RowKit in
theorem Tryd.strconv_ParseUint_10_at64_ok (s : ByteArray) (hmax : s.size ≤ 9223372036854775806) (u : Nat) (h : Lib.parseUintB 64 s.data.toList = .ok u) (w : World) :
    Calls Tryd.prog 98 #[.string s, .int .i64 10, .int .i64 64] w fun e w' => e = .returned (.tuple #[.int .u64 u, .nilIface]) ∧ (w' = w ∨ w' = Lib.bytesWorld w 5 s) := Any.strconv_ParseUint_10_at64_ok Tryd.laysPu14 s hmax u h w
def Tryd.lays145_ren : Go.Shelf.Ren := ⟨fun | 145 => 73 | 220 => 96 | 219 => 117 | 217 => 132 | 225 => 133 | 224 => 134 | 267 => 135 | 266 => 148 | 314 => 149 | n => n, fun | 9 => 9 | 4 => 4 | 59 => 98 | 3 => 3 | 5 => 5 | 46 => 68 | 146 => 171 | 51 => 168 | n => n, fun | 1 => 0 | n => n⟩
theorem Tryd.lays145 : Go.Proofs.Lays.n145 Tryd.prog Tryd.lays145_ren := {
  mixed := by kernel_rfl
  f145 := Tryd.func73.trans (congrArg some (by kernel_rfl))
  f217 := Tryd.func132.trans (congrArg some (by kernel_rfl))
  f219 := Tryd.func117.trans (congrArg some (by kernel_rfl))
  f220 := Tryd.func96.trans (congrArg some (by kernel_rfl))
  f224 := Tryd.func134.trans (congrArg some (by kernel_rfl))
  f225 := Tryd.func133.trans (congrArg some (by kernel_rfl))
  f266 := Tryd.func148.trans (congrArg some (by kernel_rfl))
  f267 := Tryd.func135.trans (congrArg some (by kernel_rfl))
  f314 := Tryd.func149.trans (congrArg some (by kernel_rfl))
  t3 := Tryd.underlying3
  a3 := Tryd.isAgg3
  z3 := Tryd.sizeOf3
  v3 := Tryd.zeroValue3
  t4 := Tryd.underlying4
  a4 := Tryd.isAgg4
  z4 := Tryd.sizeOf4
  v4 := Tryd.zeroValue4
  t5 := Tryd.underlying5
  a5 := Tryd.isAgg5
  z5 := Tryd.sizeOf5
  v5 := Tryd.zeroValue5
  t9 := Tryd.underlying9
  a9 := Tryd.isAgg9
  z9 := Tryd.sizeOf9
  v9 := Tryd.zeroValue9
  t46 := Tryd.underlying68
  a46 := Tryd.isAgg68
  z46 := Tryd.sizeOf68
  v46 := Tryd.zeroValue68
  t51 := Tryd.underlying168
  a51 := Tryd.isAgg168
  z51 := Tryd.sizeOf168
  v51 := Tryd.zeroValue168
  t59 := Tryd.underlying98
  a59 := Tryd.isAgg98
  z59 := Tryd.sizeOf98
  v59 := Tryd.zeroValue98
  t146 := Tryd.underlying171
  a146 := Tryd.isAgg171
  z146 := Tryd.sizeOf171
  v146 := Tryd.zeroValue171
  g1 := by kernel_rfl }
open Go.RowKit Go.Lib in
theorem Tryd.strings_Cut (s sep : ByteArray) (m : Int) (w : World) (hs : s.size < 4294967281) (hm : w.cell? ⟨0, 0, none⟩ = some (.int .i64 m)) :
    Calls Tryd.prog 73 #[.string s, .string sep] w fun e w' => e = .returned (.tuple #[.string ⟨(Lib.cut s.data.toList sep.data.toList).1.toArray⟩, .string ⟨(Lib.cut s.data.toList sep.data.toList).2.1.toArray⟩, .bool (Lib.cut s.data.toList sep.data.toList).2.2]) ∧ ∃ n, w' = w.drewN n := Any.strings_Cut Tryd.lays145 s sep m w hs hm
end Go.Proofs
