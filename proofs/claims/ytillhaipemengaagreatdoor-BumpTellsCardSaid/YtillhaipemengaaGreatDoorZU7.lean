/- The texts Shelf in one file, without what these claims do not use (put together by prune2.py). -/
import Derived.Shelf.Strings.SlTrimAscii
import Derived.Shelf.Strings.Trim
import Derived.Shelf.Small.Utf8
import Derived.Shelf.Small.Bits
import Derived.Shelf.Small.Strs
import Derived.Shelf.Small.Wraps
import Derived.Shelf.Strconv.Atoi
import Derived.Shelf.Strconv.Itoa0
import Derived.Shelf.Strconv.Itoa1
import Derived.Shelf.LaysM
import Derived.Shelf.Strconv.Itoa2
import Derived.Shelf.Strconv.Itoa3
import Derived.Shelf.Strconv.AtoiErrFast
import Derived.Shelf.Strconv.ParseIntEmpty
import Derived.Shelf.Strconv.AtoiFail
import Derived.Shelf.Strconv.Clone
import Derived.Shelf.Strconv.SyntaxError
import Derived.Shelf.LaysC
import Derived.Shelf.Strconv.ToError
import Derived.Shelf.Strconv.Lower
import Derived.Shelf.Strconv.ParseUint10
import Derived.Shelf.Strconv.ParseUint10Empty
import Derived.Shelf.Strconv.ParseUint10Any
import Derived.Shelf.Strconv.ParseInt10
import Derived.Shelf.Strconv.AtoiLong
import Derived.Shelf.Strconv.AtoiInnerAll
import Derived.Shelf.Strconv.RangeError
import Derived.Shelf.Strconv.ToErrorRange
import Derived.Shelf.Strconv.AtoiAll
import Derived.Shelf.Strconv.ErrVarAll
import Derived.Shelf.Strings.Search1
import Derived.Shelf.Strings.Search2
import Derived.Shelf.Strings.Search3
import Derived.Shelf.Strings.Count
import Derived.Shelf.Strings.Shaped
import Derived.Shelf.Sort.Plain
import Derived.Shelf.Strings.LastIndex
import Derived.Shelf.Strings.LastIndexAll
import Derived.Shelf.Strings.Prefix
import Derived.Shelf.Strings.Split
import Derived.Shelf.Strings.SplitShaped
import Derived.Shelf.Strings.Runes
import Derived.Shelf.Strings.AsciiSet
import Derived.Shelf.Unicode.DecodeSlow
import Derived.Shelf.Slices.CompactS
import Derived.Shelf.Slices.Cells
import Derived.Shelf.Slices.In.SortNone
import Derived.Ground.SlgnProg
import Derived.Shelf.SlicesE.Clone
import Derived.Test.YtillhaipemengaaGreatDoorProg
section
namespace Go.Proofs
open Go.Shelf
def Tryz.lays160_ren : Go.Shelf.Ren := ⟨fun | 160 => 96 | 232 => 121 | 231 => 120 | 227 => 122 | 234 => 124 | 233 => 123 | 236 => 126 | 235 => 125 | 228 => 147 | 271 => 150 | 151 => 149 | 197 => 148 | 120 => 176 | 152 => 175 | 260 => 174 | 137 => 195 | 119 => 196 | 224 => 193 | 225 => 192 | 217 => 191 | 266 => 205 | n => n, fun | 9 => 9 | 4 => 4 | 3 => 3 | 5 => 5 | 117 => 153 | 116 => 152 | 0 => 0 | 124 => 156 | 21 => 21 | 105 => 168 | 46 => 164 | 119 => 209 | 139 => 212 | 138 => 211 | n => n, fun | 3 => 3 | 4 => 4 | n => n⟩
theorem Tryz.lays160 : Go.Proofs.Lays.n160 Tryz.prog Tryz.lays160_ren := {
  mixed := by kernel_rfl
  f119 := Tryz.func196.trans (congrArg some (by kernel_rfl))
  f120 := Tryz.func176.trans (congrArg some (by kernel_rfl))
  f137 := Tryz.func195.trans (congrArg some (by kernel_rfl))
  f151 := Tryz.func149.trans (congrArg some (by kernel_rfl))
  f152 := Tryz.func175.trans (congrArg some (by kernel_rfl))
  f160 := Tryz.func96.trans (congrArg some (by kernel_rfl))
  f197 := Tryz.func148.trans (congrArg some (by kernel_rfl))
  f217 := Tryz.func191.trans (congrArg some (by kernel_rfl))
  f224 := Tryz.func193.trans (congrArg some (by kernel_rfl))
  f225 := Tryz.func192.trans (congrArg some (by kernel_rfl))
  f227 := Tryz.func122.trans (congrArg some (by kernel_rfl))
  f228 := Tryz.func147.trans (congrArg some (by kernel_rfl))
  f231 := Tryz.func120.trans (congrArg some (by kernel_rfl))
  f232 := Tryz.func121.trans (congrArg some (by kernel_rfl))
  f233 := Tryz.func123.trans (congrArg some (by kernel_rfl))
  f234 := Tryz.func124.trans (congrArg some (by kernel_rfl))
  f235 := Tryz.func125.trans (congrArg some (by kernel_rfl))
  f236 := Tryz.func126.trans (congrArg some (by kernel_rfl))
  f260 := Tryz.func174.trans (congrArg some (by kernel_rfl))
  f266 := Tryz.func205.trans (congrArg some (by kernel_rfl))
  f271 := Tryz.func150.trans (congrArg some (by kernel_rfl))
  t0 := Tryz.underlying0
  a0 := Tryz.isAgg0
  z0 := Tryz.sizeOf0
  v0 := Tryz.zeroValue0
  t3 := Tryz.underlying3
  a3 := Tryz.isAgg3
  z3 := Tryz.sizeOf3
  v3 := Tryz.zeroValue3
  t4 := Tryz.underlying4
  a4 := Tryz.isAgg4
  z4 := Tryz.sizeOf4
  v4 := Tryz.zeroValue4
  t5 := Tryz.underlying5
  a5 := Tryz.isAgg5
  z5 := Tryz.sizeOf5
  v5 := Tryz.zeroValue5
  t9 := Tryz.underlying9
  a9 := Tryz.isAgg9
  z9 := Tryz.sizeOf9
  v9 := Tryz.zeroValue9
  t21 := Tryz.underlying21
  a21 := Tryz.isAgg21
  z21 := Tryz.sizeOf21
  v21 := Tryz.zeroValue21
  t46 := Tryz.underlying164
  a46 := Tryz.isAgg164
  z46 := Tryz.sizeOf164
  v46 := Tryz.zeroValue164
  t105 := Tryz.underlying168
  a105 := Tryz.isAgg168
  z105 := Tryz.sizeOf168
  v105 := Tryz.zeroValue168
  t116 := Tryz.underlying152
  a116 := Tryz.isAgg152
  z116 := Tryz.sizeOf152
  t117 := Tryz.underlying153
  a117 := Tryz.isAgg153
  z117 := Tryz.sizeOf153
  v117 := Tryz.zeroValue153
  t119 := Tryz.underlying209
  a119 := Tryz.isAgg209
  z119 := Tryz.sizeOf209
  t124 := Tryz.underlying156
  a124 := Tryz.isAgg156
  z124 := Tryz.sizeOf156
  v124 := Tryz.zeroValue156
  t138 := Tryz.underlying211
  a138 := Tryz.isAgg211
  z138 := Tryz.sizeOf211
  v138 := Tryz.zeroValue211
  t139 := Tryz.underlying212
  a139 := Tryz.isAgg212
  z139 := Tryz.sizeOf212
  v139 := Tryz.zeroValue212
  g3 := by kernel_rfl
  g4 := by kernel_rfl }
def Tryz.lays106_ren : Go.Shelf.Ren := ⟨fun | 106 => 158 | 213 => 184 | 265 => 203 | n => n, fun | 9 => 9 | 3 => 3 | n => n, fun | n => n⟩
theorem Tryz.lays106 : Go.Proofs.Lays.n106 Tryz.prog Tryz.lays106_ren := {
  mixed := by kernel_rfl
  f106 := Tryz.func158.trans (congrArg some (by kernel_rfl))
  f213 := Tryz.func184.trans (congrArg some (by kernel_rfl))
  f265 := Tryz.func203.trans (congrArg some (by kernel_rfl))
  t3 := Tryz.underlying3
  a3 := Tryz.isAgg3
  z3 := Tryz.sizeOf3
  v3 := Tryz.zeroValue3
  t9 := Tryz.underlying9
  a9 := Tryz.isAgg9
  z9 := Tryz.sizeOf9
  v9 := Tryz.zeroValue9 }
open Go.RowKit in
theorem Tryz.strings_Compare (a b : ByteArray) (w : World) :
    Calls Tryz.prog 158 #[.string a, .string b] w fun e w' => e = .returned (.int .i64 (Lib.compareBytes a.data.toList b.data.toList)) ∧ w' = w := Any.strings_Compare Tryz.lays106 a b w
def Tryz.lays103_ren : Go.Shelf.Ren := ⟨fun | 103 => 95 | 210 => 119 | 206 => 146 | n => n, fun | 9 => 9 | 4 => 4 | 24 => 128 | 3 => 3 | n => n, fun | n => n⟩
theorem Tryz.lays103 : Go.Proofs.Lays.n103 Tryz.prog Tryz.lays103_ren := {
  mixed := by kernel_rfl
  f103 := Tryz.func95.trans (congrArg some (by kernel_rfl))
  f206 := Tryz.func146.trans (congrArg some (by kernel_rfl))
  f210 := Tryz.func119.trans (congrArg some (by kernel_rfl))
  t3 := Tryz.underlying3
  a3 := Tryz.isAgg3
  z3 := Tryz.sizeOf3
  v3 := Tryz.zeroValue3
  t4 := Tryz.underlying4
  a4 := Tryz.isAgg4
  z4 := Tryz.sizeOf4
  v4 := Tryz.zeroValue4
  t9 := Tryz.underlying9
  a9 := Tryz.isAgg9
  z9 := Tryz.sizeOf9
  v9 := Tryz.zeroValue9
  t24 := Tryz.underlying128
  a24 := Tryz.isAgg128
  z24 := Tryz.sizeOf128
  v24 := Tryz.zeroValue128 }
open Go.RowKit in
theorem Tryz.strings_CutPrefix (s p : ByteArray) (w : World) :
    Calls Tryz.prog 95 #[.string s, .string p] w fun e w' => e = .returned (.tuple #[.string ⟨(Lib.trimPrefix s.data.toList p.data.toList).toArray⟩, .bool (Lib.hasPrefix s.data.toList p.data.toList)]) ∧ w' = w := Any.strings_CutPrefix Tryz.lays103 s p w
def Tryz.laysM171_ren : Go.Shelf.Ren := ⟨fun | 171 => 98 | 243 => 129 | 246 => 156 | 283 => 180 | 284 => 181 | 285 => 182 | 286 => 183 | 129 => 170 | 317 => 199 | 318 => 200 | 319 => 201 | 320 => 202 | 337 => 207 | 338 => 208 | n => n, fun | 3 => 3 | 9 => 9 | 2 => 2 | 4 => 4 | 171 => 198 | 0 => 0 | 53 => 191 | 37 => 172 | 5 => 5 | 173 => 200 | 212 => 219 | 51 => 179 | 20 => 20 | 213 => 220 | 46 => 164 | 232 => 224 | 233 => 225 | n => n, fun | 17 => 5 | 18 => 6 | 19 => 7 | n => n⟩
theorem Tryz.laysM171 : Go.Proofs.LaysM.n171 Tryz.prog Tryz.laysM171_ren := {
  mixed := by kernel_rfl
  f129 := Tryz.func170.trans (congrArg some (by kernel_rfl))
  f171 := Tryz.func98.trans (congrArg some (by kernel_rfl))
  f243 := Tryz.func129.trans (congrArg some (by kernel_rfl))
  f246 := Tryz.func156.trans (congrArg some (by kernel_rfl))
  f283 := Tryz.func180.trans (congrArg some (by kernel_rfl))
  f284 := Tryz.func181.trans (congrArg some (by kernel_rfl))
  f285 := Tryz.func182.trans (congrArg some (by kernel_rfl))
  f286 := Tryz.func183.trans (congrArg some (by kernel_rfl))
  f317 := Tryz.func199.trans (congrArg some (by kernel_rfl))
  f318 := Tryz.func200.trans (congrArg some (by kernel_rfl))
  f319 := Tryz.func201.trans (congrArg some (by kernel_rfl))
  f320 := Tryz.func202.trans (congrArg some (by kernel_rfl))
  f337 := Tryz.func207.trans (congrArg some (by kernel_rfl))
  f338 := Tryz.func208.trans (congrArg some (by kernel_rfl))
  t0 := Tryz.underlying0
  a0 := Tryz.isAgg0
  z0 := Tryz.sizeOf0
  v0 := Tryz.zeroValue0
  t2 := Tryz.underlying2
  a2 := Tryz.isAgg2
  z2 := Tryz.sizeOf2
  v2 := Tryz.zeroValue2
  t3 := Tryz.underlying3
  a3 := Tryz.isAgg3
  z3 := Tryz.sizeOf3
  v3 := Tryz.zeroValue3
  t4 := Tryz.underlying4
  a4 := Tryz.isAgg4
  z4 := Tryz.sizeOf4
  v4 := Tryz.zeroValue4
  t5 := Tryz.underlying5
  a5 := Tryz.isAgg5
  z5 := Tryz.sizeOf5
  v5 := Tryz.zeroValue5
  t9 := Tryz.underlying9
  a9 := Tryz.isAgg9
  z9 := Tryz.sizeOf9
  v9 := Tryz.zeroValue9
  t20 := Tryz.underlying20
  a20 := Tryz.isAgg20
  z20 := Tryz.sizeOf20
  v20 := Tryz.zeroValue20
  t37 := Tryz.underlying172
  a37 := Tryz.isAgg172
  z37 := Tryz.sizeOf172
  v37 := Tryz.zeroValue172
  t46 := Tryz.underlying164
  a46 := Tryz.isAgg164
  z46 := Tryz.sizeOf164
  v46 := Tryz.zeroValue164
  t51 := Tryz.underlying179
  a51 := Tryz.isAgg179
  z51 := Tryz.sizeOf179
  v51 := Tryz.zeroValue179
  t53 := Tryz.underlying191
  a53 := Tryz.isAgg191
  z53 := Tryz.sizeOf191
  v53 := Tryz.zeroValue191
  t171 := Tryz.underlying198
  a171 := Tryz.isAgg198
  z171 := Tryz.sizeOf198
  v171 := Tryz.zeroValue198
  t173 := Tryz.underlying200
  a173 := Tryz.isAgg200
  z173 := Tryz.sizeOf200
  v173 := Tryz.zeroValue200
  t212 := Tryz.underlying219
  a212 := Tryz.isAgg219
  z212 := Tryz.sizeOf219
  v212 := Tryz.zeroValue219
  t213 := Tryz.underlying220
  a213 := Tryz.isAgg220
  z213 := Tryz.sizeOf220
  t232 := Tryz.underlying224
  a232 := Tryz.isAgg224
  z232 := Tryz.sizeOf224
  v232 := Tryz.zeroValue224
  t233 := Tryz.underlying225
  a233 := Tryz.isAgg225
  z233 := Tryz.sizeOf225
  v233 := Tryz.zeroValue225
  g17 := by kernel_rfl
  g18 := by kernel_rfl
  g19 := by kernel_rfl
  i0 := by kernel_rfl
  i2 := by kernel_rfl
  i3 := by kernel_rfl
  i4 := by kernel_rfl
  i5 := by kernel_rfl
  i9 := by kernel_rfl
  i20 := by kernel_rfl
  i37 := by kernel_rfl
  i46 := by kernel_rfl
  i51 := by kernel_rfl
  i53 := by kernel_rfl
  i171 := by kernel_rfl
  i173 := by kernel_rfl
  i212 := by kernel_rfl
  i232 := by kernel_rfl
  i233 := by kernel_rfl
  m17 := by kernel_rfl
  m18 := by kernel_rfl
  m19 := by kernel_rfl }
open Go.RowKit Go.Sort Go.Lib in
theorem Tryz.strconv_Itoa (n : Int) (h0 : -9223372036854775808 ≤ n) (h1 : n ≤ 9223372036854775807) (w : World) (htab : Lib.TabIs Tryz.prog w "internal/strconv.uint64pow10" .u64 Lib.pow10Tab) :
    Calls Tryz.prog 98 #[.int .i64 n] w fun e w' => e = .returned (.string ⟨(Lib.itoa n).toArray⟩) ∧ ∃ k os, w' = grow (w.drewN k) os := Any.strconv_Itoa Tryz.laysM171 n h0 h1 w htab
def Tryz.laysC172_ren : Go.Shelf.Ren := ⟨fun | 172 => 97 | 244 => 127 | 245 => 128 | 247 => 151 | 279 => 152 | 280 => 153 | 281 => 154 | 282 => 155 | 287 => 177 | 316 => 178 | 171 => 98 | 205 => 179 | 321 => 197 | 322 => 198 | 243 => 129 | 246 => 156 | 283 => 180 | 284 => 181 | 285 => 182 | 286 => 183 | 129 => 170 | 317 => 199 | 318 => 200 | 319 => 201 | 320 => 202 | 337 => 207 | 338 => 208 | n => n, fun | 9 => 9 | 3 => 3 | 75 => 132 | 76 => 133 | 4 => 4 | 5 => 5 | 167 => 171 | 37 => 172 | 0 => 0 | 85 => 173 | 2 => 2 | 168 => 175 | 53 => 191 | 175 => 193 | 46 => 164 | 210 => 196 | 127 => 215 | 145 => 218 | 143 => 216 | 21 => 21 | 171 => 198 | 173 => 200 | 212 => 219 | 51 => 179 | 20 => 20 | 213 => 220 | 232 => 224 | 233 => 225 | 80 => 226 | n => n, fun | 15 => 1 | 16 => 2 | 17 => 5 | 18 => 6 | 19 => 7 | n => n⟩
theorem Tryz.laysC172 : Go.Proofs.LaysC.n172 Tryz.prog Tryz.laysC172_ren := {
  mixed := by kernel_rfl
  f129 := Tryz.func170.trans (congrArg some (by kernel_rfl))
  f171 := Tryz.func98.trans (congrArg some (by kernel_rfl))
  f172 := Tryz.func97.trans (congrArg some (by kernel_rfl))
  f205 := Tryz.func179.trans (congrArg some (by kernel_rfl))
  f243 := Tryz.func129.trans (congrArg some (by kernel_rfl))
  f244 := Tryz.func127.trans (congrArg some (by kernel_rfl))
  f245 := Tryz.func128.trans (congrArg some (by kernel_rfl))
  f246 := Tryz.func156.trans (congrArg some (by kernel_rfl))
  f247 := Tryz.func151.trans (congrArg some (by kernel_rfl))
  f279 := Tryz.func152.trans (congrArg some (by kernel_rfl))
  f280 := Tryz.func153.trans (congrArg some (by kernel_rfl))
  f281 := Tryz.func154.trans (congrArg some (by kernel_rfl))
  f282 := Tryz.func155.trans (congrArg some (by kernel_rfl))
  f283 := Tryz.func180.trans (congrArg some (by kernel_rfl))
  f284 := Tryz.func181.trans (congrArg some (by kernel_rfl))
  f285 := Tryz.func182.trans (congrArg some (by kernel_rfl))
  f286 := Tryz.func183.trans (congrArg some (by kernel_rfl))
  f287 := Tryz.func177.trans (congrArg some (by kernel_rfl))
  f316 := Tryz.func178.trans (congrArg some (by kernel_rfl))
  f317 := Tryz.func199.trans (congrArg some (by kernel_rfl))
  f318 := Tryz.func200.trans (congrArg some (by kernel_rfl))
  f319 := Tryz.func201.trans (congrArg some (by kernel_rfl))
  f320 := Tryz.func202.trans (congrArg some (by kernel_rfl))
  f321 := Tryz.func197.trans (congrArg some (by kernel_rfl))
  f322 := Tryz.func198.trans (congrArg some (by kernel_rfl))
  f337 := Tryz.func207.trans (congrArg some (by kernel_rfl))
  f338 := Tryz.func208.trans (congrArg some (by kernel_rfl))
  t0 := Tryz.underlying0
  a0 := Tryz.isAgg0
  z0 := Tryz.sizeOf0
  v0 := Tryz.zeroValue0
  t2 := Tryz.underlying2
  a2 := Tryz.isAgg2
  z2 := Tryz.sizeOf2
  v2 := Tryz.zeroValue2
  t3 := Tryz.underlying3
  a3 := Tryz.isAgg3
  z3 := Tryz.sizeOf3
  v3 := Tryz.zeroValue3
  t4 := Tryz.underlying4
  a4 := Tryz.isAgg4
  z4 := Tryz.sizeOf4
  v4 := Tryz.zeroValue4
  t5 := Tryz.underlying5
  a5 := Tryz.isAgg5
  z5 := Tryz.sizeOf5
  v5 := Tryz.zeroValue5
  t9 := Tryz.underlying9
  a9 := Tryz.isAgg9
  z9 := Tryz.sizeOf9
  v9 := Tryz.zeroValue9
  t20 := Tryz.underlying20
  a20 := Tryz.isAgg20
  z20 := Tryz.sizeOf20
  v20 := Tryz.zeroValue20
  t21 := Tryz.underlying21
  a21 := Tryz.isAgg21
  z21 := Tryz.sizeOf21
  v21 := Tryz.zeroValue21
  t37 := Tryz.underlying172
  a37 := Tryz.isAgg172
  z37 := Tryz.sizeOf172
  v37 := Tryz.zeroValue172
  t46 := Tryz.underlying164
  a46 := Tryz.isAgg164
  z46 := Tryz.sizeOf164
  v46 := Tryz.zeroValue164
  t51 := Tryz.underlying179
  a51 := Tryz.isAgg179
  z51 := Tryz.sizeOf179
  v51 := Tryz.zeroValue179
  t53 := Tryz.underlying191
  a53 := Tryz.isAgg191
  z53 := Tryz.sizeOf191
  v53 := Tryz.zeroValue191
  t75 := Tryz.underlying132
  a75 := Tryz.isAgg132
  z75 := Tryz.sizeOf132
  v75 := Tryz.zeroValue132
  t76 := Tryz.underlying133
  a76 := Tryz.isAgg133
  z76 := Tryz.sizeOf133
  v76 := Tryz.zeroValue133
  t85 := Tryz.underlying173
  a85 := Tryz.isAgg173
  z85 := Tryz.sizeOf173
  v85 := Tryz.zeroValue173
  t127 := Tryz.underlying215
  a127 := Tryz.isAgg215
  z127 := Tryz.sizeOf215
  v127 := Tryz.zeroValue215
  t143 := Tryz.underlying216
  a143 := Tryz.isAgg216
  z143 := Tryz.sizeOf216
  v143 := Tryz.zeroValue216
  t145 := Tryz.underlying218
  a145 := Tryz.isAgg218
  z145 := Tryz.sizeOf218
  v145 := Tryz.zeroValue218
  t167 := Tryz.underlying171
  a167 := Tryz.isAgg171
  z167 := Tryz.sizeOf171
  v167 := Tryz.zeroValue171
  t168 := Tryz.underlying175
  a168 := Tryz.isAgg175
  z168 := Tryz.sizeOf175
  v168 := Tryz.zeroValue175
  t171 := Tryz.underlying198
  a171 := Tryz.isAgg198
  z171 := Tryz.sizeOf198
  v171 := Tryz.zeroValue198
  t173 := Tryz.underlying200
  a173 := Tryz.isAgg200
  z173 := Tryz.sizeOf200
  v173 := Tryz.zeroValue200
  t175 := Tryz.underlying193
  a175 := Tryz.isAgg193
  z175 := Tryz.sizeOf193
  v175 := Tryz.zeroValue193
  t210 := Tryz.underlying196
  a210 := Tryz.isAgg196
  z210 := Tryz.sizeOf196
  v210 := Tryz.zeroValue196
  t212 := Tryz.underlying219
  a212 := Tryz.isAgg219
  z212 := Tryz.sizeOf219
  v212 := Tryz.zeroValue219
  t213 := Tryz.underlying220
  a213 := Tryz.isAgg220
  z213 := Tryz.sizeOf220
  t232 := Tryz.underlying224
  a232 := Tryz.isAgg224
  z232 := Tryz.sizeOf224
  v232 := Tryz.zeroValue224
  t233 := Tryz.underlying225
  a233 := Tryz.isAgg225
  z233 := Tryz.sizeOf225
  v233 := Tryz.zeroValue225
  g15 := by kernel_rfl
  g16 := by kernel_rfl
  g17 := by kernel_rfl
  g18 := by kernel_rfl
  g19 := by kernel_rfl
  t80 := Tryz.underlying226
  a80 := Tryz.isAgg226
  z80 := Tryz.sizeOf226
  v80 := Tryz.zeroValue226
  i0 := by kernel_rfl
  i2 := by kernel_rfl
  i3 := by kernel_rfl
  i4 := by kernel_rfl
  i5 := by kernel_rfl
  i9 := by kernel_rfl
  i20 := by kernel_rfl
  i21 := by kernel_rfl
  i37 := by kernel_rfl
  i46 := by kernel_rfl
  i51 := by kernel_rfl
  i53 := by kernel_rfl
  i75 := by kernel_rfl
  i76 := by kernel_rfl
  i80 := by kernel_rfl
  i85 := by kernel_rfl
  i127 := by kernel_rfl
  i143 := by kernel_rfl
  i145 := by kernel_rfl
  i167 := by kernel_rfl
  i168 := by kernel_rfl
  i171 := by kernel_rfl
  i173 := by kernel_rfl
  i175 := by kernel_rfl
  i210 := by kernel_rfl
  i212 := by kernel_rfl
  i232 := by kernel_rfl
  i233 := by kernel_rfl
  m15 := by kernel_rfl
  m16 := by kernel_rfl
  m17 := by kernel_rfl
  m18 := by kernel_rfl
  m19 := by kernel_rfl
  c0 := by kernel_rfl
  c2 := by kernel_rfl
  c3 := by kernel_rfl
  c4 := by kernel_rfl
  c5 := by kernel_rfl
  c9 := by kernel_rfl
  c20 := by kernel_rfl
  c21 := by kernel_rfl
  c37 := by kernel_rfl
  c46 := by kernel_rfl
  c51 := by kernel_rfl
  c53 := by kernel_rfl
  c75 := by kernel_rfl
  c76 := by kernel_rfl
  c80 := by kernel_rfl
  c85 := by kernel_rfl
  c127 := by kernel_rfl
  c143 := by kernel_rfl
  c145 := by kernel_rfl
  c167 := by kernel_rfl
  c168 := by kernel_rfl
  c171 := by kernel_rfl
  c173 := by kernel_rfl
  c175 := by kernel_rfl
  c210 := by kernel_rfl
  c212 := by kernel_rfl
  c213 := by kernel_rfl
  c232 := by kernel_rfl
  c233 := by kernel_rfl }
open Go.RowKit in
theorem Tryz.strconv_Atoi_ok (s : ByteArray) (hmax : s.size ≤ 9223372036854775806) (v : Int) (h : Lib.atoiAll s.data.toList = .ok v) (w : World) :
    Calls Tryz.prog 97 #[.string s] w fun e w' => e = .returned (.tuple #[.int .i64 v, .nilIface]) ∧ (w' = w ∨ ∃ t, w' = Lib.bytesWorld w 5 t) := Any.strconv_Atoi_ok Tryz.laysC172 s hmax v h w
open Go.RowKit in
theorem Tryz.strconv_Atoi_syntax_var (s : ByteArray) (hlim : s.size ≤ 281474976710656) (h : Lib.atoiAll s.data.toList = Lib.atoiAll []) (tp : TypeId) (p : Value) (w : World) (hvar : w.var? Tryz.prog "strconv.ErrSyntax" = some #[.iface tp p]) :
    Calls Tryz.prog 97 #[.string s] w fun e w' => ∃ N, e = .returned (.tuple #[.int .i64 0, .iface 175 (.pointer (some ⟨N, 0, none⟩))]) ∧ w.heap.size ≤ N ∧ w'.heap[N]? = some (.cells #[.string ⟨#[65, 116, 111, 105]⟩, .string s, .iface tp p] 196 (0, 0)) ∧ Below w.heap.size w w' := Any.strconv_Atoi_syntax_var Tryz.laysC172 s hlim (h.trans (by rfl)) tp p w hvar
open Go.RowKit in
theorem Tryz.strconv_Atoi_range_var (s : ByteArray) (hlim : s.size ≤ 281474976710656) (h : Lib.atoiAll s.data.toList = .range) (tp : TypeId) (p : Value) (w : World) (hvar : w.var? Tryz.prog "strconv.ErrRange" = some #[.iface tp p]) :
    Calls Tryz.prog 97 #[.string s] w fun e w' => ∃ N, e = .returned (.tuple #[.int .i64 (Lib.atoiSat s.data.toList), .iface 175 (.pointer (some ⟨N, 0, none⟩))]) ∧ w.heap.size ≤ N ∧ w'.heap[N]? = some (.cells #[.string ⟨#[65, 116, 111, 105]⟩, .string s, .iface tp p] 196 (0, 0)) ∧ Below w.heap.size w w' := Any.strconv_Atoi_range_var Tryz.laysC172 s hlim h tp p w hvar
def Tryz.lays143_ren : Go.Shelf.Ren := ⟨fun | 143 => 145 | 219 => 173 | 217 => 191 | 225 => 192 | 224 => 193 | 267 => 194 | 266 => 205 | 314 => 206 | n => n, fun | 9 => 9 | 3 => 3 | 4 => 4 | 5 => 5 | 46 => 164 | 146 => 180 | 51 => 179 | n => n, fun | 1 => 0 | n => n⟩
theorem Tryz.lays143 : Go.Proofs.Lays.n143 Tryz.prog Tryz.lays143_ren := {
  mixed := by kernel_rfl
  f143 := Tryz.func145.trans (congrArg some (by kernel_rfl))
  f217 := Tryz.func191.trans (congrArg some (by kernel_rfl))
  f219 := Tryz.func173.trans (congrArg some (by kernel_rfl))
  f224 := Tryz.func193.trans (congrArg some (by kernel_rfl))
  f225 := Tryz.func192.trans (congrArg some (by kernel_rfl))
  f266 := Tryz.func205.trans (congrArg some (by kernel_rfl))
  f267 := Tryz.func194.trans (congrArg some (by kernel_rfl))
  f314 := Tryz.func206.trans (congrArg some (by kernel_rfl))
  t3 := Tryz.underlying3
  a3 := Tryz.isAgg3
  z3 := Tryz.sizeOf3
  v3 := Tryz.zeroValue3
  t4 := Tryz.underlying4
  a4 := Tryz.isAgg4
  z4 := Tryz.sizeOf4
  v4 := Tryz.zeroValue4
  t5 := Tryz.underlying5
  a5 := Tryz.isAgg5
  z5 := Tryz.sizeOf5
  v5 := Tryz.zeroValue5
  t9 := Tryz.underlying9
  a9 := Tryz.isAgg9
  z9 := Tryz.sizeOf9
  v9 := Tryz.zeroValue9
  t46 := Tryz.underlying164
  a46 := Tryz.isAgg164
  z46 := Tryz.sizeOf164
  v46 := Tryz.zeroValue164
  t51 := Tryz.underlying179
  a51 := Tryz.isAgg179
  z51 := Tryz.sizeOf179
  v51 := Tryz.zeroValue179
  t146 := Tryz.underlying180
  a146 := Tryz.isAgg180
  z146 := Tryz.sizeOf180
  v146 := Tryz.zeroValue180
  g1 := by kernel_rfl }
open Go.RowKit Go.Lib in
theorem Tryz.strings_Index_one (s : ByteArray) (c : UInt8) (w : World) :
    Calls Tryz.prog 145 #[.string s, .string ⟨#[c]⟩] w fun e w' => e = .returned (.int .i64 (Lib.indexByte s.data.toList c)) ∧ w' = w := Any.strings_Index_one Tryz.lays143 s c w
def Tryz.lays190_ren : Go.Shelf.Ren := ⟨fun | 190 => 108 | 125 => 139 | 258 => 138 | 128 => 169 | 129 => 170 | 302 => 160 | 303 => 161 | 304 => 162 | 305 => 163 | 306 => 164 | 307 => 165 | 308 => 166 | 309 => 167 | 310 => 168 | 333 => 185 | 329 => 186 | 330 => 187 | 334 => 188 | 335 => 189 | 336 => 190 | 344 => 204 | n => n, fun | 31 => 103 | 9 => 9 | 3 => 3 | 46 => 164 | 0 => 0 | 51 => 179 | 53 => 191 | 4 => 4 | 183 => 184 | 182 => 183 | 131 => 106 | 5 => 5 | 218 => 202 | 222 => 206 | 228 => 221 | 229 => 222 | n => n, fun | n => n⟩
theorem Tryz.lays190 : Go.Proofs.Lays.n190 Tryz.prog Tryz.lays190_ren := {
  mixed := by kernel_rfl
  f125 := Tryz.func139.trans (congrArg some (by kernel_rfl))
  f128 := Tryz.func169.trans (congrArg some (by kernel_rfl))
  f129 := Tryz.func170.trans (congrArg some (by kernel_rfl))
  f190 := Tryz.func108.trans (congrArg some (by kernel_rfl))
  f258 := Tryz.func138.trans (congrArg some (by kernel_rfl))
  f302 := Tryz.func160.trans (congrArg some (by kernel_rfl))
  f303 := Tryz.func161.trans (congrArg some (by kernel_rfl))
  f304 := Tryz.func162.trans (congrArg some (by kernel_rfl))
  f305 := Tryz.func163.trans (congrArg some (by kernel_rfl))
  f306 := Tryz.func164.trans (congrArg some (by kernel_rfl))
  f307 := Tryz.func165.trans (congrArg some (by kernel_rfl))
  f308 := Tryz.func166.trans (congrArg some (by kernel_rfl))
  f309 := Tryz.func167.trans (congrArg some (by kernel_rfl))
  f310 := Tryz.func168.trans (congrArg some (by kernel_rfl))
  f329 := Tryz.func186.trans (congrArg some (by kernel_rfl))
  f330 := Tryz.func187.trans (congrArg some (by kernel_rfl))
  f333 := Tryz.func185.trans (congrArg some (by kernel_rfl))
  f334 := Tryz.func188.trans (congrArg some (by kernel_rfl))
  f335 := Tryz.func189.trans (congrArg some (by kernel_rfl))
  f336 := Tryz.func190.trans (congrArg some (by kernel_rfl))
  f344 := Tryz.func204.trans (congrArg some (by kernel_rfl))
  t0 := Tryz.underlying0
  a0 := Tryz.isAgg0
  z0 := Tryz.sizeOf0
  v0 := Tryz.zeroValue0
  t3 := Tryz.underlying3
  a3 := Tryz.isAgg3
  z3 := Tryz.sizeOf3
  v3 := Tryz.zeroValue3
  t4 := Tryz.underlying4
  a4 := Tryz.isAgg4
  z4 := Tryz.sizeOf4
  v4 := Tryz.zeroValue4
  t5 := Tryz.underlying5
  a5 := Tryz.isAgg5
  z5 := Tryz.sizeOf5
  v5 := Tryz.zeroValue5
  t9 := Tryz.underlying9
  a9 := Tryz.isAgg9
  z9 := Tryz.sizeOf9
  v9 := Tryz.zeroValue9
  t31 := Tryz.underlying103
  a31 := Tryz.isAgg103
  z31 := Tryz.sizeOf103
  v31 := Tryz.zeroValue103
  t46 := Tryz.underlying164
  a46 := Tryz.isAgg164
  z46 := Tryz.sizeOf164
  v46 := Tryz.zeroValue164
  t51 := Tryz.underlying179
  a51 := Tryz.isAgg179
  z51 := Tryz.sizeOf179
  v51 := Tryz.zeroValue179
  t53 := Tryz.underlying191
  a53 := Tryz.isAgg191
  z53 := Tryz.sizeOf191
  v53 := Tryz.zeroValue191
  t131 := Tryz.underlying106
  a131 := Tryz.isAgg106
  z131 := Tryz.sizeOf106
  v131 := Tryz.zeroValue106
  t182 := Tryz.underlying183
  a182 := Tryz.isAgg183
  z182 := Tryz.sizeOf183
  v182 := Tryz.zeroValue183
  t183 := Tryz.underlying184
  a183 := Tryz.isAgg184
  z183 := Tryz.sizeOf184
  v183 := Tryz.zeroValue184
  t218 := Tryz.underlying202
  a218 := Tryz.isAgg202
  z218 := Tryz.sizeOf202
  v218 := Tryz.zeroValue202
  t222 := Tryz.underlying206
  a222 := Tryz.isAgg206
  z222 := Tryz.sizeOf206
  v222 := Tryz.zeroValue206
  t228 := Tryz.underlying221
  a228 := Tryz.isAgg221
  z228 := Tryz.sizeOf221
  v228 := Tryz.zeroValue221
  t229 := Tryz.underlying222
  a229 := Tryz.isAgg222
  z229 := Tryz.sizeOf222
  v229 := Tryz.zeroValue222 }
open Go.Sort Go.RowKit in
theorem Tryz.slices_Sort_string (blk off cap : Nat) (ss : List (List UInt8)) (w : World) (hH : Holds encStr w blk off ss.toArray) (hblk : blk < w.heap.size) (hsz : ss.length < 4611686018427387904) :
    Calls Tryz.prog 108 #[.slice (some ⟨blk, off, none⟩) ss.length cap] w fun e w' =>
      e = .returned (.tuple #[]) ∧ ∃ n os, w' = grow (putRow encStr (Sort.ahead w n) blk off (ss.mergeSort fun x y => decide (x ≤ y)).toArray) os := Any.slices_Sort_string Tryz.lays190 blk off cap ss w hH hblk hsz
def Tryz.lays148_ren : Go.Shelf.Ren := ⟨fun | 148 => 99 | 222 => 130 | 223 => 131 | 269 => 157 | n => n, fun | 9 => 9 | 3 => 3 | 4 => 4 | 5 => 5 | 146 => 180 | 51 => 179 | 46 => 164 | n => n, fun | n => n⟩
theorem Tryz.lays148 : Go.Proofs.Lays.n148 Tryz.prog Tryz.lays148_ren := {
  mixed := by kernel_rfl
  f148 := Tryz.func99.trans (congrArg some (by kernel_rfl))
  f222 := Tryz.func130.trans (congrArg some (by kernel_rfl))
  f223 := Tryz.func131.trans (congrArg some (by kernel_rfl))
  f269 := Tryz.func157.trans (congrArg some (by kernel_rfl))
  t3 := Tryz.underlying3
  a3 := Tryz.isAgg3
  z3 := Tryz.sizeOf3
  v3 := Tryz.zeroValue3
  t4 := Tryz.underlying4
  a4 := Tryz.isAgg4
  z4 := Tryz.sizeOf4
  v4 := Tryz.zeroValue4
  t5 := Tryz.underlying5
  a5 := Tryz.isAgg5
  z5 := Tryz.sizeOf5
  v5 := Tryz.zeroValue5
  t9 := Tryz.underlying9
  a9 := Tryz.isAgg9
  z9 := Tryz.sizeOf9
  v9 := Tryz.zeroValue9
  t46 := Tryz.underlying164
  a46 := Tryz.isAgg164
  z46 := Tryz.sizeOf164
  v46 := Tryz.zeroValue164
  t51 := Tryz.underlying179
  a51 := Tryz.isAgg179
  z51 := Tryz.sizeOf179
  v51 := Tryz.zeroValue179
  t146 := Tryz.underlying180
  a146 := Tryz.isAgg180
  z146 := Tryz.sizeOf180
  v146 := Tryz.zeroValue180 }
open Go.RowKit Go.Lib in
theorem Tryz.strings_LastIndex (s sub : ByteArray) (hs : s.size < 4611686018427387904) (w : World) :
    Calls Tryz.prog 99 #[.string s, .string sub] w fun e w' => e = .returned (.int .i64 (Lib.lastIndex s.data.toList sub.data.toList)) ∧ w' = w := Any.strings_LastIndex Tryz.lays148 s sub hs w
def Tryz.lays146_ren : Go.Shelf.Ren := ⟨fun | 146 => 94 | 221 => 118 | 268 => 143 | 138 => 144 | 143 => 145 | 195 => 171 | 197 => 148 | 218 => 172 | 219 => 173 | 260 => 174 | 217 => 191 | 225 => 192 | 224 => 193 | 267 => 194 | 266 => 205 | 314 => 206 | n => n, fun | 9 => 9 | 31 => 103 | 3 => 3 | 4 => 4 | 0 => 0 | 105 => 168 | 21 => 21 | 5 => 5 | 46 => 164 | 119 => 209 | 139 => 212 | 138 => 211 | 146 => 180 | 51 => 179 | n => n, fun | 1 => 0 | 3 => 3 | 4 => 4 | n => n⟩
theorem Tryz.lays146 : Go.Proofs.Lays.n146 Tryz.prog Tryz.lays146_ren := {
  mixed := by kernel_rfl
  f138 := Tryz.func144.trans (congrArg some (by kernel_rfl))
  f143 := Tryz.func145.trans (congrArg some (by kernel_rfl))
  f146 := Tryz.func94.trans (congrArg some (by kernel_rfl))
  f195 := Tryz.func171.trans (congrArg some (by kernel_rfl))
  f197 := Tryz.func148.trans (congrArg some (by kernel_rfl))
  f217 := Tryz.func191.trans (congrArg some (by kernel_rfl))
  f218 := Tryz.func172.trans (congrArg some (by kernel_rfl))
  f219 := Tryz.func173.trans (congrArg some (by kernel_rfl))
  f221 := Tryz.func118.trans (congrArg some (by kernel_rfl))
  f224 := Tryz.func193.trans (congrArg some (by kernel_rfl))
  f225 := Tryz.func192.trans (congrArg some (by kernel_rfl))
  f260 := Tryz.func174.trans (congrArg some (by kernel_rfl))
  f266 := Tryz.func205.trans (congrArg some (by kernel_rfl))
  f267 := Tryz.func194.trans (congrArg some (by kernel_rfl))
  f268 := Tryz.func143.trans (congrArg some (by kernel_rfl))
  f314 := Tryz.func206.trans (congrArg some (by kernel_rfl))
  t0 := Tryz.underlying0
  a0 := Tryz.isAgg0
  z0 := Tryz.sizeOf0
  v0 := Tryz.zeroValue0
  t3 := Tryz.underlying3
  a3 := Tryz.isAgg3
  z3 := Tryz.sizeOf3
  v3 := Tryz.zeroValue3
  t4 := Tryz.underlying4
  a4 := Tryz.isAgg4
  z4 := Tryz.sizeOf4
  v4 := Tryz.zeroValue4
  t5 := Tryz.underlying5
  a5 := Tryz.isAgg5
  z5 := Tryz.sizeOf5
  v5 := Tryz.zeroValue5
  t9 := Tryz.underlying9
  a9 := Tryz.isAgg9
  z9 := Tryz.sizeOf9
  v9 := Tryz.zeroValue9
  t21 := Tryz.underlying21
  a21 := Tryz.isAgg21
  z21 := Tryz.sizeOf21
  v21 := Tryz.zeroValue21
  t31 := Tryz.underlying103
  a31 := Tryz.isAgg103
  z31 := Tryz.sizeOf103
  v31 := Tryz.zeroValue103
  t46 := Tryz.underlying164
  a46 := Tryz.isAgg164
  z46 := Tryz.sizeOf164
  v46 := Tryz.zeroValue164
  t51 := Tryz.underlying179
  a51 := Tryz.isAgg179
  z51 := Tryz.sizeOf179
  v51 := Tryz.zeroValue179
  t105 := Tryz.underlying168
  a105 := Tryz.isAgg168
  z105 := Tryz.sizeOf168
  v105 := Tryz.zeroValue168
  t119 := Tryz.underlying209
  a119 := Tryz.isAgg209
  z119 := Tryz.sizeOf209
  t138 := Tryz.underlying211
  a138 := Tryz.isAgg211
  z138 := Tryz.sizeOf211
  v138 := Tryz.zeroValue211
  t139 := Tryz.underlying212
  a139 := Tryz.isAgg212
  z139 := Tryz.sizeOf212
  v139 := Tryz.zeroValue212
  t146 := Tryz.underlying180
  a146 := Tryz.isAgg180
  z146 := Tryz.sizeOf180
  v146 := Tryz.zeroValue180
  g1 := by kernel_rfl
  g3 := by kernel_rfl
  g4 := by kernel_rfl }
open Go.RowKit Go.Lib in
theorem Tryz.strings_Split (s sep : ByteArray) (m : Int) (w : World) (hs : s.size < 4294967281) (hm : w.cell? ⟨0, 0, none⟩ = some (.int .i64 m)) (h1 : 1 ≤ sep.size) :
    Calls Tryz.prog 94 #[.string s, .string sep] w fun e w' =>
      e = .returned (.slice (some ⟨w.heap.size, 0, none⟩) (Lib.countB s sep + 1) (Lib.countB s sep + 1)) ∧ w' = w.alloc (.cells ((Lib.splitB sep 0 (Lib.countB s sep) s).map Value.string).toArray 9) := Any.strings_Split Tryz.lays146 (by kernel_rfl) s sep m w hs hm h1
def Tryz.lays194_ren : Go.Shelf.Ren := ⟨fun | 194 => 109 | n => n, fun | 31 => 103 | 9 => 9 | 3 => 3 | 4 => 4 | 0 => 0 | n => n, fun | n => n⟩
theorem Tryz.lays194 : Go.Proofs.Lays.n194 Tryz.prog Tryz.lays194_ren := {
  mixed := by kernel_rfl
  f194 := Tryz.func109.trans (congrArg some (by kernel_rfl))
  t0 := Tryz.underlying0
  a0 := Tryz.isAgg0
  z0 := Tryz.sizeOf0
  v0 := Tryz.zeroValue0
  t3 := Tryz.underlying3
  a3 := Tryz.isAgg3
  z3 := Tryz.sizeOf3
  v3 := Tryz.zeroValue3
  t4 := Tryz.underlying4
  a4 := Tryz.isAgg4
  z4 := Tryz.sizeOf4
  v4 := Tryz.zeroValue4
  t9 := Tryz.underlying9
  a9 := Tryz.isAgg9
  z9 := Tryz.sizeOf9
  v9 := Tryz.zeroValue9
  t31 := Tryz.underlying103
  a31 := Tryz.isAgg103
  z31 := Tryz.sizeOf103
  v31 := Tryz.zeroValue103 }
open Go.RowKit Go.Lib Go.Sort in
theorem Tryz.slices_Compact_string (blk off cap : Nat) (zs : List (List UInt8)) (w : World) (hH : Holds encStr w blk off zs.toArray) (hsz : zs.length ≤ 9223372036854775807) (hcap : zs.length ≤ cap) :
    Calls Tryz.prog 109 #[.slice (some ⟨blk, off, none⟩) zs.length cap] w fun e w' => e = .returned (.slice (some ⟨blk, off, none⟩) (Lib.compact zs).length cap) ∧ ∃ q, w' = putRow encStr (Sort.ahead w q) blk off (Lib.compact zs ++ List.replicate (zs.length - (Lib.compact zs).length) []).toArray := Any.slices_Compact_string Tryz.lays194 blk off cap zs w hH hsz hcap
open Go.RowKit Go.Lib Go.Sort in
theorem Tryz.slices_Compact_string_empty (a : Option Addr) (cap : Nat) (w : World) :
    Calls Tryz.prog 109 #[.slice a 0 cap] w fun e w' => e = .returned (.slice a 0 cap) ∧ w' = w := Any.slices_Compact_string_empty Tryz.lays194 a cap w
open Go.RowKit Go.Lib in
theorem Tryz.strings_Trim_laid (s cutset : ByteArray) (w : World) (hs : s.size ≤ 9223372036854775807) (hcs : cutset.size < 4294967281) (hascii : ∀ (j : Nat) b, cutset.data.toList[j]? = some b → b.toNat < 128) :
    Calls Tryz.prog 96 #[.string s, .string cutset] w fun e w' => e = .returned (.string ⟨(Lib.trimS s.data.toList cutset.data.toList).toArray⟩) ∧ Below w.heap.size w w' :=
  Any.strings_Trim_laid Tryz.lays160 (by kernel_rfl) s cutset w hs hcs hascii
end Go.Proofs
end
