/- The contracts of the library at this dump, laid by the kit's tool in plain words. -/
import Derived.Shelf.Small.Bits
import Derived.Shelf.Small.Wraps
import Derived.Shelf.Strconv.Itoa0
import Derived.Shelf.Pu.ParseUintPublic10
import Derived.Shelf.Strings.Search1
import Derived.Shelf.Strings.Search2
import Derived.Shelf.Strings.Search3
import Derived.Shelf.Strings.Cut
import Derived.Shelf.Strings.Count
import Derived.Shelf.LaysM
import Derived.Shelf.Strings.Shaped
import Derived.Shelf.Strings.Prefix
import Derived.Shelf.Strings.Split
import Derived.Shelf.Strings.SplitShaped
import Derived.Shelf.Unicode.DecodeSlow
import Derived.Shelf.Slices.Turned
import Derived.Shelf.SlicesE.Compact
import Derived.Test.YtgheloooibafcaaGreatDoorProg
namespace Go.Proofs
open Go.Shelf
def Tryz.lays103_ren : Go.Shelf.Ren := ⟨fun | 103 => 202 | 210 => 217 | 206 => 235 | n => n, fun | 9 => 9 | 4 => 4 | 24 => 268 | 3 => 3 | n => n, fun | n => n⟩

theorem Tryz.lays103 : Go.Proofs.Lays.n103 Tryz.prog Tryz.lays103_ren := {
  mixed := by kernel_rfl
  f103 := Tryz.func202.trans (congrArg some (by kernel_rfl))
  f206 := Tryz.func235.trans (congrArg some (by kernel_rfl))
  f210 := Tryz.func217.trans (congrArg some (by kernel_rfl))
  t3 := Tryz.underlying3
  a3 := Tryz.isAgg3
  z3 := Tryz.sizeOf3
  v3 := Tryz.zeroValue3
  t4 := Tryz.underlying4
  a4 := Tryz.isAgg4
  z4 := Tryz.sizeOf4
  v4 := Tryz.zeroValue4
  t9 := Tryz.underlying9
  a9 := Tryz.isAgg9
  z9 := Tryz.sizeOf9
  v9 := Tryz.zeroValue9
  t24 := Tryz.underlying268
  a24 := Tryz.isAgg268
  z24 := Tryz.sizeOf268
  v24 := Tryz.zeroValue268 }

open Go.RowKit in
/-- strings.CutPrefix: "CutPrefix returns s without the provided leading prefix string and reports whether it found the prefix. If s doesn't start with prefix, CutPrefix returns s, false. If prefix is the empty string, CutPrefix returns s, true.": IT RETURNS '(Lib.trimPrefix s p, Lib.hasPrefix s p)'; the world is as it was. (LAID: no walk: one application.) -/
theorem Tryz.strings_CutPrefix (s p : ByteArray) (w : World) :
    Calls Tryz.prog 202 #[.string s, .string p] w fun e w' => e = .returned (.tuple #[.string ⟨(Lib.trimPrefix s.data.toList p.data.toList).toArray⟩, .bool (Lib.hasPrefix s.data.toList p.data.toList)]) ∧ w' = w := Any.strings_CutPrefix Tryz.lays103 s p w

def Tryz.lays104_ren : Go.Shelf.Ren := ⟨fun | 104 => 203 | 211 => 218 | 207 => 236 | n => n, fun | 9 => 9 | 4 => 4 | 24 => 268 | 3 => 3 | n => n, fun | n => n⟩

theorem Tryz.lays104 : Go.Proofs.Lays.n104 Tryz.prog Tryz.lays104_ren := {
  mixed := by kernel_rfl
  f104 := Tryz.func203.trans (congrArg some (by kernel_rfl))
  f207 := Tryz.func236.trans (congrArg some (by kernel_rfl))
  f211 := Tryz.func218.trans (congrArg some (by kernel_rfl))
  t3 := Tryz.underlying3
  a3 := Tryz.isAgg3
  z3 := Tryz.sizeOf3
  v3 := Tryz.zeroValue3
  t4 := Tryz.underlying4
  a4 := Tryz.isAgg4
  z4 := Tryz.sizeOf4
  v4 := Tryz.zeroValue4
  t9 := Tryz.underlying9
  a9 := Tryz.isAgg9
  z9 := Tryz.sizeOf9
  v9 := Tryz.zeroValue9
  t24 := Tryz.underlying268
  a24 := Tryz.isAgg268
  z24 := Tryz.sizeOf268
  v24 := Tryz.zeroValue268 }

open Go.RowKit in
/-- strings.CutSuffix: "CutSuffix returns s without the provided ending suffix string and reports whether it found the suffix. If s doesn't end with suffix, CutSuffix returns s, false. If suffix is the empty string, CutSuffix returns s, true.": IT RETURNS '(Lib.trimSuffix s p, Lib.hasSuffix s p)'; the world is as it was. (LAID: no walk: one application.) -/
theorem Tryz.strings_CutSuffix (s p : ByteArray) (w : World) (hs : s.size ≤ 9223372036854775807) :
    Calls Tryz.prog 203 #[.string s, .string p] w fun e w' => e = .returned (.tuple #[.string ⟨(Lib.trimSuffix s.data.toList p.data.toList).toArray⟩, .bool (Lib.hasSuffix s.data.toList p.data.toList)]) ∧ w' = w := Any.strings_CutSuffix Tryz.lays104 s p w hs

def Tryz.lays122_ren : Go.Shelf.Ren := ⟨fun | 122 => 50 | 215 => 84 | n => n, fun | 3 => 3 | 4 => 4 | n => n, fun | n => n⟩

theorem Tryz.lays122 : Go.Proofs.Lays.n122 Tryz.prog Tryz.lays122_ren := {
  mixed := by kernel_rfl
  f122 := Tryz.func50.trans (congrArg some (by kernel_rfl))
  f215 := Tryz.func84.trans (congrArg some (by kernel_rfl))
  t3 := Tryz.underlying3
  a3 := Tryz.isAgg3
  z3 := Tryz.sizeOf3
  v3 := Tryz.zeroValue3
  t4 := Tryz.underlying4
  a4 := Tryz.isAgg4
  z4 := Tryz.sizeOf4
  v4 := Tryz.zeroValue4 }

open Go.RowKit in
/-- cmp.Compare at int: "Compare returns -1 if x is less than y, 0 if x equals y, +1 if x is greater than y.": IT RETURNS 'Lib.compareInt x y'; the world is as it was. (LAID: no walk: one application.) -/
theorem Tryz.cmp_Compare_int (x y : Int) (w : World) :
    Calls Tryz.prog 50 #[.int .i64 x, .int .i64 y] w fun e w' => e = .returned (.int .i64 (Lib.compareInt x y)) ∧ w' = w := Any.cmp_Compare_int Tryz.lays122 x y w

def Tryz.laysPu14_ren : Go.Shelf.Ren := ⟨fun | 14 => 200 | 16 => 215 | 17 => 216 | 19 => 229 | 20 => 230 | 21 => 231 | 22 => 232 | 23 => 233 | 24 => 234 | 25 => 242 | 27 => 244 | 26 => 243 | 28 => 246 | 29 => 247 | 30 => 248 | 31 => 249 | 32 => 250 | 33 => 251 | 35 => 135 | 34 => 252 | 36 => 253 | 37 => 254 | 38 => 255 | 39 => 256 | 40 => 257 | n => n, fun | 9 => 9 | 3 => 3 | 22 => 187 | 24 => 264 | 25 => 265 | 4 => 4 | 34 => 290 | 5 => 5 | 36 => 170 | 37 => 161 | 0 => 0 | 39 => 292 | 21 => 21 | 44 => 301 | 47 => 305 | 50 => 308 | 48 => 306 | 2 => 2 | 52 => 310 | 55 => 312 | 59 => 315 | 60 => 23 | 20 => 20 | 61 => 316 | 65 => 317 | 66 => 318 | 67 => 319 | n => n, fun | 0 => 5 | 1 => 6 | 2 => 7 | 3 => 8 | 4 => 9 | n => n⟩

theorem Tryz.laysPu14 : Go.Proofs.LaysPu.n14 Tryz.prog Tryz.laysPu14_ren := {
  mixed := by kernel_rfl
  f14 := Tryz.func200.trans (congrArg some (by kernel_rfl))
  f16 := Tryz.func215.trans (congrArg some (by kernel_rfl))
  f17 := Tryz.func216.trans (congrArg some (by kernel_rfl))
  f19 := Tryz.func229.trans (congrArg some (by kernel_rfl))
  f20 := Tryz.func230.trans (congrArg some (by kernel_rfl))
  f21 := Tryz.func231.trans (congrArg some (by kernel_rfl))
  f22 := Tryz.func232.trans (congrArg some (by kernel_rfl))
  f23 := Tryz.func233.trans (congrArg some (by kernel_rfl))
  f24 := Tryz.func234.trans (congrArg some (by kernel_rfl))
  f25 := Tryz.func242.trans (congrArg some (by kernel_rfl))
  f26 := Tryz.func243.trans (congrArg some (by kernel_rfl))
  f27 := Tryz.func244.trans (congrArg some (by kernel_rfl))
  f28 := Tryz.func246.trans (congrArg some (by kernel_rfl))
  f29 := Tryz.func247.trans (congrArg some (by kernel_rfl))
  f30 := Tryz.func248.trans (congrArg some (by kernel_rfl))
  f31 := Tryz.func249.trans (congrArg some (by kernel_rfl))
  f32 := Tryz.func250.trans (congrArg some (by kernel_rfl))
  f33 := Tryz.func251.trans (congrArg some (by kernel_rfl))
  f34 := Tryz.func252.trans (congrArg some (by kernel_rfl))
  f35 := Tryz.func135.trans (congrArg some (by kernel_rfl))
  f36 := Tryz.func253.trans (congrArg some (by kernel_rfl))
  f37 := Tryz.func254.trans (congrArg some (by kernel_rfl))
  f38 := Tryz.func255.trans (congrArg some (by kernel_rfl))
  f39 := Tryz.func256.trans (congrArg some (by kernel_rfl))
  f40 := Tryz.func257.trans (congrArg some (by kernel_rfl))
  t0 := Tryz.underlying0
  a0 := Tryz.isAgg0
  z0 := Tryz.sizeOf0
  v0 := Tryz.zeroValue0
  i0 := by kernel_rfl
  t2 := Tryz.underlying2
  a2 := Tryz.isAgg2
  z2 := Tryz.sizeOf2
  v2 := Tryz.zeroValue2
  i2 := by kernel_rfl
  t3 := Tryz.underlying3
  a3 := Tryz.isAgg3
  z3 := Tryz.sizeOf3
  v3 := Tryz.zeroValue3
  i3 := by kernel_rfl
  t4 := Tryz.underlying4
  a4 := Tryz.isAgg4
  z4 := Tryz.sizeOf4
  v4 := Tryz.zeroValue4
  i4 := by kernel_rfl
  t5 := Tryz.underlying5
  a5 := Tryz.isAgg5
  z5 := Tryz.sizeOf5
  v5 := Tryz.zeroValue5
  i5 := by kernel_rfl
  t9 := Tryz.underlying9
  a9 := Tryz.isAgg9
  z9 := Tryz.sizeOf9
  v9 := Tryz.zeroValue9
  i9 := by kernel_rfl
  t20 := Tryz.underlying20
  a20 := Tryz.isAgg20
  z20 := Tryz.sizeOf20
  v20 := Tryz.zeroValue20
  i20 := by kernel_rfl
  t21 := Tryz.underlying21
  a21 := Tryz.isAgg21
  z21 := Tryz.sizeOf21
  v21 := Tryz.zeroValue21
  i21 := by kernel_rfl
  t22 := Tryz.underlying187
  a22 := Tryz.isAgg187
  z22 := Tryz.sizeOf187
  v22 := Tryz.zeroValue187
  i22 := by kernel_rfl
  t24 := Tryz.underlying264
  a24 := Tryz.isAgg264
  z24 := Tryz.sizeOf264
  v24 := Tryz.zeroValue264
  i24 := by kernel_rfl
  t25 := Tryz.underlying265
  a25 := Tryz.isAgg265
  z25 := Tryz.sizeOf265
  v25 := Tryz.zeroValue265
  i25 := by kernel_rfl
  t34 := Tryz.underlying290
  a34 := Tryz.isAgg290
  z34 := Tryz.sizeOf290
  v34 := Tryz.zeroValue290
  i34 := by kernel_rfl
  c34 := by kernel_rfl
  t36 := Tryz.underlying170
  a36 := Tryz.isAgg170
  z36 := Tryz.sizeOf170
  v36 := Tryz.zeroValue170
  i36 := by kernel_rfl
  t37 := Tryz.underlying161
  a37 := Tryz.isAgg161
  z37 := Tryz.sizeOf161
  v37 := Tryz.zeroValue161
  i37 := by kernel_rfl
  t39 := Tryz.underlying292
  a39 := Tryz.isAgg292
  z39 := Tryz.sizeOf292
  v39 := Tryz.zeroValue292
  i39 := by kernel_rfl
  t44 := Tryz.underlying301
  a44 := Tryz.isAgg301
  z44 := Tryz.sizeOf301
  v44 := Tryz.zeroValue301
  i44 := by kernel_rfl
  t47 := Tryz.underlying305
  a47 := Tryz.isAgg305
  z47 := Tryz.sizeOf305
  v47 := Tryz.zeroValue305
  i47 := by kernel_rfl
  t48 := Tryz.underlying306
  a48 := Tryz.isAgg306
  z48 := Tryz.sizeOf306
  v48 := Tryz.zeroValue306
  i48 := by kernel_rfl
  t50 := Tryz.underlying308
  a50 := Tryz.isAgg308
  z50 := Tryz.sizeOf308
  v50 := Tryz.zeroValue308
  i50 := by kernel_rfl
  t52 := Tryz.underlying310
  a52 := Tryz.isAgg310
  z52 := Tryz.sizeOf310
  v52 := Tryz.zeroValue310
  i52 := by kernel_rfl
  t55 := Tryz.underlying312
  a55 := Tryz.isAgg312
  z55 := Tryz.sizeOf312
  v55 := Tryz.zeroValue312
  i55 := by kernel_rfl
  t59 := Tryz.underlying315
  a59 := Tryz.isAgg315
  z59 := Tryz.sizeOf315
  v59 := Tryz.zeroValue315
  i59 := by kernel_rfl
  t60 := Tryz.underlying23
  a60 := Tryz.isAgg23
  z60 := Tryz.sizeOf23
  v60 := Tryz.zeroValue23
  i60 := by kernel_rfl
  t61 := Tryz.underlying316
  a61 := Tryz.isAgg316
  z61 := Tryz.sizeOf316
  t65 := Tryz.underlying317
  a65 := Tryz.isAgg317
  z65 := Tryz.sizeOf317
  v65 := Tryz.zeroValue317
  i65 := by kernel_rfl
  t66 := Tryz.underlying318
  a66 := Tryz.isAgg318
  z66 := Tryz.sizeOf318
  v66 := Tryz.zeroValue318
  i66 := by kernel_rfl
  t67 := Tryz.underlying319
  a67 := Tryz.isAgg319
  z67 := Tryz.sizeOf319
  v67 := Tryz.zeroValue319
  i67 := by kernel_rfl
  g0 := by kernel_rfl
  m0 := by kernel_rfl
  g1 := by kernel_rfl
  m1 := by kernel_rfl
  g2 := by kernel_rfl
  m2 := by kernel_rfl
  g3 := by kernel_rfl
  m3 := by kernel_rfl
  g4 := by kernel_rfl
  m4 := by kernel_rfl }

open Go.RowKit in
/-- strconv.ParseUint(s, 10, 64), AT EVERY STRING THAT SPELLS A uint64 ('Lib.parseUintB 64 s.data.toList = .ok u'): u, AND NO ERROR. (LAID: no walk: one application.) -/
theorem Tryz.strconv_ParseUint_10_at64_ok (s : ByteArray) (hmax : s.size ≤ 9223372036854775806) (u : Nat) (h : Lib.parseUintB 64 s.data.toList = .ok u) (w : World) :
    Calls Tryz.prog 200 #[.string s, .int .i64 10, .int .i64 64] w fun e w' => e = .returned (.tuple #[.int .u64 u, .nilIface]) ∧ (w' = w ∨ w' = Lib.bytesWorld w 5 s) := Any.strconv_ParseUint_10_at64_ok Tryz.laysPu14 s hmax u h w

open Go.RowKit in
/-- strconv.ParseUint(s, 10, 64), AT EVERY NUMERAL THAT NO uint64 HOLDS: THE GREATEST uint64, AND AN ERROR THAT IS NOT nil: a *NumError in a new block N: {Func: "ParseUint", Num: s's bytes, Err: what the variable ErrRange holds}. Of what was there nothing has turned. (LAID: no walk: one application.) -/
theorem Tryz.strconv_ParseUint_10_at64_range (s : ByteArray) (hlim : s.size ≤ 281474976710656) (h : Lib.parseUintB 64 s.data.toList = .range) (ev : Value) (w : World) (hv : w.cell? ⟨6, 0, none⟩ = some ev) (hev : ev = .nilIface ∨ ∃ te pe, ev = .iface te pe) :
    Calls Tryz.prog 200 #[.string s, .int .i64 10, .int .i64 64] w fun e w' => ∃ N, e = .returned (.tuple #[.int .u64 18446744073709551615, .iface 292 (.pointer (some ⟨N, 0, none⟩))]) ∧ w.heap.size ≤ N ∧ w'.heap[N]? = some (.cells #[.string ⟨#[80, 97, 114, 115, 101, 85, 105, 110, 116]⟩, .string s, ev] 301 (0, 0)) ∧ Below w.heap.size w w' := Any.strconv_ParseUint_10_at64_range Tryz.laysPu14 s hlim h ev w hv hev

def Tryz.lays145_ren : Go.Shelf.Ren := ⟨fun | 145 => 79 | 220 => 115 | 219 => 163 | 217 => 194 | 225 => 195 | 224 => 196 | 267 => 197 | 266 => 213 | 314 => 214 | n => n, fun | 9 => 9 | 4 => 4 | 59 => 159 | 3 => 3 | 5 => 5 | 46 => 170 | 146 => 276 | 51 => 23 | n => n, fun | 1 => 2 | n => n⟩

theorem Tryz.lays145 : Go.Proofs.Lays.n145 Tryz.prog Tryz.lays145_ren := {
  mixed := by kernel_rfl
  f145 := Tryz.func79.trans (congrArg some (by kernel_rfl))
  f217 := Tryz.func194.trans (congrArg some (by kernel_rfl))
  f219 := Tryz.func163.trans (congrArg some (by kernel_rfl))
  f220 := Tryz.func115.trans (congrArg some (by kernel_rfl))
  f224 := Tryz.func196.trans (congrArg some (by kernel_rfl))
  f225 := Tryz.func195.trans (congrArg some (by kernel_rfl))
  f266 := Tryz.func213.trans (congrArg some (by kernel_rfl))
  f267 := Tryz.func197.trans (congrArg some (by kernel_rfl))
  f314 := Tryz.func214.trans (congrArg some (by kernel_rfl))
  t3 := Tryz.underlying3
  a3 := Tryz.isAgg3
  z3 := Tryz.sizeOf3
  v3 := Tryz.zeroValue3
  t4 := Tryz.underlying4
  a4 := Tryz.isAgg4
  z4 := Tryz.sizeOf4
  v4 := Tryz.zeroValue4
  t5 := Tryz.underlying5
  a5 := Tryz.isAgg5
  z5 := Tryz.sizeOf5
  v5 := Tryz.zeroValue5
  t9 := Tryz.underlying9
  a9 := Tryz.isAgg9
  z9 := Tryz.sizeOf9
  v9 := Tryz.zeroValue9
  t46 := Tryz.underlying170
  a46 := Tryz.isAgg170
  z46 := Tryz.sizeOf170
  v46 := Tryz.zeroValue170
  t51 := Tryz.underlying23
  a51 := Tryz.isAgg23
  z51 := Tryz.sizeOf23
  v51 := Tryz.zeroValue23
  t59 := Tryz.underlying159
  a59 := Tryz.isAgg159
  z59 := Tryz.sizeOf159
  v59 := Tryz.zeroValue159
  t146 := Tryz.underlying276
  a146 := Tryz.isAgg276
  z146 := Tryz.sizeOf276
  v146 := Tryz.zeroValue276
  g1 := by kernel_rfl }

open Go.RowKit Go.Lib in
/-- strings.Cut: "Cut slices s around the first instance of sep, returning the text before and after sep. The found result reports whether sep appears in s. If sep does not appear in s, cut returns s, "", false.": IT RETURNS 'Lib.cut s sep'; the world is as it was but for the count of draws. (LAID: no walk: one application.) -/
theorem Tryz.strings_Cut (s sep : ByteArray) (m : Int) (w : World) (hs : s.size < 4294967281) (hm : w.cell? ⟨2, 0, none⟩ = some (.int .i64 m)) :
    Calls Tryz.prog 79 #[.string s, .string sep] w fun e w' => e = .returned (.tuple #[.string ⟨(Lib.cut s.data.toList sep.data.toList).1.toArray⟩, .string ⟨(Lib.cut s.data.toList sep.data.toList).2.1.toArray⟩, .bool (Lib.cut s.data.toList sep.data.toList).2.2]) ∧ ∃ n, w' = w.drewN n := Any.strings_Cut Tryz.lays145 s sep m w hs hm

def Tryz.lays146_ren : Go.Shelf.Ren := ⟨fun | 146 => 78 | 221 => 114 | 268 => 160 | 138 => 161 | 143 => 162 | 195 => 191 | 197 => 192 | 218 => 193 | 219 => 163 | 260 => 212 | 217 => 194 | 225 => 195 | 224 => 196 | 267 => 197 | 266 => 213 | 314 => 214 | n => n, fun | 9 => 9 | 31 => 157 | 3 => 3 | 4 => 4 | 0 => 0 | 105 => 257 | 21 => 21 | 5 => 5 | 46 => 170 | 119 => 286 | 139 => 289 | 138 => 288 | 146 => 276 | 51 => 23 | n => n, fun | 1 => 2 | 3 => 3 | 4 => 4 | n => n⟩

theorem Tryz.lays146 : Go.Proofs.Lays.n146 Tryz.prog Tryz.lays146_ren := {
  mixed := by kernel_rfl
  f138 := Tryz.func161.trans (congrArg some (by kernel_rfl))
  f143 := Tryz.func162.trans (congrArg some (by kernel_rfl))
  f146 := Tryz.func78.trans (congrArg some (by kernel_rfl))
  f195 := Tryz.func191.trans (congrArg some (by kernel_rfl))
  f197 := Tryz.func192.trans (congrArg some (by kernel_rfl))
  f217 := Tryz.func194.trans (congrArg some (by kernel_rfl))
  f218 := Tryz.func193.trans (congrArg some (by kernel_rfl))
  f219 := Tryz.func163.trans (congrArg some (by kernel_rfl))
  f221 := Tryz.func114.trans (congrArg some (by kernel_rfl))
  f224 := Tryz.func196.trans (congrArg some (by kernel_rfl))
  f225 := Tryz.func195.trans (congrArg some (by kernel_rfl))
  f260 := Tryz.func212.trans (congrArg some (by kernel_rfl))
  f266 := Tryz.func213.trans (congrArg some (by kernel_rfl))
  f267 := Tryz.func197.trans (congrArg some (by kernel_rfl))
  f268 := Tryz.func160.trans (congrArg some (by kernel_rfl))
  f314 := Tryz.func214.trans (congrArg some (by kernel_rfl))
  t0 := Tryz.underlying0
  a0 := Tryz.isAgg0
  z0 := Tryz.sizeOf0
  v0 := Tryz.zeroValue0
  t3 := Tryz.underlying3
  a3 := Tryz.isAgg3
  z3 := Tryz.sizeOf3
  v3 := Tryz.zeroValue3
  t4 := Tryz.underlying4
  a4 := Tryz.isAgg4
  z4 := Tryz.sizeOf4
  v4 := Tryz.zeroValue4
  t5 := Tryz.underlying5
  a5 := Tryz.isAgg5
  z5 := Tryz.sizeOf5
  v5 := Tryz.zeroValue5
  t9 := Tryz.underlying9
  a9 := Tryz.isAgg9
  z9 := Tryz.sizeOf9
  v9 := Tryz.zeroValue9
  t21 := Tryz.underlying21
  a21 := Tryz.isAgg21
  z21 := Tryz.sizeOf21
  v21 := Tryz.zeroValue21
  t31 := Tryz.underlying157
  a31 := Tryz.isAgg157
  z31 := Tryz.sizeOf157
  v31 := Tryz.zeroValue157
  t46 := Tryz.underlying170
  a46 := Tryz.isAgg170
  z46 := Tryz.sizeOf170
  v46 := Tryz.zeroValue170
  t51 := Tryz.underlying23
  a51 := Tryz.isAgg23
  z51 := Tryz.sizeOf23
  v51 := Tryz.zeroValue23
  t105 := Tryz.underlying257
  a105 := Tryz.isAgg257
  z105 := Tryz.sizeOf257
  v105 := Tryz.zeroValue257
  t119 := Tryz.underlying286
  a119 := Tryz.isAgg286
  z119 := Tryz.sizeOf286
  t138 := Tryz.underlying288
  a138 := Tryz.isAgg288
  z138 := Tryz.sizeOf288
  v138 := Tryz.zeroValue288
  t139 := Tryz.underlying289
  a139 := Tryz.isAgg289
  z139 := Tryz.sizeOf289
  v139 := Tryz.zeroValue289
  t146 := Tryz.underlying276
  a146 := Tryz.isAgg276
  z146 := Tryz.sizeOf276
  v146 := Tryz.zeroValue276
  g1 := by kernel_rfl
  g3 := by kernel_rfl
  g4 := by kernel_rfl }

open Go.RowKit Go.Lib in
/-- strings.Split. (LAID: no walk: one application.) -/
theorem Tryz.strings_Split (s sep : ByteArray) (m : Int) (w : World) (hs : s.size < 4294967281) (hm : w.cell? ⟨2, 0, none⟩ = some (.int .i64 m)) (h1 : 1 ≤ sep.size) :
    Calls Tryz.prog 78 #[.string s, .string sep] w fun e w' =>
      e = .returned (.slice (some ⟨w.heap.size, 0, none⟩) (Lib.countB s sep + 1) (Lib.countB s sep + 1)) ∧ w' = w.alloc (.cells ((Lib.splitB sep 0 (Lib.countB s sep) s).map Value.string).toArray 9) := Any.strings_Split Tryz.lays146 (by kernel_rfl) s sep m w hs hm h1

def Tryz.lays110_ren : Go.Shelf.Ren := ⟨fun | 110 => 173 | 109 => 201 | n => n, fun | 31 => 157 | 9 => 9 | 4 => 4 | 3 => 3 | 0 => 0 | n => n, fun | n => n⟩

theorem Tryz.lays110 : Go.Proofs.Lays.n110 Tryz.prog Tryz.lays110_ren := {
  mixed := by kernel_rfl
  f109 := Tryz.func201.trans (congrArg some (by kernel_rfl))
  f110 := Tryz.func173.trans (congrArg some (by kernel_rfl))
  t0 := Tryz.underlying0
  a0 := Tryz.isAgg0
  z0 := Tryz.sizeOf0
  v0 := Tryz.zeroValue0
  t3 := Tryz.underlying3
  a3 := Tryz.isAgg3
  z3 := Tryz.sizeOf3
  v3 := Tryz.zeroValue3
  t4 := Tryz.underlying4
  a4 := Tryz.isAgg4
  z4 := Tryz.sizeOf4
  v4 := Tryz.zeroValue4
  t9 := Tryz.underlying9
  a9 := Tryz.isAgg9
  z9 := Tryz.sizeOf9
  v9 := Tryz.zeroValue9
  t31 := Tryz.underlying157
  a31 := Tryz.isAgg157
  z31 := Tryz.sizeOf157
  v31 := Tryz.zeroValue157 }

open Go.Lib in
/-- slices.Contains at []string: "Contains reports whether v is present in s.": IT RETURNS 'Lib.containsS (the elements) v', which is true just where v is among them ('Lib.containsS_iff'); the world is as it was. ITS CALLEE slices.Index IS MET BY ITS OWN CONTRACT OFF THE SHELF (lay that first): no loop is walked here. (LAID: no walk: one application.) -/
theorem Tryz.slices_Contains_string (b off n c : Nat) (zs : List ByteArray) (x : ByteArray) (w : World) (hz : n ≤ zs.length) (hbig : n ≤ 9223372036854775807) (hc : ∀ j, j < zs.length → w.cell? ⟨b, off + j, none⟩ = some (.string (zs.getD j ByteArray.empty))) :
    Calls Tryz.prog 173 #[.slice (some ⟨b, off, none⟩) n c, .string x] w fun e w' => e = .returned (.bool (Lib.containsS (zs.take n) x)) ∧ w' = w := Any.slices_Contains_string Tryz.lays110 b off n c zs x w hz hbig hc
end Go.Proofs
