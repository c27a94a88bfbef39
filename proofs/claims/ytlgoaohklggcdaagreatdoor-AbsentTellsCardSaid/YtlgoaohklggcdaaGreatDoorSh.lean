/- The contracts of the library at this dump, laid by the kit's tool in plain words. -/
import Derived.Shelf.Small.Bits
import Derived.Shelf.Small.Wraps
import Derived.Shelf.Strconv.Itoa0
import Derived.Shelf.Pu.ParseUintPublic10
import Derived.Shelf.Strings.Search1
import Derived.Shelf.Strings.Search2
import Derived.Shelf.Strings.Search3
import Derived.Shelf.Strings.Cut
import Derived.Shelf.Strings.Count
import Derived.Shelf.LaysM
import Derived.Shelf.Strings.Shaped
import Derived.Shelf.Strings.Prefix
import Derived.Shelf.Strings.Split
import Derived.Shelf.Strings.SplitShaped
import Derived.Shelf.Unicode.DecodeSlow
import Derived.Shelf.Unicode.DecodeAny
import Derived.Shelf.Slices.Turned
import Derived.Test.YtlgoaohklggcdaaGreatDoorProg
namespace Go.Proofs
open Go.Shelf
def Tryz.lays103_ren : Go.Shelf.Ren := ⟨fun | 103 => 220 | 210 => 240 | 206 => 255 | n => n, fun | 9 => 9 | 4 => 4 | 24 => 287 | 3 => 3 | n => n, fun | n => n⟩

theorem Tryz.lays103 : Go.Proofs.Lays.n103 Tryz.prog Tryz.lays103_ren := {
  mixed := by kernel_rfl
  f103 := Tryz.func220.trans (congrArg some (by kernel_rfl))
  f206 := Tryz.func255.trans (congrArg some (by kernel_rfl))
  f210 := Tryz.func240.trans (congrArg some (by kernel_rfl))
  t3 := Tryz.underlying3
  a3 := Tryz.isAgg3
  z3 := Tryz.sizeOf3
  v3 := Tryz.zeroValue3
  t4 := Tryz.underlying4
  a4 := Tryz.isAgg4
  z4 := Tryz.sizeOf4
  v4 := Tryz.zeroValue4
  t9 := Tryz.underlying9
  a9 := Tryz.isAgg9
  z9 := Tryz.sizeOf9
  v9 := Tryz.zeroValue9
  t24 := Tryz.underlying287
  a24 := Tryz.isAgg287
  z24 := Tryz.sizeOf287
  v24 := Tryz.zeroValue287 }

open Go.RowKit in
/-- strings.CutPrefix: "CutPrefix returns s without the provided leading prefix string and reports whether it found the prefix. If s doesn't start with prefix, CutPrefix returns s, false. If prefix is the empty string, CutPrefix returns s, true.": IT RETURNS '(Lib.trimPrefix s p, Lib.hasPrefix s p)'; the world is as it was. (LAID: no walk: one application.) -/
theorem Tryz.strings_CutPrefix (s p : ByteArray) (w : World) :
    Calls Tryz.prog 220 #[.string s, .string p] w fun e w' => e = .returned (.tuple #[.string ⟨(Lib.trimPrefix s.data.toList p.data.toList).toArray⟩, .bool (Lib.hasPrefix s.data.toList p.data.toList)]) ∧ w' = w := Any.strings_CutPrefix Tryz.lays103 s p w

def Tryz.lays104_ren : Go.Shelf.Ren := ⟨fun | 104 => 221 | 211 => 241 | 207 => 256 | n => n, fun | 9 => 9 | 4 => 4 | 24 => 287 | 3 => 3 | n => n, fun | n => n⟩

theorem Tryz.lays104 : Go.Proofs.Lays.n104 Tryz.prog Tryz.lays104_ren := {
  mixed := by kernel_rfl
  f104 := Tryz.func221.trans (congrArg some (by kernel_rfl))
  f207 := Tryz.func256.trans (congrArg some (by kernel_rfl))
  f211 := Tryz.func241.trans (congrArg some (by kernel_rfl))
  t3 := Tryz.underlying3
  a3 := Tryz.isAgg3
  z3 := Tryz.sizeOf3
  v3 := Tryz.zeroValue3
  t4 := Tryz.underlying4
  a4 := Tryz.isAgg4
  z4 := Tryz.sizeOf4
  v4 := Tryz.zeroValue4
  t9 := Tryz.underlying9
  a9 := Tryz.isAgg9
  z9 := Tryz.sizeOf9
  v9 := Tryz.zeroValue9
  t24 := Tryz.underlying287
  a24 := Tryz.isAgg287
  z24 := Tryz.sizeOf287
  v24 := Tryz.zeroValue287 }

open Go.RowKit in
/-- strings.CutSuffix: "CutSuffix returns s without the provided ending suffix string and reports whether it found the suffix. If s doesn't end with suffix, CutSuffix returns s, false. If suffix is the empty string, CutSuffix returns s, true.": IT RETURNS '(Lib.trimSuffix s p, Lib.hasSuffix s p)'; the world is as it was. (LAID: no walk: one application.) -/
theorem Tryz.strings_CutSuffix (s p : ByteArray) (w : World) (hs : s.size ≤ 9223372036854775807) :
    Calls Tryz.prog 221 #[.string s, .string p] w fun e w' => e = .returned (.tuple #[.string ⟨(Lib.trimSuffix s.data.toList p.data.toList).toArray⟩, .bool (Lib.hasSuffix s.data.toList p.data.toList)]) ∧ w' = w := Any.strings_CutSuffix Tryz.lays104 s p w hs

def Tryz.laysPu14_ren : Go.Shelf.Ren := ⟨fun | 14 => 218 | 16 => 238 | 17 => 239 | 19 => 249 | 20 => 250 | 21 => 251 | 22 => 252 | 23 => 253 | 24 => 254 | 25 => 261 | 27 => 134 | 26 => 262 | 28 => 173 | 29 => 211 | 30 => 232 | 31 => 233 | 32 => 234 | 33 => 235 | 35 => 189 | 34 => 245 | 36 => 246 | 37 => 247 | 38 => 248 | 39 => 259 | 40 => 260 | n => n, fun | 9 => 9 | 3 => 3 | 22 => 185 | 24 => 283 | 25 => 284 | 4 => 4 | 34 => 312 | 5 => 5 | 36 => 215 | 37 => 145 | 0 => 0 | 39 => 314 | 21 => 21 | 44 => 321 | 47 => 325 | 50 => 328 | 48 => 326 | 2 => 2 | 52 => 296 | 55 => 298 | 59 => 310 | 60 => 23 | 20 => 20 | 61 => 311 | 65 => 323 | 66 => 324 | 67 => 178 | n => n, fun | 0 => 5 | 1 => 6 | 2 => 4 | 3 => 7 | 4 => 8 | n => n⟩

theorem Tryz.laysPu14 : Go.Proofs.LaysPu.n14 Tryz.prog Tryz.laysPu14_ren := {
  mixed := by kernel_rfl
  f14 := Tryz.func218.trans (congrArg some (by kernel_rfl))
  f16 := Tryz.func238.trans (congrArg some (by kernel_rfl))
  f17 := Tryz.func239.trans (congrArg some (by kernel_rfl))
  f19 := Tryz.func249.trans (congrArg some (by kernel_rfl))
  f20 := Tryz.func250.trans (congrArg some (by kernel_rfl))
  f21 := Tryz.func251.trans (congrArg some (by kernel_rfl))
  f22 := Tryz.func252.trans (congrArg some (by kernel_rfl))
  f23 := Tryz.func253.trans (congrArg some (by kernel_rfl))
  f24 := Tryz.func254.trans (congrArg some (by kernel_rfl))
  f25 := Tryz.func261.trans (congrArg some (by kernel_rfl))
  f26 := Tryz.func262.trans (congrArg some (by kernel_rfl))
  f27 := Tryz.func134.trans (congrArg some (by kernel_rfl))
  f28 := Tryz.func173.trans (congrArg some (by kernel_rfl))
  f29 := Tryz.func211.trans (congrArg some (by kernel_rfl))
  f30 := Tryz.func232.trans (congrArg some (by kernel_rfl))
  f31 := Tryz.func233.trans (congrArg some (by kernel_rfl))
  f32 := Tryz.func234.trans (congrArg some (by kernel_rfl))
  f33 := Tryz.func235.trans (congrArg some (by kernel_rfl))
  f34 := Tryz.func245.trans (congrArg some (by kernel_rfl))
  f35 := Tryz.func189.trans (congrArg some (by kernel_rfl))
  f36 := Tryz.func246.trans (congrArg some (by kernel_rfl))
  f37 := Tryz.func247.trans (congrArg some (by kernel_rfl))
  f38 := Tryz.func248.trans (congrArg some (by kernel_rfl))
  f39 := Tryz.func259.trans (congrArg some (by kernel_rfl))
  f40 := Tryz.func260.trans (congrArg some (by kernel_rfl))
  t0 := Tryz.underlying0
  a0 := Tryz.isAgg0
  z0 := Tryz.sizeOf0
  v0 := Tryz.zeroValue0
  i0 := by kernel_rfl
  t2 := Tryz.underlying2
  a2 := Tryz.isAgg2
  z2 := Tryz.sizeOf2
  v2 := Tryz.zeroValue2
  i2 := by kernel_rfl
  t3 := Tryz.underlying3
  a3 := Tryz.isAgg3
  z3 := Tryz.sizeOf3
  v3 := Tryz.zeroValue3
  i3 := by kernel_rfl
  t4 := Tryz.underlying4
  a4 := Tryz.isAgg4
  z4 := Tryz.sizeOf4
  v4 := Tryz.zeroValue4
  i4 := by kernel_rfl
  t5 := Tryz.underlying5
  a5 := Tryz.isAgg5
  z5 := Tryz.sizeOf5
  v5 := Tryz.zeroValue5
  i5 := by kernel_rfl
  t9 := Tryz.underlying9
  a9 := Tryz.isAgg9
  z9 := Tryz.sizeOf9
  v9 := Tryz.zeroValue9
  i9 := by kernel_rfl
  t20 := Tryz.underlying20
  a20 := Tryz.isAgg20
  z20 := Tryz.sizeOf20
  v20 := Tryz.zeroValue20
  i20 := by kernel_rfl
  t21 := Tryz.underlying21
  a21 := Tryz.isAgg21
  z21 := Tryz.sizeOf21
  v21 := Tryz.zeroValue21
  i21 := by kernel_rfl
  t22 := Tryz.underlying185
  a22 := Tryz.isAgg185
  z22 := Tryz.sizeOf185
  v22 := Tryz.zeroValue185
  i22 := by kernel_rfl
  t24 := Tryz.underlying283
  a24 := Tryz.isAgg283
  z24 := Tryz.sizeOf283
  v24 := Tryz.zeroValue283
  i24 := by kernel_rfl
  t25 := Tryz.underlying284
  a25 := Tryz.isAgg284
  z25 := Tryz.sizeOf284
  v25 := Tryz.zeroValue284
  i25 := by kernel_rfl
  t34 := Tryz.underlying312
  a34 := Tryz.isAgg312
  z34 := Tryz.sizeOf312
  v34 := Tryz.zeroValue312
  i34 := by kernel_rfl
  c34 := by kernel_rfl
  t36 := Tryz.underlying215
  a36 := Tryz.isAgg215
  z36 := Tryz.sizeOf215
  v36 := Tryz.zeroValue215
  i36 := by kernel_rfl
  t37 := Tryz.underlying145
  a37 := Tryz.isAgg145
  z37 := Tryz.sizeOf145
  v37 := Tryz.zeroValue145
  i37 := by kernel_rfl
  t39 := Tryz.underlying314
  a39 := Tryz.isAgg314
  z39 := Tryz.sizeOf314
  v39 := Tryz.zeroValue314
  i39 := by kernel_rfl
  t44 := Tryz.underlying321
  a44 := Tryz.isAgg321
  z44 := Tryz.sizeOf321
  v44 := Tryz.zeroValue321
  i44 := by kernel_rfl
  t47 := Tryz.underlying325
  a47 := Tryz.isAgg325
  z47 := Tryz.sizeOf325
  v47 := Tryz.zeroValue325
  i47 := by kernel_rfl
  t48 := Tryz.underlying326
  a48 := Tryz.isAgg326
  z48 := Tryz.sizeOf326
  v48 := Tryz.zeroValue326
  i48 := by kernel_rfl
  t50 := Tryz.underlying328
  a50 := Tryz.isAgg328
  z50 := Tryz.sizeOf328
  v50 := Tryz.zeroValue328
  i50 := by kernel_rfl
  t52 := Tryz.underlying296
  a52 := Tryz.isAgg296
  z52 := Tryz.sizeOf296
  v52 := Tryz.zeroValue296
  i52 := by kernel_rfl
  t55 := Tryz.underlying298
  a55 := Tryz.isAgg298
  z55 := Tryz.sizeOf298
  v55 := Tryz.zeroValue298
  i55 := by kernel_rfl
  t59 := Tryz.underlying310
  a59 := Tryz.isAgg310
  z59 := Tryz.sizeOf310
  v59 := Tryz.zeroValue310
  i59 := by kernel_rfl
  t60 := Tryz.underlying23
  a60 := Tryz.isAgg23
  z60 := Tryz.sizeOf23
  v60 := Tryz.zeroValue23
  i60 := by kernel_rfl
  t61 := Tryz.underlying311
  a61 := Tryz.isAgg311
  z61 := Tryz.sizeOf311
  t65 := Tryz.underlying323
  a65 := Tryz.isAgg323
  z65 := Tryz.sizeOf323
  v65 := Tryz.zeroValue323
  i65 := by kernel_rfl
  t66 := Tryz.underlying324
  a66 := Tryz.isAgg324
  z66 := Tryz.sizeOf324
  v66 := Tryz.zeroValue324
  i66 := by kernel_rfl
  t67 := Tryz.underlying178
  a67 := Tryz.isAgg178
  z67 := Tryz.sizeOf178
  v67 := Tryz.zeroValue178
  i67 := by kernel_rfl
  g0 := by kernel_rfl
  m0 := by kernel_rfl
  g1 := by kernel_rfl
  m1 := by kernel_rfl
  g2 := by kernel_rfl
  m2 := by kernel_rfl
  g3 := by kernel_rfl
  m3 := by kernel_rfl
  g4 := by kernel_rfl
  m4 := by kernel_rfl }

open Go.RowKit in
/-- strconv.ParseUint(s, 10, 64), AT EVERY STRING THAT SPELLS A uint64 ('Lib.parseUintB 64 s.data.toList = .ok u'): u, AND NO ERROR. (LAID: no walk: one application.) -/
theorem Tryz.strconv_ParseUint_10_at64_ok (s : ByteArray) (hmax : s.size ≤ 9223372036854775806) (u : Nat) (h : Lib.parseUintB 64 s.data.toList = .ok u) (w : World) :
    Calls Tryz.prog 218 #[.string s, .int .i64 10, .int .i64 64] w fun e w' => e = .returned (.tuple #[.int .u64 u, .nilIface]) ∧ (w' = w ∨ w' = Lib.bytesWorld w 5 s) := Any.strconv_ParseUint_10_at64_ok Tryz.laysPu14 s hmax u h w

open Go.RowKit in
/-- strconv.ParseUint(s, 10, 64), AT EVERY NUMERAL THAT NO uint64 HOLDS: THE GREATEST uint64, AND AN ERROR THAT IS NOT nil: a *NumError in a new block N: {Func: "ParseUint", Num: s's bytes, Err: what the variable ErrRange holds}. Of what was there nothing has turned. (LAID: no walk: one application.) -/
theorem Tryz.strconv_ParseUint_10_at64_range (s : ByteArray) (hlim : s.size ≤ 281474976710656) (h : Lib.parseUintB 64 s.data.toList = .range) (ev : Value) (w : World) (hv : w.cell? ⟨6, 0, none⟩ = some ev) (hev : ev = .nilIface ∨ ∃ te pe, ev = .iface te pe) :
    Calls Tryz.prog 218 #[.string s, .int .i64 10, .int .i64 64] w fun e w' => ∃ N, e = .returned (.tuple #[.int .u64 18446744073709551615, .iface 314 (.pointer (some ⟨N, 0, none⟩))]) ∧ w.heap.size ≤ N ∧ w'.heap[N]? = some (.cells #[.string ⟨#[80, 97, 114, 115, 101, 85, 105, 110, 116]⟩, .string s, ev] 321 (0, 0)) ∧ Below w.heap.size w w' := Any.strconv_ParseUint_10_at64_range Tryz.laysPu14 s hlim h ev w hv hev

def Tryz.lays145_ren : Go.Shelf.Ren := ⟨fun | 145 => 64 | 220 => 114 | 219 => 165 | 217 => 197 | 225 => 198 | 224 => 199 | 267 => 200 | 266 => 226 | 314 => 227 | n => n, fun | 9 => 9 | 4 => 4 | 59 => 143 | 3 => 3 | 5 => 5 | 46 => 215 | 146 => 292 | 51 => 23 | n => n, fun | 1 => 1 | n => n⟩

theorem Tryz.lays145 : Go.Proofs.Lays.n145 Tryz.prog Tryz.lays145_ren := {
  mixed := by kernel_rfl
  f145 := Tryz.func64.trans (congrArg some (by kernel_rfl))
  f217 := Tryz.func197.trans (congrArg some (by kernel_rfl))
  f219 := Tryz.func165.trans (congrArg some (by kernel_rfl))
  f220 := Tryz.func114.trans (congrArg some (by kernel_rfl))
  f224 := Tryz.func199.trans (congrArg some (by kernel_rfl))
  f225 := Tryz.func198.trans (congrArg some (by kernel_rfl))
  f266 := Tryz.func226.trans (congrArg some (by kernel_rfl))
  f267 := Tryz.func200.trans (congrArg some (by kernel_rfl))
  f314 := Tryz.func227.trans (congrArg some (by kernel_rfl))
  t3 := Tryz.underlying3
  a3 := Tryz.isAgg3
  z3 := Tryz.sizeOf3
  v3 := Tryz.zeroValue3
  t4 := Tryz.underlying4
  a4 := Tryz.isAgg4
  z4 := Tryz.sizeOf4
  v4 := Tryz.zeroValue4
  t5 := Tryz.underlying5
  a5 := Tryz.isAgg5
  z5 := Tryz.sizeOf5
  v5 := Tryz.zeroValue5
  t9 := Tryz.underlying9
  a9 := Tryz.isAgg9
  z9 := Tryz.sizeOf9
  v9 := Tryz.zeroValue9
  t46 := Tryz.underlying215
  a46 := Tryz.isAgg215
  z46 := Tryz.sizeOf215
  v46 := Tryz.zeroValue215
  t51 := Tryz.underlying23
  a51 := Tryz.isAgg23
  z51 := Tryz.sizeOf23
  v51 := Tryz.zeroValue23
  t59 := Tryz.underlying143
  a59 := Tryz.isAgg143
  z59 := Tryz.sizeOf143
  v59 := Tryz.zeroValue143
  t146 := Tryz.underlying292
  a146 := Tryz.isAgg292
  z146 := Tryz.sizeOf292
  v146 := Tryz.zeroValue292
  g1 := by kernel_rfl }

open Go.RowKit Go.Lib in
/-- strings.Cut: "Cut slices s around the first instance of sep, returning the text before and after sep. The found result reports whether sep appears in s. If sep does not appear in s, cut returns s, "", false.": IT RETURNS 'Lib.cut s sep'; the world is as it was but for the count of draws. (LAID: no walk: one application.) -/
theorem Tryz.strings_Cut (s sep : ByteArray) (m : Int) (w : World) (hs : s.size < 4294967281) (hm : w.cell? ⟨1, 0, none⟩ = some (.int .i64 m)) :
    Calls Tryz.prog 64 #[.string s, .string sep] w fun e w' => e = .returned (.tuple #[.string ⟨(Lib.cut s.data.toList sep.data.toList).1.toArray⟩, .string ⟨(Lib.cut s.data.toList sep.data.toList).2.1.toArray⟩, .bool (Lib.cut s.data.toList sep.data.toList).2.2]) ∧ ∃ n, w' = w.drewN n := Any.strings_Cut Tryz.lays145 s sep m w hs hm

def Tryz.lays146_ren : Go.Shelf.Ren := ⟨fun | 146 => 63 | 221 => 113 | 268 => 162 | 138 => 163 | 143 => 164 | 195 => 194 | 197 => 195 | 218 => 196 | 219 => 165 | 260 => 225 | 217 => 197 | 225 => 198 | 224 => 199 | 267 => 200 | 266 => 226 | 314 => 227 | n => n, fun | 9 => 9 | 31 => 141 | 3 => 3 | 4 => 4 | 0 => 0 | 105 => 265 | 21 => 21 | 5 => 5 | 46 => 215 | 119 => 304 | 139 => 307 | 138 => 306 | 146 => 292 | 51 => 23 | n => n, fun | 1 => 1 | 3 => 2 | 4 => 3 | n => n⟩

theorem Tryz.lays146 : Go.Proofs.Lays.n146 Tryz.prog Tryz.lays146_ren := {
  mixed := by kernel_rfl
  f138 := Tryz.func163.trans (congrArg some (by kernel_rfl))
  f143 := Tryz.func164.trans (congrArg some (by kernel_rfl))
  f146 := Tryz.func63.trans (congrArg some (by kernel_rfl))
  f195 := Tryz.func194.trans (congrArg some (by kernel_rfl))
  f197 := Tryz.func195.trans (congrArg some (by kernel_rfl))
  f217 := Tryz.func197.trans (congrArg some (by kernel_rfl))
  f218 := Tryz.func196.trans (congrArg some (by kernel_rfl))
  f219 := Tryz.func165.trans (congrArg some (by kernel_rfl))
  f221 := Tryz.func113.trans (congrArg some (by kernel_rfl))
  f224 := Tryz.func199.trans (congrArg some (by kernel_rfl))
  f225 := Tryz.func198.trans (congrArg some (by kernel_rfl))
  f260 := Tryz.func225.trans (congrArg some (by kernel_rfl))
  f266 := Tryz.func226.trans (congrArg some (by kernel_rfl))
  f267 := Tryz.func200.trans (congrArg some (by kernel_rfl))
  f268 := Tryz.func162.trans (congrArg some (by kernel_rfl))
  f314 := Tryz.func227.trans (congrArg some (by kernel_rfl))
  t0 := Tryz.underlying0
  a0 := Tryz.isAgg0
  z0 := Tryz.sizeOf0
  v0 := Tryz.zeroValue0
  t3 := Tryz.underlying3
  a3 := Tryz.isAgg3
  z3 := Tryz.sizeOf3
  v3 := Tryz.zeroValue3
  t4 := Tryz.underlying4
  a4 := Tryz.isAgg4
  z4 := Tryz.sizeOf4
  v4 := Tryz.zeroValue4
  t5 := Tryz.underlying5
  a5 := Tryz.isAgg5
  z5 := Tryz.sizeOf5
  v5 := Tryz.zeroValue5
  t9 := Tryz.underlying9
  a9 := Tryz.isAgg9
  z9 := Tryz.sizeOf9
  v9 := Tryz.zeroValue9
  t21 := Tryz.underlying21
  a21 := Tryz.isAgg21
  z21 := Tryz.sizeOf21
  v21 := Tryz.zeroValue21
  t31 := Tryz.underlying141
  a31 := Tryz.isAgg141
  z31 := Tryz.sizeOf141
  v31 := Tryz.zeroValue141
  t46 := Tryz.underlying215
  a46 := Tryz.isAgg215
  z46 := Tryz.sizeOf215
  v46 := Tryz.zeroValue215
  t51 := Tryz.underlying23
  a51 := Tryz.isAgg23
  z51 := Tryz.sizeOf23
  v51 := Tryz.zeroValue23
  t105 := Tryz.underlying265
  a105 := Tryz.isAgg265
  z105 := Tryz.sizeOf265
  v105 := Tryz.zeroValue265
  t119 := Tryz.underlying304
  a119 := Tryz.isAgg304
  z119 := Tryz.sizeOf304
  t138 := Tryz.underlying306
  a138 := Tryz.isAgg306
  z138 := Tryz.sizeOf306
  v138 := Tryz.zeroValue306
  t139 := Tryz.underlying307
  a139 := Tryz.isAgg307
  z139 := Tryz.sizeOf307
  v139 := Tryz.zeroValue307
  t146 := Tryz.underlying292
  a146 := Tryz.isAgg292
  z146 := Tryz.sizeOf292
  v146 := Tryz.zeroValue292
  g1 := by kernel_rfl
  g3 := by kernel_rfl
  g4 := by kernel_rfl }

open Go.RowKit Go.Lib in
/-- strings.Split. (LAID: no walk: one application.) -/
theorem Tryz.strings_Split (s sep : ByteArray) (m : Int) (w : World) (hs : s.size < 4294967281) (hm : w.cell? ⟨1, 0, none⟩ = some (.int .i64 m)) (h1 : 1 ≤ sep.size) :
    Calls Tryz.prog 63 #[.string s, .string sep] w fun e w' =>
      e = .returned (.slice (some ⟨w.heap.size, 0, none⟩) (Lib.countB s sep + 1) (Lib.countB s sep + 1)) ∧ w' = w.alloc (.cells ((Lib.splitB sep 0 (Lib.countB s sep) s).map Value.string).toArray 9) := Any.strings_Split Tryz.lays146 (by kernel_rfl) s sep m w hs hm h1

def Tryz.lays110_ren : Go.Shelf.Ren := ⟨fun | 110 => 191 | 109 => 219 | n => n, fun | 31 => 141 | 9 => 9 | 4 => 4 | 3 => 3 | 0 => 0 | n => n, fun | n => n⟩

theorem Tryz.lays110 : Go.Proofs.Lays.n110 Tryz.prog Tryz.lays110_ren := {
  mixed := by kernel_rfl
  f109 := Tryz.func219.trans (congrArg some (by kernel_rfl))
  f110 := Tryz.func191.trans (congrArg some (by kernel_rfl))
  t0 := Tryz.underlying0
  a0 := Tryz.isAgg0
  z0 := Tryz.sizeOf0
  v0 := Tryz.zeroValue0
  t3 := Tryz.underlying3
  a3 := Tryz.isAgg3
  z3 := Tryz.sizeOf3
  v3 := Tryz.zeroValue3
  t4 := Tryz.underlying4
  a4 := Tryz.isAgg4
  z4 := Tryz.sizeOf4
  v4 := Tryz.zeroValue4
  t9 := Tryz.underlying9
  a9 := Tryz.isAgg9
  z9 := Tryz.sizeOf9
  v9 := Tryz.zeroValue9
  t31 := Tryz.underlying141
  a31 := Tryz.isAgg141
  z31 := Tryz.sizeOf141
  v31 := Tryz.zeroValue141 }

open Go.Lib in
/-- slices.Contains at []string: "Contains reports whether v is present in s.": IT RETURNS 'Lib.containsS (the elements) v', which is true just where v is among them ('Lib.containsS_iff'); the world is as it was. ITS CALLEE slices.Index IS MET BY ITS OWN CONTRACT OFF THE SHELF (lay that first): no loop is walked here. (LAID: no walk: one application.) -/
theorem Tryz.slices_Contains_string (b off n c : Nat) (zs : List ByteArray) (x : ByteArray) (w : World) (hz : n ≤ zs.length) (hbig : n ≤ 9223372036854775807) (hc : ∀ j, j < zs.length → w.cell? ⟨b, off + j, none⟩ = some (.string (zs.getD j ByteArray.empty))) :
    Calls Tryz.prog 191 #[.slice (some ⟨b, off, none⟩) n c, .string x] w fun e w' => e = .returned (.bool (Lib.containsS (zs.take n) x)) ∧ w' = w := Any.slices_Contains_string Tryz.lays110 b off n c zs x w hz hbig hc
end Go.Proofs
