/- The contracts of the library at this dump, laid by the kit's tool in plain words. -/
import Derived.Shelf.Small.Bits
import Derived.Shelf.Small.Wraps
import Derived.Shelf.Strconv.Itoa0
import Derived.Shelf.Strconv.Itoa1
import Derived.Shelf.LaysM
import Derived.Shelf.Strconv.Itoa2
import Derived.Shelf.Strconv.Itoa3
import Derived.Shelf.Pu.ParseUintPublic10
import Derived.Shelf.Strings.Search1
import Derived.Shelf.Strings.Search2
import Derived.Shelf.Strings.Search3
import Derived.Shelf.Strings.Cut
import Derived.Shelf.Strings.Count
import Derived.Shelf.Strings.Shaped
import Derived.Shelf.Strings.Prefix
import Derived.Shelf.Strings.Split
import Derived.Shelf.Strings.SplitShaped
import Derived.Shelf.Unicode.DecodeSlow
import Derived.Shelf.Slices.Turned
import Derived.Test.YtmngghglcgmkeaaGreatDoorProg
namespace Go.Proofs
open Go.Shelf
def Tryz.lays103_ren : Go.Shelf.Ren := ⟨fun | 103 => 130 | 210 => 158 | 206 => 192 | n => n, fun | 9 => 9 | 4 => 4 | 24 => 191 | 3 => 3 | n => n, fun | n => n⟩

theorem Tryz.lays103 : Go.Proofs.Lays.n103 Tryz.prog Tryz.lays103_ren := {
  mixed := by kernel_rfl
  f103 := Tryz.func130.trans (congrArg some (by kernel_rfl))
  f206 := Tryz.func192.trans (congrArg some (by kernel_rfl))
  f210 := Tryz.func158.trans (congrArg some (by kernel_rfl))
  t3 := Tryz.underlying3
  a3 := Tryz.isAgg3
  z3 := Tryz.sizeOf3
  v3 := Tryz.zeroValue3
  t4 := Tryz.underlying4
  a4 := Tryz.isAgg4
  z4 := Tryz.sizeOf4
  v4 := Tryz.zeroValue4
  t9 := Tryz.underlying9
  a9 := Tryz.isAgg9
  z9 := Tryz.sizeOf9
  v9 := Tryz.zeroValue9
  t24 := Tryz.underlying191
  a24 := Tryz.isAgg191
  z24 := Tryz.sizeOf191
  v24 := Tryz.zeroValue191 }

open Go.RowKit in
/-- strings.CutPrefix: "CutPrefix returns s without the provided leading prefix string and reports whether it found the prefix. If s doesn't start with prefix, CutPrefix returns s, false. If prefix is the empty string, CutPrefix returns s, true.": IT RETURNS '(Lib.trimPrefix s p, Lib.hasPrefix s p)'; the world is as it was. (LAID: no walk: one application.) -/
theorem Tryz.strings_CutPrefix (s p : ByteArray) (w : World) :
    Calls Tryz.prog 130 #[.string s, .string p] w fun e w' => e = .returned (.tuple #[.string ⟨(Lib.trimPrefix s.data.toList p.data.toList).toArray⟩, .bool (Lib.hasPrefix s.data.toList p.data.toList)]) ∧ w' = w := Any.strings_CutPrefix Tryz.lays103 s p w

def Tryz.lays104_ren : Go.Shelf.Ren := ⟨fun | 104 => 131 | 211 => 159 | 207 => 193 | n => n, fun | 9 => 9 | 4 => 4 | 24 => 191 | 3 => 3 | n => n, fun | n => n⟩

theorem Tryz.lays104 : Go.Proofs.Lays.n104 Tryz.prog Tryz.lays104_ren := {
  mixed := by kernel_rfl
  f104 := Tryz.func131.trans (congrArg some (by kernel_rfl))
  f207 := Tryz.func193.trans (congrArg some (by kernel_rfl))
  f211 := Tryz.func159.trans (congrArg some (by kernel_rfl))
  t3 := Tryz.underlying3
  a3 := Tryz.isAgg3
  z3 := Tryz.sizeOf3
  v3 := Tryz.zeroValue3
  t4 := Tryz.underlying4
  a4 := Tryz.isAgg4
  z4 := Tryz.sizeOf4
  v4 := Tryz.zeroValue4
  t9 := Tryz.underlying9
  a9 := Tryz.isAgg9
  z9 := Tryz.sizeOf9
  v9 := Tryz.zeroValue9
  t24 := Tryz.underlying191
  a24 := Tryz.isAgg191
  z24 := Tryz.sizeOf191
  v24 := Tryz.zeroValue191 }

open Go.RowKit in
/-- strings.CutSuffix: "CutSuffix returns s without the provided ending suffix string and reports whether it found the suffix. If s doesn't end with suffix, CutSuffix returns s, false. If suffix is the empty string, CutSuffix returns s, true.": IT RETURNS '(Lib.trimSuffix s p, Lib.hasSuffix s p)'; the world is as it was. (LAID: no walk: one application.) -/
theorem Tryz.strings_CutSuffix (s p : ByteArray) (w : World) (hs : s.size ≤ 9223372036854775807) :
    Calls Tryz.prog 131 #[.string s, .string p] w fun e w' => e = .returned (.tuple #[.string ⟨(Lib.trimSuffix s.data.toList p.data.toList).toArray⟩, .bool (Lib.hasSuffix s.data.toList p.data.toList)]) ∧ w' = w := Any.strings_CutSuffix Tryz.lays104 s p w hs

def Tryz.laysPu14_ren : Go.Shelf.Ren := ⟨fun | 14 => 128 | 16 => 156 | 17 => 157 | 19 => 186 | 20 => 187 | 21 => 188 | 22 => 189 | 23 => 190 | 24 => 191 | 25 => 205 | 27 => 67 | 26 => 206 | 28 => 100 | 29 => 121 | 30 => 137 | 31 => 138 | 32 => 139 | 33 => 140 | 35 => 151 | 34 => 170 | 36 => 171 | 37 => 172 | 38 => 173 | 39 => 199 | 40 => 200 | n => n, fun | 9 => 9 | 3 => 3 | 22 => 170 | 24 => 187 | 25 => 188 | 4 => 4 | 34 => 231 | 5 => 5 | 36 => 160 | 37 => 184 | 0 => 0 | 39 => 233 | 21 => 21 | 44 => 246 | 47 => 255 | 50 => 258 | 48 => 256 | 2 => 2 | 52 => 198 | 55 => 201 | 59 => 220 | 60 => 23 | 20 => 20 | 61 => 221 | 65 => 249 | 66 => 250 | 67 => 99 | n => n, fun | 0 => 3 | 1 => 4 | 2 => 1 | 3 => 5 | 4 => 6 | n => n⟩

theorem Tryz.laysPu14 : Go.Proofs.LaysPu.n14 Tryz.prog Tryz.laysPu14_ren := {
  mixed := by kernel_rfl
  f14 := Tryz.func128.trans (congrArg some (by kernel_rfl))
  f16 := Tryz.func156.trans (congrArg some (by kernel_rfl))
  f17 := Tryz.func157.trans (congrArg some (by kernel_rfl))
  f19 := Tryz.func186.trans (congrArg some (by kernel_rfl))
  f20 := Tryz.func187.trans (congrArg some (by kernel_rfl))
  f21 := Tryz.func188.trans (congrArg some (by kernel_rfl))
  f22 := Tryz.func189.trans (congrArg some (by kernel_rfl))
  f23 := Tryz.func190.trans (congrArg some (by kernel_rfl))
  f24 := Tryz.func191.trans (congrArg some (by kernel_rfl))
  f25 := Tryz.func205.trans (congrArg some (by kernel_rfl))
  f26 := Tryz.func206.trans (congrArg some (by kernel_rfl))
  f27 := Tryz.func67.trans (congrArg some (by kernel_rfl))
  f28 := Tryz.func100.trans (congrArg some (by kernel_rfl))
  f29 := Tryz.func121.trans (congrArg some (by kernel_rfl))
  f30 := Tryz.func137.trans (congrArg some (by kernel_rfl))
  f31 := Tryz.func138.trans (congrArg some (by kernel_rfl))
  f32 := Tryz.func139.trans (congrArg some (by kernel_rfl))
  f33 := Tryz.func140.trans (congrArg some (by kernel_rfl))
  f34 := Tryz.func170.trans (congrArg some (by kernel_rfl))
  f35 := Tryz.func151.trans (congrArg some (by kernel_rfl))
  f36 := Tryz.func171.trans (congrArg some (by kernel_rfl))
  f37 := Tryz.func172.trans (congrArg some (by kernel_rfl))
  f38 := Tryz.func173.trans (congrArg some (by kernel_rfl))
  f39 := Tryz.func199.trans (congrArg some (by kernel_rfl))
  f40 := Tryz.func200.trans (congrArg some (by kernel_rfl))
  t0 := Tryz.underlying0
  a0 := Tryz.isAgg0
  z0 := Tryz.sizeOf0
  v0 := Tryz.zeroValue0
  i0 := by kernel_rfl
  t2 := Tryz.underlying2
  a2 := Tryz.isAgg2
  z2 := Tryz.sizeOf2
  v2 := Tryz.zeroValue2
  i2 := by kernel_rfl
  t3 := Tryz.underlying3
  a3 := Tryz.isAgg3
  z3 := Tryz.sizeOf3
  v3 := Tryz.zeroValue3
  i3 := by kernel_rfl
  t4 := Tryz.underlying4
  a4 := Tryz.isAgg4
  z4 := Tryz.sizeOf4
  v4 := Tryz.zeroValue4
  i4 := by kernel_rfl
  t5 := Tryz.underlying5
  a5 := Tryz.isAgg5
  z5 := Tryz.sizeOf5
  v5 := Tryz.zeroValue5
  i5 := by kernel_rfl
  t9 := Tryz.underlying9
  a9 := Tryz.isAgg9
  z9 := Tryz.sizeOf9
  v9 := Tryz.zeroValue9
  i9 := by kernel_rfl
  t20 := Tryz.underlying20
  a20 := Tryz.isAgg20
  z20 := Tryz.sizeOf20
  v20 := Tryz.zeroValue20
  i20 := by kernel_rfl
  t21 := Tryz.underlying21
  a21 := Tryz.isAgg21
  z21 := Tryz.sizeOf21
  v21 := Tryz.zeroValue21
  i21 := by kernel_rfl
  t22 := Tryz.underlying170
  a22 := Tryz.isAgg170
  z22 := Tryz.sizeOf170
  v22 := Tryz.zeroValue170
  i22 := by kernel_rfl
  t24 := Tryz.underlying187
  a24 := Tryz.isAgg187
  z24 := Tryz.sizeOf187
  v24 := Tryz.zeroValue187
  i24 := by kernel_rfl
  t25 := Tryz.underlying188
  a25 := Tryz.isAgg188
  z25 := Tryz.sizeOf188
  v25 := Tryz.zeroValue188
  i25 := by kernel_rfl
  t34 := Tryz.underlying231
  a34 := Tryz.isAgg231
  z34 := Tryz.sizeOf231
  v34 := Tryz.zeroValue231
  i34 := by kernel_rfl
  c34 := by kernel_rfl
  t36 := Tryz.underlying160
  a36 := Tryz.isAgg160
  z36 := Tryz.sizeOf160
  v36 := Tryz.zeroValue160
  i36 := by kernel_rfl
  t37 := Tryz.underlying184
  a37 := Tryz.isAgg184
  z37 := Tryz.sizeOf184
  v37 := Tryz.zeroValue184
  i37 := by kernel_rfl
  t39 := Tryz.underlying233
  a39 := Tryz.isAgg233
  z39 := Tryz.sizeOf233
  v39 := Tryz.zeroValue233
  i39 := by kernel_rfl
  t44 := Tryz.underlying246
  a44 := Tryz.isAgg246
  z44 := Tryz.sizeOf246
  v44 := Tryz.zeroValue246
  i44 := by kernel_rfl
  t47 := Tryz.underlying255
  a47 := Tryz.isAgg255
  z47 := Tryz.sizeOf255
  v47 := Tryz.zeroValue255
  i47 := by kernel_rfl
  t48 := Tryz.underlying256
  a48 := Tryz.isAgg256
  z48 := Tryz.sizeOf256
  v48 := Tryz.zeroValue256
  i48 := by kernel_rfl
  t50 := Tryz.underlying258
  a50 := Tryz.isAgg258
  z50 := Tryz.sizeOf258
  v50 := Tryz.zeroValue258
  i50 := by kernel_rfl
  t52 := Tryz.underlying198
  a52 := Tryz.isAgg198
  z52 := Tryz.sizeOf198
  v52 := Tryz.zeroValue198
  i52 := by kernel_rfl
  t55 := Tryz.underlying201
  a55 := Tryz.isAgg201
  z55 := Tryz.sizeOf201
  v55 := Tryz.zeroValue201
  i55 := by kernel_rfl
  t59 := Tryz.underlying220
  a59 := Tryz.isAgg220
  z59 := Tryz.sizeOf220
  v59 := Tryz.zeroValue220
  i59 := by kernel_rfl
  t60 := Tryz.underlying23
  a60 := Tryz.isAgg23
  z60 := Tryz.sizeOf23
  v60 := Tryz.zeroValue23
  i60 := by kernel_rfl
  t61 := Tryz.underlying221
  a61 := Tryz.isAgg221
  z61 := Tryz.sizeOf221
  t65 := Tryz.underlying249
  a65 := Tryz.isAgg249
  z65 := Tryz.sizeOf249
  v65 := Tryz.zeroValue249
  i65 := by kernel_rfl
  t66 := Tryz.underlying250
  a66 := Tryz.isAgg250
  z66 := Tryz.sizeOf250
  v66 := Tryz.zeroValue250
  i66 := by kernel_rfl
  t67 := Tryz.underlying99
  a67 := Tryz.isAgg99
  z67 := Tryz.sizeOf99
  v67 := Tryz.zeroValue99
  i67 := by kernel_rfl
  g0 := by kernel_rfl
  m0 := by kernel_rfl
  g1 := by kernel_rfl
  m1 := by kernel_rfl
  g2 := by kernel_rfl
  m2 := by kernel_rfl
  g3 := by kernel_rfl
  m3 := by kernel_rfl
  g4 := by kernel_rfl
  m4 := by kernel_rfl }

open Go.RowKit in
/-- strconv.ParseUint(s, 10, 64), AT EVERY STRING THAT SPELLS A uint64 ('Lib.parseUintB 64 s.data.toList = .ok u'): u, AND NO ERROR. (LAID: no walk: one application.) -/
theorem Tryz.strconv_ParseUint_10_at64_ok (s : ByteArray) (hmax : s.size ≤ 9223372036854775806) (u : Nat) (h : Lib.parseUintB 64 s.data.toList = .ok u) (w : World) :
    Calls Tryz.prog 128 #[.string s, .int .i64 10, .int .i64 64] w fun e w' => e = .returned (.tuple #[.int .u64 u, .nilIface]) ∧ (w' = w ∨ w' = Lib.bytesWorld w 5 s) := Any.strconv_ParseUint_10_at64_ok Tryz.laysPu14 s hmax u h w

open Go.RowKit in
/-- strconv.ParseUint(s, 10, 64), AT EVERY NUMERAL THAT NO uint64 HOLDS: THE GREATEST uint64, AND AN ERROR THAT IS NOT nil: a *NumError in a new block N: {Func: "ParseUint", Num: s's bytes, Err: what the variable ErrRange holds}. Of what was there nothing has turned. (LAID: no walk: one application.) -/
theorem Tryz.strconv_ParseUint_10_at64_range (s : ByteArray) (hlim : s.size ≤ 281474976710656) (h : Lib.parseUintB 64 s.data.toList = .range) (ev : Value) (w : World) (hv : w.cell? ⟨4, 0, none⟩ = some ev) (hev : ev = .nilIface ∨ ∃ te pe, ev = .iface te pe) :
    Calls Tryz.prog 128 #[.string s, .int .i64 10, .int .i64 64] w fun e w' => ∃ N, e = .returned (.tuple #[.int .u64 18446744073709551615, .iface 233 (.pointer (some ⟨N, 0, none⟩))]) ∧ w.heap.size ≤ N ∧ w'.heap[N]? = some (.cells #[.string ⟨#[80, 97, 114, 115, 101, 85, 105, 110, 116]⟩, .string s, ev] 246 (0, 0)) ∧ Below w.heap.size w w' := Any.strconv_ParseUint_10_at64_range Tryz.laysPu14 s hlim h ev w hv hev

def Tryz.lays145_ren : Go.Shelf.Ren := ⟨fun | 145 => 112 | 220 => 127 | 219 => 155 | 217 => 182 | 225 => 183 | 224 => 184 | 267 => 185 | 266 => 203 | 314 => 204 | n => n, fun | 9 => 9 | 4 => 4 | 59 => 168 | 3 => 3 | 5 => 5 | 46 => 160 | 146 => 242 | 51 => 23 | n => n, fun | 1 => 2 | n => n⟩

theorem Tryz.lays145 : Go.Proofs.Lays.n145 Tryz.prog Tryz.lays145_ren := {
  mixed := by kernel_rfl
  f145 := Tryz.func112.trans (congrArg some (by kernel_rfl))
  f217 := Tryz.func182.trans (congrArg some (by kernel_rfl))
  f219 := Tryz.func155.trans (congrArg some (by kernel_rfl))
  f220 := Tryz.func127.trans (congrArg some (by kernel_rfl))
  f224 := Tryz.func184.trans (congrArg some (by kernel_rfl))
  f225 := Tryz.func183.trans (congrArg some (by kernel_rfl))
  f266 := Tryz.func203.trans (congrArg some (by kernel_rfl))
  f267 := Tryz.func185.trans (congrArg some (by kernel_rfl))
  f314 := Tryz.func204.trans (congrArg some (by kernel_rfl))
  t3 := Tryz.underlying3
  a3 := Tryz.isAgg3
  z3 := Tryz.sizeOf3
  v3 := Tryz.zeroValue3
  t4 := Tryz.underlying4
  a4 := Tryz.isAgg4
  z4 := Tryz.sizeOf4
  v4 := Tryz.zeroValue4
  t5 := Tryz.underlying5
  a5 := Tryz.isAgg5
  z5 := Tryz.sizeOf5
  v5 := Tryz.zeroValue5
  t9 := Tryz.underlying9
  a9 := Tryz.isAgg9
  z9 := Tryz.sizeOf9
  v9 := Tryz.zeroValue9
  t46 := Tryz.underlying160
  a46 := Tryz.isAgg160
  z46 := Tryz.sizeOf160
  v46 := Tryz.zeroValue160
  t51 := Tryz.underlying23
  a51 := Tryz.isAgg23
  z51 := Tryz.sizeOf23
  v51 := Tryz.zeroValue23
  t59 := Tryz.underlying168
  a59 := Tryz.isAgg168
  z59 := Tryz.sizeOf168
  v59 := Tryz.zeroValue168
  t146 := Tryz.underlying242
  a146 := Tryz.isAgg242
  z146 := Tryz.sizeOf242
  v146 := Tryz.zeroValue242
  g1 := by kernel_rfl }

open Go.RowKit Go.Lib in
/-- strings.Cut: "Cut slices s around the first instance of sep, returning the text before and after sep. The found result reports whether sep appears in s. If sep does not appear in s, cut returns s, "", false.": IT RETURNS 'Lib.cut s sep'; the world is as it was but for the count of draws. (LAID: no walk: one application.) -/
theorem Tryz.strings_Cut (s sep : ByteArray) (m : Int) (w : World) (hs : s.size < 4294967281) (hm : w.cell? ⟨2, 0, none⟩ = some (.int .i64 m)) :
    Calls Tryz.prog 112 #[.string s, .string sep] w fun e w' => e = .returned (.tuple #[.string ⟨(Lib.cut s.data.toList sep.data.toList).1.toArray⟩, .string ⟨(Lib.cut s.data.toList sep.data.toList).2.1.toArray⟩, .bool (Lib.cut s.data.toList sep.data.toList).2.2]) ∧ ∃ n, w' = w.drewN n := Any.strings_Cut Tryz.lays145 s sep m w hs hm

def Tryz.lays146_ren : Go.Shelf.Ren := ⟨fun | 146 => 111 | 221 => 126 | 268 => 152 | 138 => 153 | 143 => 154 | 195 => 179 | 197 => 180 | 218 => 181 | 219 => 155 | 260 => 202 | 217 => 182 | 225 => 183 | 224 => 184 | 267 => 185 | 266 => 203 | 314 => 204 | n => n, fun | 9 => 9 | 31 => 110 | 3 => 3 | 4 => 4 | 0 => 0 | 105 => 228 | 21 => 21 | 5 => 5 | 46 => 160 | 119 => 251 | 139 => 254 | 138 => 253 | 146 => 242 | 51 => 23 | n => n, fun | 1 => 2 | 3 => 7 | 4 => 8 | n => n⟩

theorem Tryz.lays146 : Go.Proofs.Lays.n146 Tryz.prog Tryz.lays146_ren := {
  mixed := by kernel_rfl
  f138 := Tryz.func153.trans (congrArg some (by kernel_rfl))
  f143 := Tryz.func154.trans (congrArg some (by kernel_rfl))
  f146 := Tryz.func111.trans (congrArg some (by kernel_rfl))
  f195 := Tryz.func179.trans (congrArg some (by kernel_rfl))
  f197 := Tryz.func180.trans (congrArg some (by kernel_rfl))
  f217 := Tryz.func182.trans (congrArg some (by kernel_rfl))
  f218 := Tryz.func181.trans (congrArg some (by kernel_rfl))
  f219 := Tryz.func155.trans (congrArg some (by kernel_rfl))
  f221 := Tryz.func126.trans (congrArg some (by kernel_rfl))
  f224 := Tryz.func184.trans (congrArg some (by kernel_rfl))
  f225 := Tryz.func183.trans (congrArg some (by kernel_rfl))
  f260 := Tryz.func202.trans (congrArg some (by kernel_rfl))
  f266 := Tryz.func203.trans (congrArg some (by kernel_rfl))
  f267 := Tryz.func185.trans (congrArg some (by kernel_rfl))
  f268 := Tryz.func152.trans (congrArg some (by kernel_rfl))
  f314 := Tryz.func204.trans (congrArg some (by kernel_rfl))
  t0 := Tryz.underlying0
  a0 := Tryz.isAgg0
  z0 := Tryz.sizeOf0
  v0 := Tryz.zeroValue0
  t3 := Tryz.underlying3
  a3 := Tryz.isAgg3
  z3 := Tryz.sizeOf3
  v3 := Tryz.zeroValue3
  t4 := Tryz.underlying4
  a4 := Tryz.isAgg4
  z4 := Tryz.sizeOf4
  v4 := Tryz.zeroValue4
  t5 := Tryz.underlying5
  a5 := Tryz.isAgg5
  z5 := Tryz.sizeOf5
  v5 := Tryz.zeroValue5
  t9 := Tryz.underlying9
  a9 := Tryz.isAgg9
  z9 := Tryz.sizeOf9
  v9 := Tryz.zeroValue9
  t21 := Tryz.underlying21
  a21 := Tryz.isAgg21
  z21 := Tryz.sizeOf21
  v21 := Tryz.zeroValue21
  t31 := Tryz.underlying110
  a31 := Tryz.isAgg110
  z31 := Tryz.sizeOf110
  v31 := Tryz.zeroValue110
  t46 := Tryz.underlying160
  a46 := Tryz.isAgg160
  z46 := Tryz.sizeOf160
  v46 := Tryz.zeroValue160
  t51 := Tryz.underlying23
  a51 := Tryz.isAgg23
  z51 := Tryz.sizeOf23
  v51 := Tryz.zeroValue23
  t105 := Tryz.underlying228
  a105 := Tryz.isAgg228
  z105 := Tryz.sizeOf228
  v105 := Tryz.zeroValue228
  t119 := Tryz.underlying251
  a119 := Tryz.isAgg251
  z119 := Tryz.sizeOf251
  t138 := Tryz.underlying253
  a138 := Tryz.isAgg253
  z138 := Tryz.sizeOf253
  v138 := Tryz.zeroValue253
  t139 := Tryz.underlying254
  a139 := Tryz.isAgg254
  z139 := Tryz.sizeOf254
  v139 := Tryz.zeroValue254
  t146 := Tryz.underlying242
  a146 := Tryz.isAgg242
  z146 := Tryz.sizeOf242
  v146 := Tryz.zeroValue242
  g1 := by kernel_rfl
  g3 := by kernel_rfl
  g4 := by kernel_rfl }

open Go.RowKit Go.Lib in
/-- strings.Split. (LAID: no walk: one application.) -/
theorem Tryz.strings_Split (s sep : ByteArray) (m : Int) (w : World) (hs : s.size < 4294967281) (hm : w.cell? ⟨2, 0, none⟩ = some (.int .i64 m)) (h1 : 1 ≤ sep.size) :
    Calls Tryz.prog 111 #[.string s, .string sep] w fun e w' =>
      e = .returned (.slice (some ⟨w.heap.size, 0, none⟩) (Lib.countB s sep + 1) (Lib.countB s sep + 1)) ∧ w' = w.alloc (.cells ((Lib.splitB sep 0 (Lib.countB s sep) s).map Value.string).toArray 9) := Any.strings_Split Tryz.lays146 (by kernel_rfl) s sep m w hs hm h1

def Tryz.lays110_ren : Go.Shelf.Ren := ⟨fun | 110 => 114 | 109 => 129 | n => n, fun | 31 => 110 | 9 => 9 | 4 => 4 | 3 => 3 | 0 => 0 | n => n, fun | n => n⟩

theorem Tryz.lays110 : Go.Proofs.Lays.n110 Tryz.prog Tryz.lays110_ren := {
  mixed := by kernel_rfl
  f109 := Tryz.func129.trans (congrArg some (by kernel_rfl))
  f110 := Tryz.func114.trans (congrArg some (by kernel_rfl))
  t0 := Tryz.underlying0
  a0 := Tryz.isAgg0
  z0 := Tryz.sizeOf0
  v0 := Tryz.zeroValue0
  t3 := Tryz.underlying3
  a3 := Tryz.isAgg3
  z3 := Tryz.sizeOf3
  v3 := Tryz.zeroValue3
  t4 := Tryz.underlying4
  a4 := Tryz.isAgg4
  z4 := Tryz.sizeOf4
  v4 := Tryz.zeroValue4
  t9 := Tryz.underlying9
  a9 := Tryz.isAgg9
  z9 := Tryz.sizeOf9
  v9 := Tryz.zeroValue9
  t31 := Tryz.underlying110
  a31 := Tryz.isAgg110
  z31 := Tryz.sizeOf110
  v31 := Tryz.zeroValue110 }

open Go.Lib in
/-- slices.Contains at []string: "Contains reports whether v is present in s.": IT RETURNS 'Lib.containsS (the elements) v', which is true just where v is among them ('Lib.containsS_iff'); the world is as it was. ITS CALLEE slices.Index IS MET BY ITS OWN CONTRACT OFF THE SHELF (lay that first): no loop is walked here. (LAID: no walk: one application.) -/
theorem Tryz.slices_Contains_string (b off n c : Nat) (zs : List ByteArray) (x : ByteArray) (w : World) (hz : n ≤ zs.length) (hbig : n ≤ 9223372036854775807) (hc : ∀ j, j < zs.length → w.cell? ⟨b, off + j, none⟩ = some (.string (zs.getD j ByteArray.empty))) :
    Calls Tryz.prog 114 #[.slice (some ⟨b, off, none⟩) n c, .string x] w fun e w' => e = .returned (.bool (Lib.containsS (zs.take n) x)) ∧ w' = w := Any.slices_Contains_string Tryz.lays110 b off n c zs x w hz hbig hc
end Go.Proofs
