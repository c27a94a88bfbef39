/- The contracts of the library at this dump, laid by the kit's tool in plain words. -/
import Derived.Shelf.Small.Bits
import Derived.Shelf.Small.Wraps
import Derived.Shelf.Strconv.Itoa0
import Derived.Shelf.Strconv.Itoa1
import Derived.Shelf.LaysM
import Derived.Shelf.Strconv.Itoa2
import Derived.Shelf.Strconv.Itoa3
import Derived.Shelf.Pu.ParseUintPublic10
import Derived.Shelf.Strings.Search1
import Derived.Shelf.Strings.Search2
import Derived.Shelf.Strings.Search3
import Derived.Shelf.Strings.Cut
import Derived.Shelf.Strings.Count
import Derived.Shelf.Strings.Shaped
import Derived.Shelf.Strings.Prefix
import Derived.Shelf.Strings.Split
import Derived.Shelf.Strings.SplitShaped
import Derived.Shelf.Bits.Mul64
import Derived.Shelf.Unicode.DecodeSlow
import Derived.Shelf.Slices.Turned
import Derived.Shelf.SortM.Plain
import Derived.Shelf.SortM.SortNone
import Derived.Test.YtheaacliomfkoaaGreatDoorProg
namespace Go.Proofs
open Go.Shelf
def Tryz.lays125_ren : Go.Shelf.Ren := ⟨fun | 125 => 93 | 128 => 121 | 129 => 122 | n => n, fun | 46 => 155 | 3 => 3 | 51 => 59 | 53 => 182 | 4 => 4 | 5 => 5 | 9 => 9 | n => n, fun | n => n⟩

theorem Tryz.lays125 : Go.Proofs.Lays.n125 Tryz.prog Tryz.lays125_ren := {
  mixed := by kernel_rfl
  f125 := Tryz.func93.trans (congrArg some (by kernel_rfl))
  f128 := Tryz.func121.trans (congrArg some (by kernel_rfl))
  f129 := Tryz.func122.trans (congrArg some (by kernel_rfl))
  t3 := Tryz.underlying3
  a3 := Tryz.isAgg3
  z3 := Tryz.sizeOf3
  v3 := Tryz.zeroValue3
  t4 := Tryz.underlying4
  a4 := Tryz.isAgg4
  z4 := Tryz.sizeOf4
  v4 := Tryz.zeroValue4
  t5 := Tryz.underlying5
  a5 := Tryz.isAgg5
  z5 := Tryz.sizeOf5
  v5 := Tryz.zeroValue5
  t9 := Tryz.underlying9
  a9 := Tryz.isAgg9
  z9 := Tryz.sizeOf9
  v9 := Tryz.zeroValue9
  t46 := Tryz.underlying155
  a46 := Tryz.isAgg155
  z46 := Tryz.sizeOf155
  v46 := Tryz.zeroValue155
  t51 := Tryz.underlying59
  a51 := Tryz.isAgg59
  z51 := Tryz.sizeOf59
  v51 := Tryz.zeroValue59
  t53 := Tryz.underlying182
  a53 := Tryz.isAgg182
  z53 := Tryz.sizeOf182
  v53 := Tryz.zeroValue182 }

/-- bits.Len: "Len returns the minimum number of bits required to represent x; the result is 0 for x == 0.": IT RETURNS 'Lib.bitLen x'; the world is as it was. (A uint has 64 bits in the model.) ITS CALLEE bits.Len64 IS MET BY ITS OWN CONTRACT OFF THE SHELF (lay that first). (LAID: no walk: one application.) -/
theorem Tryz.bits_Len (x : Int) (w : World) (h0 : 0 ≤ x) (h1 : x ≤ 18446744073709551615) :
    Calls Tryz.prog 93 #[.int .u64 x] w fun e w' => e = .returned (.int .i64 (Lib.bitLen x.toNat)) ∧ w' = w := Any.bits_Len Tryz.lays125 x w h0 h1

def Tryz.lays134_ren : Go.Shelf.Ren := ⟨fun | 134 => 205 | 129 => 122 | n => n, fun | 53 => 182 | 3 => 3 | 4 => 4 | 46 => 155 | 5 => 5 | 9 => 9 | n => n, fun | n => n⟩

theorem Tryz.lays134 : Go.Proofs.Lays.n134 Tryz.prog Tryz.lays134_ren := {
  mixed := by kernel_rfl
  f129 := Tryz.func122.trans (congrArg some (by kernel_rfl))
  f134 := Tryz.func205.trans (congrArg some (by kernel_rfl))
  t3 := Tryz.underlying3
  a3 := Tryz.isAgg3
  z3 := Tryz.sizeOf3
  v3 := Tryz.zeroValue3
  t4 := Tryz.underlying4
  a4 := Tryz.isAgg4
  z4 := Tryz.sizeOf4
  v4 := Tryz.zeroValue4
  t5 := Tryz.underlying5
  a5 := Tryz.isAgg5
  z5 := Tryz.sizeOf5
  v5 := Tryz.zeroValue5
  t9 := Tryz.underlying9
  a9 := Tryz.isAgg9
  z9 := Tryz.sizeOf9
  v9 := Tryz.zeroValue9
  t46 := Tryz.underlying155
  a46 := Tryz.isAgg155
  z46 := Tryz.sizeOf155
  v46 := Tryz.zeroValue155
  t53 := Tryz.underlying182
  a53 := Tryz.isAgg182
  z53 := Tryz.sizeOf182
  v53 := Tryz.zeroValue182 }

/-- bits.LeadingZeros64: "LeadingZeros64 returns the number of leading zero bits in x; the result is 64 for x == 0.": IT RETURNS '64 - Lib.bitLen x'; the world is as it was. ITS CALLEE bits.Len64 IS MET BY ITS OWN CONTRACT OFF THE SHELF (lay that first): entered in place it sends the kernel out of memory. (LAID: no walk: one application.) -/
theorem Tryz.bits_LeadingZeros64 (x : Int) (w : World) (h0 : 0 ≤ x) (h1 : x ≤ 18446744073709551615) :
    Calls Tryz.prog 205 #[.int .u64 x] w fun e w' => e = .returned (.int .i64 (64 - (Lib.bitLen x.toNat : Int))) ∧ w' = w := Any.bits_LeadingZeros64 Tryz.lays134 x w h0 h1

def Tryz.lays103_ren : Go.Shelf.Ren := ⟨fun | 103 => 200 | 210 => 213 | 206 => 228 | n => n, fun | 9 => 9 | 4 => 4 | 24 => 254 | 3 => 3 | n => n, fun | n => n⟩

theorem Tryz.lays103 : Go.Proofs.Lays.n103 Tryz.prog Tryz.lays103_ren := {
  mixed := by kernel_rfl
  f103 := Tryz.func200.trans (congrArg some (by kernel_rfl))
  f206 := Tryz.func228.trans (congrArg some (by kernel_rfl))
  f210 := Tryz.func213.trans (congrArg some (by kernel_rfl))
  t3 := Tryz.underlying3
  a3 := Tryz.isAgg3
  z3 := Tryz.sizeOf3
  v3 := Tryz.zeroValue3
  t4 := Tryz.underlying4
  a4 := Tryz.isAgg4
  z4 := Tryz.sizeOf4
  v4 := Tryz.zeroValue4
  t9 := Tryz.underlying9
  a9 := Tryz.isAgg9
  z9 := Tryz.sizeOf9
  v9 := Tryz.zeroValue9
  t24 := Tryz.underlying254
  a24 := Tryz.isAgg254
  z24 := Tryz.sizeOf254
  v24 := Tryz.zeroValue254 }

open Go.RowKit in
/-- strings.CutPrefix: "CutPrefix returns s without the provided leading prefix string and reports whether it found the prefix. If s doesn't start with prefix, CutPrefix returns s, false. If prefix is the empty string, CutPrefix returns s, true.": IT RETURNS '(Lib.trimPrefix s p, Lib.hasPrefix s p)'; the world is as it was. (LAID: no walk: one application.) -/
theorem Tryz.strings_CutPrefix (s p : ByteArray) (w : World) :
    Calls Tryz.prog 200 #[.string s, .string p] w fun e w' => e = .returned (.tuple #[.string ⟨(Lib.trimPrefix s.data.toList p.data.toList).toArray⟩, .bool (Lib.hasPrefix s.data.toList p.data.toList)]) ∧ w' = w := Any.strings_CutPrefix Tryz.lays103 s p w

def Tryz.lays104_ren : Go.Shelf.Ren := ⟨fun | 104 => 201 | 211 => 214 | 207 => 229 | n => n, fun | 9 => 9 | 4 => 4 | 24 => 254 | 3 => 3 | n => n, fun | n => n⟩

theorem Tryz.lays104 : Go.Proofs.Lays.n104 Tryz.prog Tryz.lays104_ren := {
  mixed := by kernel_rfl
  f104 := Tryz.func201.trans (congrArg some (by kernel_rfl))
  f207 := Tryz.func229.trans (congrArg some (by kernel_rfl))
  f211 := Tryz.func214.trans (congrArg some (by kernel_rfl))
  t3 := Tryz.underlying3
  a3 := Tryz.isAgg3
  z3 := Tryz.sizeOf3
  v3 := Tryz.zeroValue3
  t4 := Tryz.underlying4
  a4 := Tryz.isAgg4
  z4 := Tryz.sizeOf4
  v4 := Tryz.zeroValue4
  t9 := Tryz.underlying9
  a9 := Tryz.isAgg9
  z9 := Tryz.sizeOf9
  v9 := Tryz.zeroValue9
  t24 := Tryz.underlying254
  a24 := Tryz.isAgg254
  z24 := Tryz.sizeOf254
  v24 := Tryz.zeroValue254 }

open Go.RowKit in
/-- strings.CutSuffix: "CutSuffix returns s without the provided ending suffix string and reports whether it found the suffix. If s doesn't end with suffix, CutSuffix returns s, false. If suffix is the empty string, CutSuffix returns s, true.": IT RETURNS '(Lib.trimSuffix s p, Lib.hasSuffix s p)'; the world is as it was. (LAID: no walk: one application.) -/
theorem Tryz.strings_CutSuffix (s p : ByteArray) (w : World) (hs : s.size ≤ 9223372036854775807) :
    Calls Tryz.prog 201 #[.string s, .string p] w fun e w' => e = .returned (.tuple #[.string ⟨(Lib.trimSuffix s.data.toList p.data.toList).toArray⟩, .bool (Lib.hasSuffix s.data.toList p.data.toList)]) ∧ w' = w := Any.strings_CutSuffix Tryz.lays104 s p w hs

def Tryz.lays122_ren : Go.Shelf.Ren := ⟨fun | 122 => 60 | 215 => 94 | n => n, fun | 3 => 3 | 4 => 4 | n => n, fun | n => n⟩

theorem Tryz.lays122 : Go.Proofs.Lays.n122 Tryz.prog Tryz.lays122_ren := {
  mixed := by kernel_rfl
  f122 := Tryz.func60.trans (congrArg some (by kernel_rfl))
  f215 := Tryz.func94.trans (congrArg some (by kernel_rfl))
  t3 := Tryz.underlying3
  a3 := Tryz.isAgg3
  z3 := Tryz.sizeOf3
  v3 := Tryz.zeroValue3
  t4 := Tryz.underlying4
  a4 := Tryz.isAgg4
  z4 := Tryz.sizeOf4
  v4 := Tryz.zeroValue4 }

open Go.RowKit in
/-- cmp.Compare at int: "Compare returns -1 if x is less than y, 0 if x equals y, +1 if x is greater than y.": IT RETURNS 'Lib.compareInt x y'; the world is as it was. (LAID: no walk: one application.) -/
theorem Tryz.cmp_Compare_int (x y : Int) (w : World) :
    Calls Tryz.prog 60 #[.int .i64 x, .int .i64 y] w fun e w' => e = .returned (.int .i64 (Lib.compareInt x y)) ∧ w' = w := Any.cmp_Compare_int Tryz.lays122 x y w

def Tryz.laysPu14_ren : Go.Shelf.Ren := ⟨fun | 14 => 198 | 16 => 211 | 17 => 212 | 19 => 222 | 20 => 223 | 21 => 224 | 22 => 225 | 23 => 226 | 24 => 227 | 25 => 233 | 27 => 37 | 26 => 234 | 28 => 83 | 29 => 110 | 30 => 135 | 31 => 136 | 32 => 137 | 33 => 138 | 35 => 122 | 34 => 172 | 36 => 173 | 37 => 174 | 38 => 175 | 39 => 192 | 40 => 193 | n => n, fun | 9 => 9 | 3 => 3 | 22 => 182 | 24 => 250 | 25 => 251 | 4 => 4 | 34 => 266 | 5 => 5 | 36 => 155 | 37 => 152 | 0 => 0 | 39 => 268 | 21 => 21 | 44 => 275 | 47 => 281 | 50 => 284 | 48 => 282 | 2 => 2 | 52 => 197 | 55 => 199 | 59 => 222 | 60 => 59 | 20 => 20 | 61 => 223 | 65 => 258 | 66 => 259 | 67 => 53 | n => n, fun | 0 => 6 | 1 => 7 | 2 => 0 | 3 => 3 | 4 => 4 | n => n⟩

theorem Tryz.laysPu14 : Go.Proofs.LaysPu.n14 Tryz.prog Tryz.laysPu14_ren := {
  mixed := by kernel_rfl
  f14 := Tryz.func198.trans (congrArg some (by kernel_rfl))
  f16 := Tryz.func211.trans (congrArg some (by kernel_rfl))
  f17 := Tryz.func212.trans (congrArg some (by kernel_rfl))
  f19 := Tryz.func222.trans (congrArg some (by kernel_rfl))
  f20 := Tryz.func223.trans (congrArg some (by kernel_rfl))
  f21 := Tryz.func224.trans (congrArg some (by kernel_rfl))
  f22 := Tryz.func225.trans (congrArg some (by kernel_rfl))
  f23 := Tryz.func226.trans (congrArg some (by kernel_rfl))
  f24 := Tryz.func227.trans (congrArg some (by kernel_rfl))
  f25 := Tryz.func233.trans (congrArg some (by kernel_rfl))
  f26 := Tryz.func234.trans (congrArg some (by kernel_rfl))
  f27 := Tryz.func37.trans (congrArg some (by kernel_rfl))
  f28 := Tryz.func83.trans (congrArg some (by kernel_rfl))
  f29 := Tryz.func110.trans (congrArg some (by kernel_rfl))
  f30 := Tryz.func135.trans (congrArg some (by kernel_rfl))
  f31 := Tryz.func136.trans (congrArg some (by kernel_rfl))
  f32 := Tryz.func137.trans (congrArg some (by kernel_rfl))
  f33 := Tryz.func138.trans (congrArg some (by kernel_rfl))
  f34 := Tryz.func172.trans (congrArg some (by kernel_rfl))
  f35 := Tryz.func122.trans (congrArg some (by kernel_rfl))
  f36 := Tryz.func173.trans (congrArg some (by kernel_rfl))
  f37 := Tryz.func174.trans (congrArg some (by kernel_rfl))
  f38 := Tryz.func175.trans (congrArg some (by kernel_rfl))
  f39 := Tryz.func192.trans (congrArg some (by kernel_rfl))
  f40 := Tryz.func193.trans (congrArg some (by kernel_rfl))
  t0 := Tryz.underlying0
  a0 := Tryz.isAgg0
  z0 := Tryz.sizeOf0
  v0 := Tryz.zeroValue0
  i0 := by kernel_rfl
  t2 := Tryz.underlying2
  a2 := Tryz.isAgg2
  z2 := Tryz.sizeOf2
  v2 := Tryz.zeroValue2
  i2 := by kernel_rfl
  t3 := Tryz.underlying3
  a3 := Tryz.isAgg3
  z3 := Tryz.sizeOf3
  v3 := Tryz.zeroValue3
  i3 := by kernel_rfl
  t4 := Tryz.underlying4
  a4 := Tryz.isAgg4
  z4 := Tryz.sizeOf4
  v4 := Tryz.zeroValue4
  i4 := by kernel_rfl
  t5 := Tryz.underlying5
  a5 := Tryz.isAgg5
  z5 := Tryz.sizeOf5
  v5 := Tryz.zeroValue5
  i5 := by kernel_rfl
  t9 := Tryz.underlying9
  a9 := Tryz.isAgg9
  z9 := Tryz.sizeOf9
  v9 := Tryz.zeroValue9
  i9 := by kernel_rfl
  t20 := Tryz.underlying20
  a20 := Tryz.isAgg20
  z20 := Tryz.sizeOf20
  v20 := Tryz.zeroValue20
  i20 := by kernel_rfl
  t21 := Tryz.underlying21
  a21 := Tryz.isAgg21
  z21 := Tryz.sizeOf21
  v21 := Tryz.zeroValue21
  i21 := by kernel_rfl
  t22 := Tryz.underlying182
  a22 := Tryz.isAgg182
  z22 := Tryz.sizeOf182
  v22 := Tryz.zeroValue182
  i22 := by kernel_rfl
  t24 := Tryz.underlying250
  a24 := Tryz.isAgg250
  z24 := Tryz.sizeOf250
  v24 := Tryz.zeroValue250
  i24 := by kernel_rfl
  t25 := Tryz.underlying251
  a25 := Tryz.isAgg251
  z25 := Tryz.sizeOf251
  v25 := Tryz.zeroValue251
  i25 := by kernel_rfl
  t34 := Tryz.underlying266
  a34 := Tryz.isAgg266
  z34 := Tryz.sizeOf266
  v34 := Tryz.zeroValue266
  i34 := by kernel_rfl
  c34 := by kernel_rfl
  t36 := Tryz.underlying155
  a36 := Tryz.isAgg155
  z36 := Tryz.sizeOf155
  v36 := Tryz.zeroValue155
  i36 := by kernel_rfl
  t37 := Tryz.underlying152
  a37 := Tryz.isAgg152
  z37 := Tryz.sizeOf152
  v37 := Tryz.zeroValue152
  i37 := by kernel_rfl
  t39 := Tryz.underlying268
  a39 := Tryz.isAgg268
  z39 := Tryz.sizeOf268
  v39 := Tryz.zeroValue268
  i39 := by kernel_rfl
  t44 := Tryz.underlying275
  a44 := Tryz.isAgg275
  z44 := Tryz.sizeOf275
  v44 := Tryz.zeroValue275
  i44 := by kernel_rfl
  t47 := Tryz.underlying281
  a47 := Tryz.isAgg281
  z47 := Tryz.sizeOf281
  v47 := Tryz.zeroValue281
  i47 := by kernel_rfl
  t48 := Tryz.underlying282
  a48 := Tryz.isAgg282
  z48 := Tryz.sizeOf282
  v48 := Tryz.zeroValue282
  i48 := by kernel_rfl
  t50 := Tryz.underlying284
  a50 := Tryz.isAgg284
  z50 := Tryz.sizeOf284
  v50 := Tryz.zeroValue284
  i50 := by kernel_rfl
  t52 := Tryz.underlying197
  a52 := Tryz.isAgg197
  z52 := Tryz.sizeOf197
  v52 := Tryz.zeroValue197
  i52 := by kernel_rfl
  t55 := Tryz.underlying199
  a55 := Tryz.isAgg199
  z55 := Tryz.sizeOf199
  v55 := Tryz.zeroValue199
  i55 := by kernel_rfl
  t59 := Tryz.underlying222
  a59 := Tryz.isAgg222
  z59 := Tryz.sizeOf222
  v59 := Tryz.zeroValue222
  i59 := by kernel_rfl
  t60 := Tryz.underlying59
  a60 := Tryz.isAgg59
  z60 := Tryz.sizeOf59
  v60 := Tryz.zeroValue59
  i60 := by kernel_rfl
  t61 := Tryz.underlying223
  a61 := Tryz.isAgg223
  z61 := Tryz.sizeOf223
  t65 := Tryz.underlying258
  a65 := Tryz.isAgg258
  z65 := Tryz.sizeOf258
  v65 := Tryz.zeroValue258
  i65 := by kernel_rfl
  t66 := Tryz.underlying259
  a66 := Tryz.isAgg259
  z66 := Tryz.sizeOf259
  v66 := Tryz.zeroValue259
  i66 := by kernel_rfl
  t67 := Tryz.underlying53
  a67 := Tryz.isAgg53
  z67 := Tryz.sizeOf53
  v67 := Tryz.zeroValue53
  i67 := by kernel_rfl
  g0 := by kernel_rfl
  m0 := by kernel_rfl
  g1 := by kernel_rfl
  m1 := by kernel_rfl
  g2 := by kernel_rfl
  m2 := by kernel_rfl
  g3 := by kernel_rfl
  m3 := by kernel_rfl
  g4 := by kernel_rfl
  m4 := by kernel_rfl }

open Go.RowKit in
/-- strconv.ParseUint(s, 10, 64), AT EVERY STRING THAT SPELLS A uint64 ('Lib.parseUintB 64 s.data.toList = .ok u'): u, AND NO ERROR. (LAID: no walk: one application.) -/
theorem Tryz.strconv_ParseUint_10_at64_ok (s : ByteArray) (hmax : s.size ≤ 9223372036854775806) (u : Nat) (h : Lib.parseUintB 64 s.data.toList = .ok u) (w : World) :
    Calls Tryz.prog 198 #[.string s, .int .i64 10, .int .i64 64] w fun e w' => e = .returned (.tuple #[.int .u64 u, .nilIface]) ∧ (w' = w ∨ w' = Lib.bytesWorld w 5 s) := Any.strconv_ParseUint_10_at64_ok Tryz.laysPu14 s hmax u h w

open Go.RowKit in
/-- strconv.ParseUint(s, 10, 64), AT EVERY NUMERAL THAT NO uint64 HOLDS: THE GREATEST uint64, AND AN ERROR THAT IS NOT nil: a *NumError in a new block N: {Func: "ParseUint", Num: s's bytes, Err: what the variable ErrRange holds}. Of what was there nothing has turned. (LAID: no walk: one application.) -/
theorem Tryz.strconv_ParseUint_10_at64_range (s : ByteArray) (hlim : s.size ≤ 281474976710656) (h : Lib.parseUintB 64 s.data.toList = .range) (ev : Value) (w : World) (hv : w.cell? ⟨7, 0, none⟩ = some ev) (hev : ev = .nilIface ∨ ∃ te pe, ev = .iface te pe) :
    Calls Tryz.prog 198 #[.string s, .int .i64 10, .int .i64 64] w fun e w' => ∃ N, e = .returned (.tuple #[.int .u64 18446744073709551615, .iface 268 (.pointer (some ⟨N, 0, none⟩))]) ∧ w.heap.size ≤ N ∧ w'.heap[N]? = some (.cells #[.string ⟨#[80, 97, 114, 115, 101, 85, 105, 110, 116]⟩, .string s, ev] 275 (0, 0)) ∧ Below w.heap.size w w' := Any.strconv_ParseUint_10_at64_range Tryz.laysPu14 s hlim h ev w hv hev

def Tryz.lays145_ren : Go.Shelf.Ren := ⟨fun | 145 => 182 | 220 => 197 | 219 => 210 | 217 => 218 | 225 => 219 | 224 => 220 | 267 => 221 | 266 => 231 | 314 => 232 | n => n, fun | 9 => 9 | 4 => 4 | 59 => 235 | 3 => 3 | 5 => 5 | 46 => 155 | 146 => 271 | 51 => 59 | n => n, fun | 1 => 5 | n => n⟩

theorem Tryz.lays145 : Go.Proofs.Lays.n145 Tryz.prog Tryz.lays145_ren := {
  mixed := by kernel_rfl
  f145 := Tryz.func182.trans (congrArg some (by kernel_rfl))
  f217 := Tryz.func218.trans (congrArg some (by kernel_rfl))
  f219 := Tryz.func210.trans (congrArg some (by kernel_rfl))
  f220 := Tryz.func197.trans (congrArg some (by kernel_rfl))
  f224 := Tryz.func220.trans (congrArg some (by kernel_rfl))
  f225 := Tryz.func219.trans (congrArg some (by kernel_rfl))
  f266 := Tryz.func231.trans (congrArg some (by kernel_rfl))
  f267 := Tryz.func221.trans (congrArg some (by kernel_rfl))
  f314 := Tryz.func232.trans (congrArg some (by kernel_rfl))
  t3 := Tryz.underlying3
  a3 := Tryz.isAgg3
  z3 := Tryz.sizeOf3
  v3 := Tryz.zeroValue3
  t4 := Tryz.underlying4
  a4 := Tryz.isAgg4
  z4 := Tryz.sizeOf4
  v4 := Tryz.zeroValue4
  t5 := Tryz.underlying5
  a5 := Tryz.isAgg5
  z5 := Tryz.sizeOf5
  v5 := Tryz.zeroValue5
  t9 := Tryz.underlying9
  a9 := Tryz.isAgg9
  z9 := Tryz.sizeOf9
  v9 := Tryz.zeroValue9
  t46 := Tryz.underlying155
  a46 := Tryz.isAgg155
  z46 := Tryz.sizeOf155
  v46 := Tryz.zeroValue155
  t51 := Tryz.underlying59
  a51 := Tryz.isAgg59
  z51 := Tryz.sizeOf59
  v51 := Tryz.zeroValue59
  t59 := Tryz.underlying235
  a59 := Tryz.isAgg235
  z59 := Tryz.sizeOf235
  v59 := Tryz.zeroValue235
  t146 := Tryz.underlying271
  a146 := Tryz.isAgg271
  z146 := Tryz.sizeOf271
  v146 := Tryz.zeroValue271
  g1 := by kernel_rfl }

open Go.RowKit Go.Lib in
/-- strings.Cut: "Cut slices s around the first instance of sep, returning the text before and after sep. The found result reports whether sep appears in s. If sep does not appear in s, cut returns s, "", false.": IT RETURNS 'Lib.cut s sep'; the world is as it was but for the count of draws. (LAID: no walk: one application.) -/
theorem Tryz.strings_Cut (s sep : ByteArray) (m : Int) (w : World) (hs : s.size < 4294967281) (hm : w.cell? ⟨5, 0, none⟩ = some (.int .i64 m)) :
    Calls Tryz.prog 182 #[.string s, .string sep] w fun e w' => e = .returned (.tuple #[.string ⟨(Lib.cut s.data.toList sep.data.toList).1.toArray⟩, .string ⟨(Lib.cut s.data.toList sep.data.toList).2.1.toArray⟩, .bool (Lib.cut s.data.toList sep.data.toList).2.2]) ∧ ∃ n, w' = w.drewN n := Any.strings_Cut Tryz.lays145 s sep m w hs hm

def Tryz.lays146_ren : Go.Shelf.Ren := ⟨fun | 146 => 181 | 221 => 196 | 268 => 207 | 138 => 208 | 143 => 209 | 195 => 215 | 197 => 216 | 218 => 217 | 219 => 210 | 260 => 230 | 217 => 218 | 225 => 219 | 224 => 220 | 267 => 221 | 266 => 231 | 314 => 232 | n => n, fun | 9 => 9 | 31 => 102 | 3 => 3 | 4 => 4 | 0 => 0 | 105 => 263 | 21 => 21 | 5 => 5 | 46 => 155 | 119 => 277 | 139 => 280 | 138 => 279 | 146 => 271 | 51 => 59 | n => n, fun | 1 => 5 | 3 => 8 | 4 => 9 | n => n⟩

theorem Tryz.lays146 : Go.Proofs.Lays.n146 Tryz.prog Tryz.lays146_ren := {
  mixed := by kernel_rfl
  f138 := Tryz.func208.trans (congrArg some (by kernel_rfl))
  f143 := Tryz.func209.trans (congrArg some (by kernel_rfl))
  f146 := Tryz.func181.trans (congrArg some (by kernel_rfl))
  f195 := Tryz.func215.trans (congrArg some (by kernel_rfl))
  f197 := Tryz.func216.trans (congrArg some (by kernel_rfl))
  f217 := Tryz.func218.trans (congrArg some (by kernel_rfl))
  f218 := Tryz.func217.trans (congrArg some (by kernel_rfl))
  f219 := Tryz.func210.trans (congrArg some (by kernel_rfl))
  f221 := Tryz.func196.trans (congrArg some (by kernel_rfl))
  f224 := Tryz.func220.trans (congrArg some (by kernel_rfl))
  f225 := Tryz.func219.trans (congrArg some (by kernel_rfl))
  f260 := Tryz.func230.trans (congrArg some (by kernel_rfl))
  f266 := Tryz.func231.trans (congrArg some (by kernel_rfl))
  f267 := Tryz.func221.trans (congrArg some (by kernel_rfl))
  f268 := Tryz.func207.trans (congrArg some (by kernel_rfl))
  f314 := Tryz.func232.trans (congrArg some (by kernel_rfl))
  t0 := Tryz.underlying0
  a0 := Tryz.isAgg0
  z0 := Tryz.sizeOf0
  v0 := Tryz.zeroValue0
  t3 := Tryz.underlying3
  a3 := Tryz.isAgg3
  z3 := Tryz.sizeOf3
  v3 := Tryz.zeroValue3
  t4 := Tryz.underlying4
  a4 := Tryz.isAgg4
  z4 := Tryz.sizeOf4
  v4 := Tryz.zeroValue4
  t5 := Tryz.underlying5
  a5 := Tryz.isAgg5
  z5 := Tryz.sizeOf5
  v5 := Tryz.zeroValue5
  t9 := Tryz.underlying9
  a9 := Tryz.isAgg9
  z9 := Tryz.sizeOf9
  v9 := Tryz.zeroValue9
  t21 := Tryz.underlying21
  a21 := Tryz.isAgg21
  z21 := Tryz.sizeOf21
  v21 := Tryz.zeroValue21
  t31 := Tryz.underlying102
  a31 := Tryz.isAgg102
  z31 := Tryz.sizeOf102
  v31 := Tryz.zeroValue102
  t46 := Tryz.underlying155
  a46 := Tryz.isAgg155
  z46 := Tryz.sizeOf155
  v46 := Tryz.zeroValue155
  t51 := Tryz.underlying59
  a51 := Tryz.isAgg59
  z51 := Tryz.sizeOf59
  v51 := Tryz.zeroValue59
  t105 := Tryz.underlying263
  a105 := Tryz.isAgg263
  z105 := Tryz.sizeOf263
  v105 := Tryz.zeroValue263
  t119 := Tryz.underlying277
  a119 := Tryz.isAgg277
  z119 := Tryz.sizeOf277
  t138 := Tryz.underlying279
  a138 := Tryz.isAgg279
  z138 := Tryz.sizeOf279
  v138 := Tryz.zeroValue279
  t139 := Tryz.underlying280
  a139 := Tryz.isAgg280
  z139 := Tryz.sizeOf280
  v139 := Tryz.zeroValue280
  t146 := Tryz.underlying271
  a146 := Tryz.isAgg271
  z146 := Tryz.sizeOf271
  v146 := Tryz.zeroValue271
  g1 := by kernel_rfl
  g3 := by kernel_rfl
  g4 := by kernel_rfl }

open Go.RowKit Go.Lib in
/-- strings.Split. (LAID: no walk: one application.) -/
theorem Tryz.strings_Split (s sep : ByteArray) (m : Int) (w : World) (hs : s.size < 4294967281) (hm : w.cell? ⟨5, 0, none⟩ = some (.int .i64 m)) (h1 : 1 ≤ sep.size) :
    Calls Tryz.prog 181 #[.string s, .string sep] w fun e w' =>
      e = .returned (.slice (some ⟨w.heap.size, 0, none⟩) (Lib.countB s sep + 1) (Lib.countB s sep + 1)) ∧ w' = w.alloc (.cells ((Lib.splitB sep 0 (Lib.countB s sep) s).map Value.string).toArray 9) := Any.strings_Split Tryz.lays146 (by kernel_rfl) s sep m w hs hm h1

def Tryz.lays264_ren : Go.Shelf.Ren := ⟨fun | 264 => 187 | n => n, fun | 53 => 182 | 46 => 155 | n => n, fun | n => n⟩

theorem Tryz.lays264 : Go.Proofs.Lays.n264 Tryz.prog Tryz.lays264_ren := {
  mixed := by kernel_rfl
  f264 := Tryz.func187.trans (congrArg some (by kernel_rfl))
  t46 := Tryz.underlying155
  a46 := Tryz.isAgg155
  z46 := Tryz.sizeOf155
  v46 := Tryz.zeroValue155
  t53 := Tryz.underlying182
  a53 := Tryz.isAgg182
  z53 := Tryz.sizeOf182
  v53 := Tryz.zeroValue182 }

open Go.RowKit Go.Lib in
theorem Tryz.bits_Mul64 (x y : Nat) (hx : x < 18446744073709551616) (hy : y < 18446744073709551616) (w : World) :
    Calls Tryz.prog 187 #[.int .u64 x, .int .u64 y] w fun e w' => e = .returned (.tuple #[.int .u64 ((x * y / 18446744073709551616 : Nat) : Int), .int .u64 ((x * y % 18446744073709551616 : Nat) : Int)]) ∧ w' = w := Any.bits_Mul64 Tryz.lays264 x y hx hy w

def Tryz.lays110_ren : Go.Shelf.Ren := ⟨fun | 110 => 184 | 109 => 199 | n => n, fun | 31 => 102 | 9 => 9 | 4 => 4 | 3 => 3 | 0 => 0 | n => n, fun | n => n⟩

theorem Tryz.lays110 : Go.Proofs.Lays.n110 Tryz.prog Tryz.lays110_ren := {
  mixed := by kernel_rfl
  f109 := Tryz.func199.trans (congrArg some (by kernel_rfl))
  f110 := Tryz.func184.trans (congrArg some (by kernel_rfl))
  t0 := Tryz.underlying0
  a0 := Tryz.isAgg0
  z0 := Tryz.sizeOf0
  v0 := Tryz.zeroValue0
  t3 := Tryz.underlying3
  a3 := Tryz.isAgg3
  z3 := Tryz.sizeOf3
  v3 := Tryz.zeroValue3
  t4 := Tryz.underlying4
  a4 := Tryz.isAgg4
  z4 := Tryz.sizeOf4
  v4 := Tryz.zeroValue4
  t9 := Tryz.underlying9
  a9 := Tryz.isAgg9
  z9 := Tryz.sizeOf9
  v9 := Tryz.zeroValue9
  t31 := Tryz.underlying102
  a31 := Tryz.isAgg102
  z31 := Tryz.sizeOf102
  v31 := Tryz.zeroValue102 }

open Go.Lib in
/-- slices.Contains at []string: "Contains reports whether v is present in s.": IT RETURNS 'Lib.containsS (the elements) v', which is true just where v is among them ('Lib.containsS_iff'); the world is as it was. ITS CALLEE slices.Index IS MET BY ITS OWN CONTRACT OFF THE SHELF (lay that first): no loop is walked here. (LAID: no walk: one application.) -/
theorem Tryz.slices_Contains_string (b off n c : Nat) (zs : List ByteArray) (x : ByteArray) (w : World) (hz : n ≤ zs.length) (hbig : n ≤ 9223372036854775807) (hc : ∀ j, j < zs.length → w.cell? ⟨b, off + j, none⟩ = some (.string (zs.getD j ByteArray.empty))) :
    Calls Tryz.prog 184 #[.slice (some ⟨b, off, none⟩) n c, .string x] w fun e w' => e = .returned (.bool (Lib.containsS (zs.take n) x)) ∧ w' = w := Any.slices_Contains_string Tryz.lays110 b off n c zs x w hz hbig hc
end Go.Proofs
