/- The contracts of the library at this dump, laid by the kit's tool in plain words. -/
import Derived.Shelf.Small.Bits
import Derived.Shelf.Small.Wraps
import Derived.Shelf.Strconv.Itoa0
import Derived.Shelf.Strconv.Itoa1
import Derived.Shelf.LaysM
import Derived.Shelf.Strconv.Itoa2
import Derived.Shelf.Strconv.Itoa3
import Derived.Shelf.Pu.ParseUintPublic10
import Derived.Shelf.Strings.Search1
import Derived.Shelf.Strings.Search2
import Derived.Shelf.Strings.Search3
import Derived.Shelf.Strings.Cut
import Derived.Shelf.Strings.Count
import Derived.Shelf.Strings.Shaped
import Derived.Shelf.Strings.Prefix
import Derived.Shelf.Strings.Split
import Derived.Shelf.Strings.SplitShaped
import Derived.Shelf.Bits.Mul64
import Derived.Shelf.Unicode.DecodeSlow
import Derived.Shelf.Slices.Turned
import Derived.Shelf.SortM.Plain
import Derived.Shelf.SortM.SortNone
import Derived.Test.YtgepbkldgnjpfaaGreatDoorProg
namespace Go.Proofs
open Go.Shelf
def Tryz.lays125_ren : Go.Shelf.Ren := ⟨fun | 125 => 92 | 128 => 124 | 129 => 125 | n => n, fun | 46 => 156 | 3 => 3 | 51 => 45 | 53 => 172 | 4 => 4 | 5 => 5 | 9 => 9 | n => n, fun | n => n⟩

theorem Tryz.lays125 : Go.Proofs.Lays.n125 Tryz.prog Tryz.lays125_ren := {
  mixed := by kernel_rfl
  f125 := Tryz.func92.trans (congrArg some (by kernel_rfl))
  f128 := Tryz.func124.trans (congrArg some (by kernel_rfl))
  f129 := Tryz.func125.trans (congrArg some (by kernel_rfl))
  t3 := Tryz.underlying3
  a3 := Tryz.isAgg3
  z3 := Tryz.sizeOf3
  v3 := Tryz.zeroValue3
  t4 := Tryz.underlying4
  a4 := Tryz.isAgg4
  z4 := Tryz.sizeOf4
  v4 := Tryz.zeroValue4
  t5 := Tryz.underlying5
  a5 := Tryz.isAgg5
  z5 := Tryz.sizeOf5
  v5 := Tryz.zeroValue5
  t9 := Tryz.underlying9
  a9 := Tryz.isAgg9
  z9 := Tryz.sizeOf9
  v9 := Tryz.zeroValue9
  t46 := Tryz.underlying156
  a46 := Tryz.isAgg156
  z46 := Tryz.sizeOf156
  v46 := Tryz.zeroValue156
  t51 := Tryz.underlying45
  a51 := Tryz.isAgg45
  z51 := Tryz.sizeOf45
  v51 := Tryz.zeroValue45
  t53 := Tryz.underlying172
  a53 := Tryz.isAgg172
  z53 := Tryz.sizeOf172
  v53 := Tryz.zeroValue172 }

/-- bits.Len: "Len returns the minimum number of bits required to represent x; the result is 0 for x == 0.": IT RETURNS 'Lib.bitLen x'; the world is as it was. (A uint has 64 bits in the model.) ITS CALLEE bits.Len64 IS MET BY ITS OWN CONTRACT OFF THE SHELF (lay that first). (LAID: no walk: one application.) -/
theorem Tryz.bits_Len (x : Int) (w : World) (h0 : 0 ≤ x) (h1 : x ≤ 18446744073709551615) :
    Calls Tryz.prog 92 #[.int .u64 x] w fun e w' => e = .returned (.int .i64 (Lib.bitLen x.toNat)) ∧ w' = w := Any.bits_Len Tryz.lays125 x w h0 h1

def Tryz.lays134_ren : Go.Shelf.Ren := ⟨fun | 134 => 203 | 129 => 125 | n => n, fun | 53 => 172 | 3 => 3 | 4 => 4 | 46 => 156 | 5 => 5 | 9 => 9 | n => n, fun | n => n⟩

theorem Tryz.lays134 : Go.Proofs.Lays.n134 Tryz.prog Tryz.lays134_ren := {
  mixed := by kernel_rfl
  f129 := Tryz.func125.trans (congrArg some (by kernel_rfl))
  f134 := Tryz.func203.trans (congrArg some (by kernel_rfl))
  t3 := Tryz.underlying3
  a3 := Tryz.isAgg3
  z3 := Tryz.sizeOf3
  v3 := Tryz.zeroValue3
  t4 := Tryz.underlying4
  a4 := Tryz.isAgg4
  z4 := Tryz.sizeOf4
  v4 := Tryz.zeroValue4
  t5 := Tryz.underlying5
  a5 := Tryz.isAgg5
  z5 := Tryz.sizeOf5
  v5 := Tryz.zeroValue5
  t9 := Tryz.underlying9
  a9 := Tryz.isAgg9
  z9 := Tryz.sizeOf9
  v9 := Tryz.zeroValue9
  t46 := Tryz.underlying156
  a46 := Tryz.isAgg156
  z46 := Tryz.sizeOf156
  v46 := Tryz.zeroValue156
  t53 := Tryz.underlying172
  a53 := Tryz.isAgg172
  z53 := Tryz.sizeOf172
  v53 := Tryz.zeroValue172 }

/-- bits.LeadingZeros64: "LeadingZeros64 returns the number of leading zero bits in x; the result is 64 for x == 0.": IT RETURNS '64 - Lib.bitLen x'; the world is as it was. ITS CALLEE bits.Len64 IS MET BY ITS OWN CONTRACT OFF THE SHELF (lay that first): entered in place it sends the kernel out of memory. (LAID: no walk: one application.) -/
theorem Tryz.bits_LeadingZeros64 (x : Int) (w : World) (h0 : 0 ≤ x) (h1 : x ≤ 18446744073709551615) :
    Calls Tryz.prog 203 #[.int .u64 x] w fun e w' => e = .returned (.int .i64 (64 - (Lib.bitLen x.toNat : Int))) ∧ w' = w := Any.bits_LeadingZeros64 Tryz.lays134 x w h0 h1

def Tryz.lays103_ren : Go.Shelf.Ren := ⟨fun | 103 => 198 | 210 => 211 | 206 => 226 | n => n, fun | 9 => 9 | 4 => 4 | 24 => 255 | 3 => 3 | n => n, fun | n => n⟩

theorem Tryz.lays103 : Go.Proofs.Lays.n103 Tryz.prog Tryz.lays103_ren := {
  mixed := by kernel_rfl
  f103 := Tryz.func198.trans (congrArg some (by kernel_rfl))
  f206 := Tryz.func226.trans (congrArg some (by kernel_rfl))
  f210 := Tryz.func211.trans (congrArg some (by kernel_rfl))
  t3 := Tryz.underlying3
  a3 := Tryz.isAgg3
  z3 := Tryz.sizeOf3
  v3 := Tryz.zeroValue3
  t4 := Tryz.underlying4
  a4 := Tryz.isAgg4
  z4 := Tryz.sizeOf4
  v4 := Tryz.zeroValue4
  t9 := Tryz.underlying9
  a9 := Tryz.isAgg9
  z9 := Tryz.sizeOf9
  v9 := Tryz.zeroValue9
  t24 := Tryz.underlying255
  a24 := Tryz.isAgg255
  z24 := Tryz.sizeOf255
  v24 := Tryz.zeroValue255 }

open Go.RowKit in
/-- strings.CutPrefix: "CutPrefix returns s without the provided leading prefix string and reports whether it found the prefix. If s doesn't start with prefix, CutPrefix returns s, false. If prefix is the empty string, CutPrefix returns s, true.": IT RETURNS '(Lib.trimPrefix s p, Lib.hasPrefix s p)'; the world is as it was. (LAID: no walk: one application.) -/
theorem Tryz.strings_CutPrefix (s p : ByteArray) (w : World) :
    Calls Tryz.prog 198 #[.string s, .string p] w fun e w' => e = .returned (.tuple #[.string ⟨(Lib.trimPrefix s.data.toList p.data.toList).toArray⟩, .bool (Lib.hasPrefix s.data.toList p.data.toList)]) ∧ w' = w := Any.strings_CutPrefix Tryz.lays103 s p w

def Tryz.lays104_ren : Go.Shelf.Ren := ⟨fun | 104 => 199 | 211 => 212 | 207 => 227 | n => n, fun | 9 => 9 | 4 => 4 | 24 => 255 | 3 => 3 | n => n, fun | n => n⟩

theorem Tryz.lays104 : Go.Proofs.Lays.n104 Tryz.prog Tryz.lays104_ren := {
  mixed := by kernel_rfl
  f104 := Tryz.func199.trans (congrArg some (by kernel_rfl))
  f207 := Tryz.func227.trans (congrArg some (by kernel_rfl))
  f211 := Tryz.func212.trans (congrArg some (by kernel_rfl))
  t3 := Tryz.underlying3
  a3 := Tryz.isAgg3
  z3 := Tryz.sizeOf3
  v3 := Tryz.zeroValue3
  t4 := Tryz.underlying4
  a4 := Tryz.isAgg4
  z4 := Tryz.sizeOf4
  v4 := Tryz.zeroValue4
  t9 := Tryz.underlying9
  a9 := Tryz.isAgg9
  z9 := Tryz.sizeOf9
  v9 := Tryz.zeroValue9
  t24 := Tryz.underlying255
  a24 := Tryz.isAgg255
  z24 := Tryz.sizeOf255
  v24 := Tryz.zeroValue255 }

open Go.RowKit in
/-- strings.CutSuffix: "CutSuffix returns s without the provided ending suffix string and reports whether it found the suffix. If s doesn't end with suffix, CutSuffix returns s, false. If suffix is the empty string, CutSuffix returns s, true.": IT RETURNS '(Lib.trimSuffix s p, Lib.hasSuffix s p)'; the world is as it was. (LAID: no walk: one application.) -/
theorem Tryz.strings_CutSuffix (s p : ByteArray) (w : World) (hs : s.size ≤ 9223372036854775807) :
    Calls Tryz.prog 199 #[.string s, .string p] w fun e w' => e = .returned (.tuple #[.string ⟨(Lib.trimSuffix s.data.toList p.data.toList).toArray⟩, .bool (Lib.hasSuffix s.data.toList p.data.toList)]) ∧ w' = w := Any.strings_CutSuffix Tryz.lays104 s p w hs

def Tryz.lays122_ren : Go.Shelf.Ren := ⟨fun | 122 => 66 | 215 => 95 | n => n, fun | 3 => 3 | 4 => 4 | n => n, fun | n => n⟩

theorem Tryz.lays122 : Go.Proofs.Lays.n122 Tryz.prog Tryz.lays122_ren := {
  mixed := by kernel_rfl
  f122 := Tryz.func66.trans (congrArg some (by kernel_rfl))
  f215 := Tryz.func95.trans (congrArg some (by kernel_rfl))
  t3 := Tryz.underlying3
  a3 := Tryz.isAgg3
  z3 := Tryz.sizeOf3
  v3 := Tryz.zeroValue3
  t4 := Tryz.underlying4
  a4 := Tryz.isAgg4
  z4 := Tryz.sizeOf4
  v4 := Tryz.zeroValue4 }

open Go.RowKit in
/-- cmp.Compare at int: "Compare returns -1 if x is less than y, 0 if x equals y, +1 if x is greater than y.": IT RETURNS 'Lib.compareInt x y'; the world is as it was. (LAID: no walk: one application.) -/
theorem Tryz.cmp_Compare_int (x y : Int) (w : World) :
    Calls Tryz.prog 66 #[.int .i64 x, .int .i64 y] w fun e w' => e = .returned (.int .i64 (Lib.compareInt x y)) ∧ w' = w := Any.cmp_Compare_int Tryz.lays122 x y w

def Tryz.lays145_ren : Go.Shelf.Ren := ⟨fun | 145 => 183 | 220 => 195 | 219 => 208 | 217 => 216 | 225 => 217 | 224 => 218 | 267 => 219 | 266 => 229 | 314 => 230 | n => n, fun | 9 => 9 | 4 => 4 | 59 => 235 | 3 => 3 | 5 => 5 | 46 => 156 | 146 => 270 | 51 => 45 | n => n, fun | 1 => 5 | n => n⟩

theorem Tryz.lays145 : Go.Proofs.Lays.n145 Tryz.prog Tryz.lays145_ren := {
  mixed := by kernel_rfl
  f145 := Tryz.func183.trans (congrArg some (by kernel_rfl))
  f217 := Tryz.func216.trans (congrArg some (by kernel_rfl))
  f219 := Tryz.func208.trans (congrArg some (by kernel_rfl))
  f220 := Tryz.func195.trans (congrArg some (by kernel_rfl))
  f224 := Tryz.func218.trans (congrArg some (by kernel_rfl))
  f225 := Tryz.func217.trans (congrArg some (by kernel_rfl))
  f266 := Tryz.func229.trans (congrArg some (by kernel_rfl))
  f267 := Tryz.func219.trans (congrArg some (by kernel_rfl))
  f314 := Tryz.func230.trans (congrArg some (by kernel_rfl))
  t3 := Tryz.underlying3
  a3 := Tryz.isAgg3
  z3 := Tryz.sizeOf3
  v3 := Tryz.zeroValue3
  t4 := Tryz.underlying4
  a4 := Tryz.isAgg4
  z4 := Tryz.sizeOf4
  v4 := Tryz.zeroValue4
  t5 := Tryz.underlying5
  a5 := Tryz.isAgg5
  z5 := Tryz.sizeOf5
  v5 := Tryz.zeroValue5
  t9 := Tryz.underlying9
  a9 := Tryz.isAgg9
  z9 := Tryz.sizeOf9
  v9 := Tryz.zeroValue9
  t46 := Tryz.underlying156
  a46 := Tryz.isAgg156
  z46 := Tryz.sizeOf156
  v46 := Tryz.zeroValue156
  t51 := Tryz.underlying45
  a51 := Tryz.isAgg45
  z51 := Tryz.sizeOf45
  v51 := Tryz.zeroValue45
  t59 := Tryz.underlying235
  a59 := Tryz.isAgg235
  z59 := Tryz.sizeOf235
  v59 := Tryz.zeroValue235
  t146 := Tryz.underlying270
  a146 := Tryz.isAgg270
  z146 := Tryz.sizeOf270
  v146 := Tryz.zeroValue270
  g1 := by kernel_rfl }

open Go.RowKit Go.Lib in
/-- strings.Cut: "Cut slices s around the first instance of sep, returning the text before and after sep. The found result reports whether sep appears in s. If sep does not appear in s, cut returns s, "", false.": IT RETURNS 'Lib.cut s sep'; the world is as it was but for the count of draws. (LAID: no walk: one application.) -/
theorem Tryz.strings_Cut (s sep : ByteArray) (m : Int) (w : World) (hs : s.size < 4294967281) (hm : w.cell? ⟨5, 0, none⟩ = some (.int .i64 m)) :
    Calls Tryz.prog 183 #[.string s, .string sep] w fun e w' => e = .returned (.tuple #[.string ⟨(Lib.cut s.data.toList sep.data.toList).1.toArray⟩, .string ⟨(Lib.cut s.data.toList sep.data.toList).2.1.toArray⟩, .bool (Lib.cut s.data.toList sep.data.toList).2.2]) ∧ ∃ n, w' = w.drewN n := Any.strings_Cut Tryz.lays145 s sep m w hs hm

def Tryz.lays146_ren : Go.Shelf.Ren := ⟨fun | 146 => 182 | 221 => 194 | 268 => 205 | 138 => 206 | 143 => 207 | 195 => 213 | 197 => 214 | 218 => 215 | 219 => 208 | 260 => 228 | 217 => 216 | 225 => 217 | 224 => 218 | 267 => 219 | 266 => 229 | 314 => 230 | n => n, fun | 9 => 9 | 31 => 79 | 3 => 3 | 4 => 4 | 0 => 0 | 105 => 262 | 21 => 21 | 5 => 5 | 46 => 156 | 119 => 276 | 139 => 279 | 138 => 278 | 146 => 270 | 51 => 45 | n => n, fun | 1 => 5 | 3 => 8 | 4 => 9 | n => n⟩

theorem Tryz.lays146 : Go.Proofs.Lays.n146 Tryz.prog Tryz.lays146_ren := {
  mixed := by kernel_rfl
  f138 := Tryz.func206.trans (congrArg some (by kernel_rfl))
  f143 := Tryz.func207.trans (congrArg some (by kernel_rfl))
  f146 := Tryz.func182.trans (congrArg some (by kernel_rfl))
  f195 := Tryz.func213.trans (congrArg some (by kernel_rfl))
  f197 := Tryz.func214.trans (congrArg some (by kernel_rfl))
  f217 := Tryz.func216.trans (congrArg some (by kernel_rfl))
  f218 := Tryz.func215.trans (congrArg some (by kernel_rfl))
  f219 := Tryz.func208.trans (congrArg some (by kernel_rfl))
  f221 := Tryz.func194.trans (congrArg some (by kernel_rfl))
  f224 := Tryz.func218.trans (congrArg some (by kernel_rfl))
  f225 := Tryz.func217.trans (congrArg some (by kernel_rfl))
  f260 := Tryz.func228.trans (congrArg some (by kernel_rfl))
  f266 := Tryz.func229.trans (congrArg some (by kernel_rfl))
  f267 := Tryz.func219.trans (congrArg some (by kernel_rfl))
  f268 := Tryz.func205.trans (congrArg some (by kernel_rfl))
  f314 := Tryz.func230.trans (congrArg some (by kernel_rfl))
  t0 := Tryz.underlying0
  a0 := Tryz.isAgg0
  z0 := Tryz.sizeOf0
  v0 := Tryz.zeroValue0
  t3 := Tryz.underlying3
  a3 := Tryz.isAgg3
  z3 := Tryz.sizeOf3
  v3 := Tryz.zeroValue3
  t4 := Tryz.underlying4
  a4 := Tryz.isAgg4
  z4 := Tryz.sizeOf4
  v4 := Tryz.zeroValue4
  t5 := Tryz.underlying5
  a5 := Tryz.isAgg5
  z5 := Tryz.sizeOf5
  v5 := Tryz.zeroValue5
  t9 := Tryz.underlying9
  a9 := Tryz.isAgg9
  z9 := Tryz.sizeOf9
  v9 := Tryz.zeroValue9
  t21 := Tryz.underlying21
  a21 := Tryz.isAgg21
  z21 := Tryz.sizeOf21
  v21 := Tryz.zeroValue21
  t31 := Tryz.underlying79
  a31 := Tryz.isAgg79
  z31 := Tryz.sizeOf79
  v31 := Tryz.zeroValue79
  t46 := Tryz.underlying156
  a46 := Tryz.isAgg156
  z46 := Tryz.sizeOf156
  v46 := Tryz.zeroValue156
  t51 := Tryz.underlying45
  a51 := Tryz.isAgg45
  z51 := Tryz.sizeOf45
  v51 := Tryz.zeroValue45
  t105 := Tryz.underlying262
  a105 := Tryz.isAgg262
  z105 := Tryz.sizeOf262
  v105 := Tryz.zeroValue262
  t119 := Tryz.underlying276
  a119 := Tryz.isAgg276
  z119 := Tryz.sizeOf276
  t138 := Tryz.underlying278
  a138 := Tryz.isAgg278
  z138 := Tryz.sizeOf278
  v138 := Tryz.zeroValue278
  t139 := Tryz.underlying279
  a139 := Tryz.isAgg279
  z139 := Tryz.sizeOf279
  v139 := Tryz.zeroValue279
  t146 := Tryz.underlying270
  a146 := Tryz.isAgg270
  z146 := Tryz.sizeOf270
  v146 := Tryz.zeroValue270
  g1 := by kernel_rfl
  g3 := by kernel_rfl
  g4 := by kernel_rfl }

open Go.RowKit Go.Lib in
/-- strings.Split. (LAID: no walk: one application.) -/
theorem Tryz.strings_Split (s sep : ByteArray) (m : Int) (w : World) (hs : s.size < 4294967281) (hm : w.cell? ⟨5, 0, none⟩ = some (.int .i64 m)) (h1 : 1 ≤ sep.size) :
    Calls Tryz.prog 182 #[.string s, .string sep] w fun e w' =>
      e = .returned (.slice (some ⟨w.heap.size, 0, none⟩) (Lib.countB s sep + 1) (Lib.countB s sep + 1)) ∧ w' = w.alloc (.cells ((Lib.splitB sep 0 (Lib.countB s sep) s).map Value.string).toArray 9) := Any.strings_Split Tryz.lays146 (by kernel_rfl) s sep m w hs hm h1

def Tryz.lays264_ren : Go.Shelf.Ren := ⟨fun | 264 => 188 | n => n, fun | 53 => 172 | 46 => 156 | n => n, fun | n => n⟩

theorem Tryz.lays264 : Go.Proofs.Lays.n264 Tryz.prog Tryz.lays264_ren := {
  mixed := by kernel_rfl
  f264 := Tryz.func188.trans (congrArg some (by kernel_rfl))
  t46 := Tryz.underlying156
  a46 := Tryz.isAgg156
  z46 := Tryz.sizeOf156
  v46 := Tryz.zeroValue156
  t53 := Tryz.underlying172
  a53 := Tryz.isAgg172
  z53 := Tryz.sizeOf172
  v53 := Tryz.zeroValue172 }

open Go.RowKit Go.Lib in
theorem Tryz.bits_Mul64 (x y : Nat) (hx : x < 18446744073709551616) (hy : y < 18446744073709551616) (w : World) :
    Calls Tryz.prog 188 #[.int .u64 x, .int .u64 y] w fun e w' => e = .returned (.tuple #[.int .u64 ((x * y / 18446744073709551616 : Nat) : Int), .int .u64 ((x * y % 18446744073709551616 : Nat) : Int)]) ∧ w' = w := Any.bits_Mul64 Tryz.lays264 x y hx hy w
end Go.Proofs
