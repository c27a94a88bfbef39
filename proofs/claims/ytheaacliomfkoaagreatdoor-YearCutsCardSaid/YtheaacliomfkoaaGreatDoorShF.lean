/- The contracts of the library at this dump, laid by the kit's tool in plain words. -/
import Derived.Shelf.Small.Bits
import Derived.Shelf.Small.Wraps
import Derived.Shelf.Strconv.Itoa0
import Derived.Shelf.Strconv.Itoa1
import Derived.Shelf.LaysM
import Derived.Shelf.Strconv.Itoa2
import Derived.Shelf.Strconv.Itoa3
import Derived.Shelf.Pu.ParseUintPublic10
import Derived.Shelf.Strings.Search1
import Derived.Shelf.Strings.Search2
import Derived.Shelf.Strings.Search3
import Derived.Shelf.Strings.Cut
import Derived.Shelf.Strings.Count
import Derived.Shelf.Strings.Shaped
import Derived.Shelf.Strings.Prefix
import Derived.Shelf.Strings.Split
import Derived.Shelf.Strings.SplitShaped
import Derived.Shelf.Bits.Mul64
import Derived.Shelf.Unicode.DecodeSlow
import Derived.Shelf.Slices.Turned
import Derived.Shelf.SortM.Plain
import Derived.Shelf.SortM.SortNone
import Derived.Test.YtheaacliomfkoaaGreatDoorProg
namespace Go.Proofs
open Go.Shelf
def Tryz.laysM171_ren : Go.Shelf.Ren := ⟨fun | 171 => 37 | 243 => 83 | 246 => 110 | 283 => 135 | 284 => 136 | 285 => 137 | 286 => 138 | 129 => 122 | 317 => 172 | 318 => 173 | 319 => 174 | 320 => 175 | 337 => 192 | 338 => 193 | n => n, fun | 3 => 3 | 9 => 9 | 2 => 2 | 4 => 4 | 171 => 197 | 0 => 0 | 53 => 182 | 37 => 152 | 5 => 5 | 173 => 199 | 212 => 222 | 51 => 59 | 20 => 20 | 213 => 223 | 46 => 155 | 232 => 258 | 233 => 259 | n => n, fun | 17 => 0 | 18 => 3 | 19 => 4 | n => n⟩

theorem Tryz.laysM171 : Go.Proofs.LaysM.n171 Tryz.prog Tryz.laysM171_ren := {
  mixed := by kernel_rfl
  f129 := Tryz.func122.trans (congrArg some (by kernel_rfl))
  f171 := Tryz.func37.trans (congrArg some (by kernel_rfl))
  f243 := Tryz.func83.trans (congrArg some (by kernel_rfl))
  f246 := Tryz.func110.trans (congrArg some (by kernel_rfl))
  f283 := Tryz.func135.trans (congrArg some (by kernel_rfl))
  f284 := Tryz.func136.trans (congrArg some (by kernel_rfl))
  f285 := Tryz.func137.trans (congrArg some (by kernel_rfl))
  f286 := Tryz.func138.trans (congrArg some (by kernel_rfl))
  f317 := Tryz.func172.trans (congrArg some (by kernel_rfl))
  f318 := Tryz.func173.trans (congrArg some (by kernel_rfl))
  f319 := Tryz.func174.trans (congrArg some (by kernel_rfl))
  f320 := Tryz.func175.trans (congrArg some (by kernel_rfl))
  f337 := Tryz.func192.trans (congrArg some (by kernel_rfl))
  f338 := Tryz.func193.trans (congrArg some (by kernel_rfl))
  t0 := Tryz.underlying0
  a0 := Tryz.isAgg0
  z0 := Tryz.sizeOf0
  v0 := Tryz.zeroValue0
  t2 := Tryz.underlying2
  a2 := Tryz.isAgg2
  z2 := Tryz.sizeOf2
  v2 := Tryz.zeroValue2
  t3 := Tryz.underlying3
  a3 := Tryz.isAgg3
  z3 := Tryz.sizeOf3
  v3 := Tryz.zeroValue3
  t4 := Tryz.underlying4
  a4 := Tryz.isAgg4
  z4 := Tryz.sizeOf4
  v4 := Tryz.zeroValue4
  t5 := Tryz.underlying5
  a5 := Tryz.isAgg5
  z5 := Tryz.sizeOf5
  v5 := Tryz.zeroValue5
  t9 := Tryz.underlying9
  a9 := Tryz.isAgg9
  z9 := Tryz.sizeOf9
  v9 := Tryz.zeroValue9
  t20 := Tryz.underlying20
  a20 := Tryz.isAgg20
  z20 := Tryz.sizeOf20
  v20 := Tryz.zeroValue20
  t37 := Tryz.underlying152
  a37 := Tryz.isAgg152
  z37 := Tryz.sizeOf152
  v37 := Tryz.zeroValue152
  t46 := Tryz.underlying155
  a46 := Tryz.isAgg155
  z46 := Tryz.sizeOf155
  v46 := Tryz.zeroValue155
  t51 := Tryz.underlying59
  a51 := Tryz.isAgg59
  z51 := Tryz.sizeOf59
  v51 := Tryz.zeroValue59
  t53 := Tryz.underlying182
  a53 := Tryz.isAgg182
  z53 := Tryz.sizeOf182
  v53 := Tryz.zeroValue182
  t171 := Tryz.underlying197
  a171 := Tryz.isAgg197
  z171 := Tryz.sizeOf197
  v171 := Tryz.zeroValue197
  t173 := Tryz.underlying199
  a173 := Tryz.isAgg199
  z173 := Tryz.sizeOf199
  v173 := Tryz.zeroValue199
  t212 := Tryz.underlying222
  a212 := Tryz.isAgg222
  z212 := Tryz.sizeOf222
  v212 := Tryz.zeroValue222
  t213 := Tryz.underlying223
  a213 := Tryz.isAgg223
  z213 := Tryz.sizeOf223
  t232 := Tryz.underlying258
  a232 := Tryz.isAgg258
  z232 := Tryz.sizeOf258
  v232 := Tryz.zeroValue258
  t233 := Tryz.underlying259
  a233 := Tryz.isAgg259
  z233 := Tryz.sizeOf259
  v233 := Tryz.zeroValue259
  g17 := by kernel_rfl
  g18 := by kernel_rfl
  g19 := by kernel_rfl
  i0 := by kernel_rfl
  i2 := by kernel_rfl
  i3 := by kernel_rfl
  i4 := by kernel_rfl
  i5 := by kernel_rfl
  i9 := by kernel_rfl
  i20 := by kernel_rfl
  i37 := by kernel_rfl
  i46 := by kernel_rfl
  i51 := by kernel_rfl
  i53 := by kernel_rfl
  i171 := by kernel_rfl
  i173 := by kernel_rfl
  i212 := by kernel_rfl
  i232 := by kernel_rfl
  i233 := by kernel_rfl
  m17 := by kernel_rfl
  m18 := by kernel_rfl
  m19 := by kernel_rfl }

open Go.RowKit Go.Sort Go.Lib in
/-- strconv.Itoa: "Itoa is equivalent to FormatInt(int64(i), 10).": i's DECIMAL NUMERAL ('Lib.itoa': a '-' where i is negative, then the digits), FOR EVERY int. The world behind the call: the world before it, new blocks behind the heap (the library's 'var a [24]byte'), draws. (LAID: no walk: one application.) -/
theorem Tryz.strconv_Itoa (n : Int) (h0 : -9223372036854775808 ≤ n) (h1 : n ≤ 9223372036854775807) (w : World) (htab : Lib.TabIs Tryz.prog w "internal/strconv.uint64pow10" .u64 Lib.pow10Tab) :
    Calls Tryz.prog 37 #[.int .i64 n] w fun e w' => e = .returned (.string ⟨(Lib.itoa n).toArray⟩) ∧ ∃ k os, w' = grow (w.drewN k) os := Any.strconv_Itoa Tryz.laysM171 n h0 h1 w htab
end Go.Proofs
