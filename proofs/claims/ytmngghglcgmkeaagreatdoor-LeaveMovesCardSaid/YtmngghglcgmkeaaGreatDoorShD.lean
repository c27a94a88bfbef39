/- Contracts of the library at this dump's own element types, laid by the kit's tool in plain words. -/
import Derived.Shelf.SlGeneric
import Derived.Ground.SlgmProg
import Derived.Shelf.SortM.Plain
import Derived.Shelf.SortM.SortNone
import Derived.Ground.SlgnProg
import Derived.Shelf.SlicesE.Compact
import Derived.Test.YtmngghglcgmkeaaGreatDoorProg
namespace Go.Proofs
open Go.Shelf
def Tryz.layDaySort_ren : Go.Shelf.Ren := ⟨fun | 5 => 117 | 8 => 125 | 7 => 135 | 19 => 150 | 20 => 151 | 10 => 161 | 11 => 162 | 12 => 163 | 13 => 164 | 14 => 165 | 15 => 166 | 16 => 106 | 17 => 167 | 18 => 168 | 30 => 196 | 31 => 175 | 32 => 176 | 33 => 197 | 34 => 198 | 35 => 72 | 40 => 207 | n => n, fun | 23 => 56 | 25 => 24 | 3 => 3 | 32 => 160 | 22 => 56 | 0 => 0 | 44 => 23 | 46 => 170 | 4 => 4 | 36 => 205 | 35 => 204 | 41 => 50 | 5 => 5 | 9 => 9 | 53 => 222 | 57 => 226 | 63 => 240 | 64 => 148 | n => n, fun | n => n⟩
theorem Tryz.layDaySort : Go.Proofs.SlLaysM.n5 Tryz.prog Tryz.layDaySort_ren := {
  mixed := by kernel_rfl
  f5 := ⟨Tryz.f117.name, by decide, Tryz.func117.trans (congrArg some (by kernel_rfl))⟩
  f7 := ⟨Tryz.f135.name, by decide, Tryz.func135.trans (congrArg some (by kernel_rfl))⟩
  f8 := Tryz.func125.trans (congrArg some (by kernel_rfl))
  f10 := ⟨Tryz.f161.name, by decide, Tryz.func161.trans (congrArg some (by kernel_rfl))⟩
  f11 := ⟨Tryz.f162.name, by decide, Tryz.func162.trans (congrArg some (by kernel_rfl))⟩
  f12 := ⟨Tryz.f163.name, by decide, Tryz.func163.trans (congrArg some (by kernel_rfl))⟩
  f13 := ⟨Tryz.f164.name, by decide, Tryz.func164.trans (congrArg some (by kernel_rfl))⟩
  f14 := ⟨Tryz.f165.name, by decide, Tryz.func165.trans (congrArg some (by kernel_rfl))⟩
  f15 := ⟨Tryz.f166.name, by decide, Tryz.func166.trans (congrArg some (by kernel_rfl))⟩
  f16 := ⟨Tryz.f106.name, by decide, Tryz.func106.trans (congrArg some (by kernel_rfl))⟩
  f17 := ⟨Tryz.f167.name, by decide, Tryz.func167.trans (congrArg some (by kernel_rfl))⟩
  f18 := ⟨Tryz.f168.name, by decide, Tryz.func168.trans (congrArg some (by kernel_rfl))⟩
  f19 := Tryz.func150.trans (congrArg some (by kernel_rfl))
  f20 := Tryz.func151.trans (congrArg some (by kernel_rfl))
  f30 := ⟨Tryz.f196.name, by decide, Tryz.func196.trans (congrArg some (by kernel_rfl))⟩
  f31 := Tryz.func175.trans (congrArg some (by kernel_rfl))
  f32 := Tryz.func176.trans (congrArg some (by kernel_rfl))
  f33 := ⟨Tryz.f197.name, by decide, Tryz.func197.trans (congrArg some (by kernel_rfl))⟩
  f34 := ⟨Tryz.f198.name, by decide, Tryz.func198.trans (congrArg some (by kernel_rfl))⟩
  f35 := ⟨Tryz.f72.name, by decide, Tryz.func72.trans (congrArg some (by kernel_rfl))⟩
  f40 := ⟨Tryz.f207.name, by decide, Tryz.func207.trans (congrArg some (by kernel_rfl))⟩
  t0 := Tryz.underlying0
  a0 := Tryz.isAgg0
  z0 := Tryz.sizeOf0
  v0 := Tryz.zeroValue0
  t3 := Tryz.underlying3
  a3 := Tryz.isAgg3
  z3 := Tryz.sizeOf3
  v3 := Tryz.zeroValue3
  t4 := Tryz.underlying4
  a4 := Tryz.isAgg4
  z4 := Tryz.sizeOf4
  v4 := Tryz.zeroValue4
  t5 := Tryz.underlying5
  a5 := Tryz.isAgg5
  z5 := Tryz.sizeOf5
  v5 := Tryz.zeroValue5
  t9 := Tryz.underlying9
  a9 := Tryz.isAgg9
  z9 := Tryz.sizeOf9
  v9 := Tryz.zeroValue9
  t22 := Tryz.underlying56
  a22 := Tryz.isAgg56
  z22 := Tryz.sizeOf56
  v22 := Tryz.zeroValue56
  t23 := Tryz.underlying56
  a23 := Tryz.isAgg56
  z23 := Tryz.sizeOf56
  v23 := Tryz.zeroValue56
  t25 := Tryz.underlying24
  a25 := Tryz.isAgg24
  z25 := Tryz.sizeOf24
  v25 := Tryz.zeroValue24
  t32 := Tryz.underlying160
  a32 := Tryz.isAgg160
  z32 := Tryz.sizeOf160
  v32 := Tryz.zeroValue160
  t35 := Tryz.underlying204
  a35 := Tryz.isAgg204
  z35 := Tryz.sizeOf204
  v35 := Tryz.zeroValue204
  t36 := Tryz.underlying205
  a36 := Tryz.isAgg205
  z36 := Tryz.sizeOf205
  v36 := Tryz.zeroValue205
  t41 := Tryz.underlying50
  a41 := Tryz.isAgg50
  z41 := Tryz.sizeOf50
  v41 := Tryz.zeroValue50
  t44 := Tryz.underlying23
  a44 := Tryz.isAgg23
  z44 := Tryz.sizeOf23
  v44 := Tryz.zeroValue23
  t46 := Tryz.underlying170
  a46 := Tryz.isAgg170
  z46 := Tryz.sizeOf170
  v46 := Tryz.zeroValue170
  t53 := Tryz.underlying222
  a53 := Tryz.isAgg222
  z53 := Tryz.sizeOf222
  v53 := Tryz.zeroValue222
  t57 := Tryz.underlying226
  a57 := Tryz.isAgg226
  z57 := Tryz.sizeOf226
  v57 := Tryz.zeroValue226
  t63 := Tryz.underlying240
  a63 := Tryz.isAgg240
  z63 := Tryz.sizeOf240
  v63 := Tryz.zeroValue240
  t64 := Tryz.underlying148
  a64 := Tryz.isAgg148
  z64 := Tryz.sizeOf148
  v64 := Tryz.zeroValue148 }
def Tryz.layDayCmp_ren : Go.Shelf.Ren := ⟨fun | 43 => 118 | n => n, fun | 22 => 56 | 23 => 24 | 3 => 3 | 4 => 4 | 0 => 0 | n => n, fun | n => n⟩
theorem Tryz.layDayCmp : Go.Proofs.SlLaysE.n43 Tryz.prog Tryz.layDayCmp_ren := {
  mixed := by kernel_rfl
  f43 := ⟨Tryz.f118.name, by decide, Tryz.func118.trans (congrArg some (by kernel_rfl))⟩
  t0 := Tryz.underlying0
  a0 := Tryz.isAgg0
  z0 := Tryz.sizeOf0
  v0 := Tryz.zeroValue0
  t3 := Tryz.underlying3
  a3 := Tryz.isAgg3
  z3 := Tryz.sizeOf3
  v3 := Tryz.zeroValue3
  t4 := Tryz.underlying4
  a4 := Tryz.isAgg4
  z4 := Tryz.sizeOf4
  v4 := Tryz.zeroValue4
  t22 := Tryz.underlying56
  a22 := Tryz.isAgg56
  z22 := Tryz.sizeOf56
  v22 := Tryz.zeroValue56
  a23 := Tryz.isAgg24
  z23 := Tryz.sizeOf24 }
end Go.Proofs
