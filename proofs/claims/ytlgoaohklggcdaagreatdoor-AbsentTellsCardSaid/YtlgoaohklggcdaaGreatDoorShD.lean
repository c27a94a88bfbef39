/- Contracts of the library at this dump's own element types, laid by the kit's tool in plain words. -/
import Derived.Shelf.SlGeneric
import Derived.Ground.SlgmProg
import Derived.Shelf.SortM.Plain
import Derived.Shelf.SortM.SortNone
import Derived.Ground.SlgnProg
import Derived.Shelf.SlicesE.Compact
import Derived.Test.YtlgoaohklggcdaaGreatDoorProg
namespace Go.Proofs
open Go.Shelf
def Tryz.layDaySort_ren : Go.Shelf.Ren := ⟨fun | 5 => 100 | 8 => 146 | 7 => 145 | 19 => 188 | 20 => 189 | 10 => 180 | 11 => 181 | 12 => 182 | 13 => 183 | 14 => 184 | 15 => 185 | 16 => 176 | 17 => 186 | 18 => 187 | 30 => 213 | 31 => 214 | 32 => 215 | 33 => 216 | 34 => 217 | 35 => 121 | 40 => 237 | n => n, fun | 23 => 79 | 25 => 29 | 3 => 3 | 32 => 215 | 22 => 79 | 0 => 0 | 44 => 23 | 46 => 185 | 4 => 4 | 36 => 253 | 35 => 252 | 41 => 106 | 5 => 5 | 9 => 9 | 53 => 276 | 57 => 280 | 63 => 300 | 64 => 91 | n => n, fun | n => n⟩
theorem Tryz.layDaySort : Go.Proofs.SlLaysM.n5 Tryz.prog Tryz.layDaySort_ren := {
  mixed := by kernel_rfl
  f5 := ⟨Tryz.f100.name, by decide, Tryz.func100.trans (congrArg some (by kernel_rfl))⟩
  f7 := ⟨Tryz.f145.name, by decide, Tryz.func145.trans (congrArg some (by kernel_rfl))⟩
  f8 := Tryz.func146.trans (congrArg some (by kernel_rfl))
  f10 := ⟨Tryz.f180.name, by decide, Tryz.func180.trans (congrArg some (by kernel_rfl))⟩
  f11 := ⟨Tryz.f181.name, by decide, Tryz.func181.trans (congrArg some (by kernel_rfl))⟩
  f12 := ⟨Tryz.f182.name, by decide, Tryz.func182.trans (congrArg some (by kernel_rfl))⟩
  f13 := ⟨Tryz.f183.name, by decide, Tryz.func183.trans (congrArg some (by kernel_rfl))⟩
  f14 := ⟨Tryz.f184.name, by decide, Tryz.func184.trans (congrArg some (by kernel_rfl))⟩
  f15 := ⟨Tryz.f185.name, by decide, Tryz.func185.trans (congrArg some (by kernel_rfl))⟩
  f16 := ⟨Tryz.f176.name, by decide, Tryz.func176.trans (congrArg some (by kernel_rfl))⟩
  f17 := ⟨Tryz.f186.name, by decide, Tryz.func186.trans (congrArg some (by kernel_rfl))⟩
  f18 := ⟨Tryz.f187.name, by decide, Tryz.func187.trans (congrArg some (by kernel_rfl))⟩
  f19 := Tryz.func188.trans (congrArg some (by kernel_rfl))
  f20 := Tryz.func189.trans (congrArg some (by kernel_rfl))
  f30 := ⟨Tryz.f213.name, by decide, Tryz.func213.trans (congrArg some (by kernel_rfl))⟩
  f31 := Tryz.func214.trans (congrArg some (by kernel_rfl))
  f32 := Tryz.func215.trans (congrArg some (by kernel_rfl))
  f33 := ⟨Tryz.f216.name, by decide, Tryz.func216.trans (congrArg some (by kernel_rfl))⟩
  f34 := ⟨Tryz.f217.name, by decide, Tryz.func217.trans (congrArg some (by kernel_rfl))⟩
  f35 := ⟨Tryz.f121.name, by decide, Tryz.func121.trans (congrArg some (by kernel_rfl))⟩
  f40 := ⟨Tryz.f237.name, by decide, Tryz.func237.trans (congrArg some (by kernel_rfl))⟩
  t0 := Tryz.underlying0
  a0 := Tryz.isAgg0
  z0 := Tryz.sizeOf0
  v0 := Tryz.zeroValue0
  t3 := Tryz.underlying3
  a3 := Tryz.isAgg3
  z3 := Tryz.sizeOf3
  v3 := Tryz.zeroValue3
  t4 := Tryz.underlying4
  a4 := Tryz.isAgg4
  z4 := Tryz.sizeOf4
  v4 := Tryz.zeroValue4
  t5 := Tryz.underlying5
  a5 := Tryz.isAgg5
  z5 := Tryz.sizeOf5
  v5 := Tryz.zeroValue5
  t9 := Tryz.underlying9
  a9 := Tryz.isAgg9
  z9 := Tryz.sizeOf9
  v9 := Tryz.zeroValue9
  t22 := Tryz.underlying79
  a22 := Tryz.isAgg79
  z22 := Tryz.sizeOf79
  v22 := Tryz.zeroValue79
  t23 := Tryz.underlying79
  a23 := Tryz.isAgg79
  z23 := Tryz.sizeOf79
  v23 := Tryz.zeroValue79
  t25 := Tryz.underlying29
  a25 := Tryz.isAgg29
  z25 := Tryz.sizeOf29
  v25 := Tryz.zeroValue29
  t32 := Tryz.underlying215
  a32 := Tryz.isAgg215
  z32 := Tryz.sizeOf215
  v32 := Tryz.zeroValue215
  t35 := Tryz.underlying252
  a35 := Tryz.isAgg252
  z35 := Tryz.sizeOf252
  v35 := Tryz.zeroValue252
  t36 := Tryz.underlying253
  a36 := Tryz.isAgg253
  z36 := Tryz.sizeOf253
  v36 := Tryz.zeroValue253
  t41 := Tryz.underlying106
  a41 := Tryz.isAgg106
  z41 := Tryz.sizeOf106
  v41 := Tryz.zeroValue106
  t44 := Tryz.underlying23
  a44 := Tryz.isAgg23
  z44 := Tryz.sizeOf23
  v44 := Tryz.zeroValue23
  t46 := Tryz.underlying185
  a46 := Tryz.isAgg185
  z46 := Tryz.sizeOf185
  v46 := Tryz.zeroValue185
  t53 := Tryz.underlying276
  a53 := Tryz.isAgg276
  z53 := Tryz.sizeOf276
  v53 := Tryz.zeroValue276
  t57 := Tryz.underlying280
  a57 := Tryz.isAgg280
  z57 := Tryz.sizeOf280
  v57 := Tryz.zeroValue280
  t63 := Tryz.underlying300
  a63 := Tryz.isAgg300
  z63 := Tryz.sizeOf300
  v63 := Tryz.zeroValue300
  t64 := Tryz.underlying91
  a64 := Tryz.isAgg91
  z64 := Tryz.sizeOf91
  v64 := Tryz.zeroValue91 }
def Tryz.layDayCmp_ren : Go.Shelf.Ren := ⟨fun | 43 => 179 | n => n, fun | 22 => 79 | 23 => 29 | 3 => 3 | 4 => 4 | 0 => 0 | n => n, fun | n => n⟩
theorem Tryz.layDayCmp : Go.Proofs.SlLaysE.n43 Tryz.prog Tryz.layDayCmp_ren := {
  mixed := by kernel_rfl
  f43 := ⟨Tryz.f179.name, by decide, Tryz.func179.trans (congrArg some (by kernel_rfl))⟩
  t0 := Tryz.underlying0
  a0 := Tryz.isAgg0
  z0 := Tryz.sizeOf0
  v0 := Tryz.zeroValue0
  t3 := Tryz.underlying3
  a3 := Tryz.isAgg3
  z3 := Tryz.sizeOf3
  v3 := Tryz.zeroValue3
  t4 := Tryz.underlying4
  a4 := Tryz.isAgg4
  z4 := Tryz.sizeOf4
  v4 := Tryz.zeroValue4
  t22 := Tryz.underlying79
  a22 := Tryz.isAgg79
  z22 := Tryz.sizeOf79
  v22 := Tryz.zeroValue79
  a23 := Tryz.isAgg29
  z23 := Tryz.sizeOf29 }
end Go.Proofs
