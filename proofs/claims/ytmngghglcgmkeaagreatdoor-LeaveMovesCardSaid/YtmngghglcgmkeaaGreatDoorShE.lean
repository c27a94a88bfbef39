/- Contracts of the library at this dump's own element types, laid by the kit's tool in plain words. -/
import Derived.Shelf.SlGeneric
import Derived.Ground.SlsfProg
import Derived.Shelf.SlSortCmp.NoneTotal
import Derived.Test.YtmngghglcgmkeaaGreatDoorProg
namespace Go.Proofs
open Go.Shelf
def Tryz.laySpanSort_ren : Go.Shelf.Ren := ⟨fun | 6 => 108 | 15 => 125 | 14 => 124 | 28 => 150 | 29 => 151 | 20 => 142 | 21 => 143 | 22 => 144 | 23 => 145 | 24 => 146 | 25 => 147 | 26 => 148 | 27 => 149 | 46 => 174 | 47 => 175 | 48 => 176 | 49 => 177 | 50 => 178 | 57 => 201 | n => n, fun | 22 => 146 | 24 => 28 | 25 => 163 | 3 => 3 | 39 => 160 | 0 => 0 | 53 => 23 | 55 => 170 | 4 => 4 | 46 => 205 | 45 => 204 | 50 => 50 | 5 => 5 | 9 => 9 | 66 => 222 | 70 => 226 | 76 => 240 | 77 => 148 | n => n, fun | n => n⟩
theorem Tryz.laySpanSort : Go.Proofs.SlLaysF0.n6 Tryz.prog Tryz.laySpanSort_ren := {
  mixed := by kernel_rfl
  f6 := ⟨Tryz.f108.name, by decide, Tryz.func108.trans (congrArg some (by kernel_rfl))⟩
  f14 := ⟨Tryz.f124.name, by decide, Tryz.func124.trans (congrArg some (by kernel_rfl))⟩
  f15 := Tryz.func125.trans (congrArg some (by kernel_rfl))
  f20 := ⟨Tryz.f142.name, by decide, Tryz.func142.trans (congrArg some (by kernel_rfl))⟩
  f21 := ⟨Tryz.f143.name, by decide, Tryz.func143.trans (congrArg some (by kernel_rfl))⟩
  f22 := ⟨Tryz.f144.name, by decide, Tryz.func144.trans (congrArg some (by kernel_rfl))⟩
  f23 := ⟨Tryz.f145.name, by decide, Tryz.func145.trans (congrArg some (by kernel_rfl))⟩
  f24 := ⟨Tryz.f146.name, by decide, Tryz.func146.trans (congrArg some (by kernel_rfl))⟩
  f25 := ⟨Tryz.f147.name, by decide, Tryz.func147.trans (congrArg some (by kernel_rfl))⟩
  f26 := ⟨Tryz.f148.name, by decide, Tryz.func148.trans (congrArg some (by kernel_rfl))⟩
  f27 := ⟨Tryz.f149.name, by decide, Tryz.func149.trans (congrArg some (by kernel_rfl))⟩
  f28 := Tryz.func150.trans (congrArg some (by kernel_rfl))
  f29 := Tryz.func151.trans (congrArg some (by kernel_rfl))
  f46 := ⟨Tryz.f174.name, by decide, Tryz.func174.trans (congrArg some (by kernel_rfl))⟩
  f47 := Tryz.func175.trans (congrArg some (by kernel_rfl))
  f48 := Tryz.func176.trans (congrArg some (by kernel_rfl))
  f49 := ⟨Tryz.f177.name, by decide, Tryz.func177.trans (congrArg some (by kernel_rfl))⟩
  f50 := ⟨Tryz.f178.name, by decide, Tryz.func178.trans (congrArg some (by kernel_rfl))⟩
  f57 := ⟨Tryz.f201.name, by decide, Tryz.func201.trans (congrArg some (by kernel_rfl))⟩
  t0 := Tryz.underlying0
  a0 := Tryz.isAgg0
  z0 := Tryz.sizeOf0
  v0 := Tryz.zeroValue0
  t3 := Tryz.underlying3
  a3 := Tryz.isAgg3
  z3 := Tryz.sizeOf3
  v3 := Tryz.zeroValue3
  t4 := Tryz.underlying4
  a4 := Tryz.isAgg4
  z4 := Tryz.sizeOf4
  v4 := Tryz.zeroValue4
  t5 := Tryz.underlying5
  a5 := Tryz.isAgg5
  z5 := Tryz.sizeOf5
  v5 := Tryz.zeroValue5
  t9 := Tryz.underlying9
  a9 := Tryz.isAgg9
  z9 := Tryz.sizeOf9
  v9 := Tryz.zeroValue9
  t22 := Tryz.underlying146
  a22 := Tryz.isAgg146
  z22 := Tryz.sizeOf146
  v22 := Tryz.zeroValue146
  t25 := Tryz.underlying163
  a25 := Tryz.isAgg163
  z25 := Tryz.sizeOf163
  v25 := Tryz.zeroValue163
  t39 := Tryz.underlying160
  a39 := Tryz.isAgg160
  z39 := Tryz.sizeOf160
  v39 := Tryz.zeroValue160
  t45 := Tryz.underlying204
  a45 := Tryz.isAgg204
  z45 := Tryz.sizeOf204
  v45 := Tryz.zeroValue204
  t46 := Tryz.underlying205
  a46 := Tryz.isAgg205
  z46 := Tryz.sizeOf205
  v46 := Tryz.zeroValue205
  t50 := Tryz.underlying50
  a50 := Tryz.isAgg50
  z50 := Tryz.sizeOf50
  v50 := Tryz.zeroValue50
  t53 := Tryz.underlying23
  a53 := Tryz.isAgg23
  z53 := Tryz.sizeOf23
  v53 := Tryz.zeroValue23
  t55 := Tryz.underlying170
  a55 := Tryz.isAgg170
  z55 := Tryz.sizeOf170
  v55 := Tryz.zeroValue170
  t66 := Tryz.underlying222
  a66 := Tryz.isAgg222
  z66 := Tryz.sizeOf222
  v66 := Tryz.zeroValue222
  t70 := Tryz.underlying226
  a70 := Tryz.isAgg226
  z70 := Tryz.sizeOf226
  v70 := Tryz.zeroValue226
  t76 := Tryz.underlying240
  a76 := Tryz.isAgg240
  z76 := Tryz.sizeOf240
  v76 := Tryz.zeroValue240
  t77 := Tryz.underlying148
  a77 := Tryz.isAgg148
  z77 := Tryz.sizeOf148
  v77 := Tryz.zeroValue148 }
end Go.Proofs
