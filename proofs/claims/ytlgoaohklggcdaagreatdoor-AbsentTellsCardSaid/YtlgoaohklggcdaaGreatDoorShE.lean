/- Contracts of the library at this dump's own element types, laid by the kit's tool in plain words. -/
import Derived.Shelf.SlGeneric
import Derived.Ground.SlsfProg
import Derived.Shelf.SlSortCmp.NoneTotal
import Derived.Test.YtlgoaohklggcdaaGreatDoorProg
namespace Go.Proofs
open Go.Shelf
def Tryz.laySpanSort_ren : Go.Shelf.Ren := ⟨fun | 6 => 118 | 15 => 146 | 14 => 166 | 28 => 188 | 29 => 189 | 20 => 201 | 21 => 202 | 22 => 203 | 23 => 204 | 24 => 205 | 25 => 206 | 26 => 207 | 27 => 208 | 46 => 228 | 47 => 214 | 48 => 215 | 49 => 229 | 50 => 230 | 57 => 243 | n => n, fun | 22 => 72 | 24 => 31 | 25 => 213 | 3 => 3 | 39 => 215 | 0 => 0 | 53 => 23 | 55 => 185 | 4 => 4 | 46 => 253 | 45 => 252 | 50 => 106 | 5 => 5 | 9 => 9 | 66 => 276 | 70 => 280 | 76 => 300 | 77 => 91 | n => n, fun | n => n⟩
theorem Tryz.laySpanSort : Go.Proofs.SlLaysF0.n6 Tryz.prog Tryz.laySpanSort_ren := {
  mixed := by kernel_rfl
  f6 := ⟨Tryz.f118.name, by decide, Tryz.func118.trans (congrArg some (by kernel_rfl))⟩
  f14 := ⟨Tryz.f166.name, by decide, Tryz.func166.trans (congrArg some (by kernel_rfl))⟩
  f15 := Tryz.func146.trans (congrArg some (by kernel_rfl))
  f20 := ⟨Tryz.f201.name, by decide, Tryz.func201.trans (congrArg some (by kernel_rfl))⟩
  f21 := ⟨Tryz.f202.name, by decide, Tryz.func202.trans (congrArg some (by kernel_rfl))⟩
  f22 := ⟨Tryz.f203.name, by decide, Tryz.func203.trans (congrArg some (by kernel_rfl))⟩
  f23 := ⟨Tryz.f204.name, by decide, Tryz.func204.trans (congrArg some (by kernel_rfl))⟩
  f24 := ⟨Tryz.f205.name, by decide, Tryz.func205.trans (congrArg some (by kernel_rfl))⟩
  f25 := ⟨Tryz.f206.name, by decide, Tryz.func206.trans (congrArg some (by kernel_rfl))⟩
  f26 := ⟨Tryz.f207.name, by decide, Tryz.func207.trans (congrArg some (by kernel_rfl))⟩
  f27 := ⟨Tryz.f208.name, by decide, Tryz.func208.trans (congrArg some (by kernel_rfl))⟩
  f28 := Tryz.func188.trans (congrArg some (by kernel_rfl))
  f29 := Tryz.func189.trans (congrArg some (by kernel_rfl))
  f46 := ⟨Tryz.f228.name, by decide, Tryz.func228.trans (congrArg some (by kernel_rfl))⟩
  f47 := Tryz.func214.trans (congrArg some (by kernel_rfl))
  f48 := Tryz.func215.trans (congrArg some (by kernel_rfl))
  f49 := ⟨Tryz.f229.name, by decide, Tryz.func229.trans (congrArg some (by kernel_rfl))⟩
  f50 := ⟨Tryz.f230.name, by decide, Tryz.func230.trans (congrArg some (by kernel_rfl))⟩
  f57 := ⟨Tryz.f243.name, by decide, Tryz.func243.trans (congrArg some (by kernel_rfl))⟩
  t0 := Tryz.underlying0
  a0 := Tryz.isAgg0
  z0 := Tryz.sizeOf0
  v0 := Tryz.zeroValue0
  t3 := Tryz.underlying3
  a3 := Tryz.isAgg3
  z3 := Tryz.sizeOf3
  v3 := Tryz.zeroValue3
  t4 := Tryz.underlying4
  a4 := Tryz.isAgg4
  z4 := Tryz.sizeOf4
  v4 := Tryz.zeroValue4
  t5 := Tryz.underlying5
  a5 := Tryz.isAgg5
  z5 := Tryz.sizeOf5
  v5 := Tryz.zeroValue5
  t9 := Tryz.underlying9
  a9 := Tryz.isAgg9
  z9 := Tryz.sizeOf9
  v9 := Tryz.zeroValue9
  t22 := Tryz.underlying72
  a22 := Tryz.isAgg72
  z22 := Tryz.sizeOf72
  v22 := Tryz.zeroValue72
  t25 := Tryz.underlying213
  a25 := Tryz.isAgg213
  z25 := Tryz.sizeOf213
  v25 := Tryz.zeroValue213
  t39 := Tryz.underlying215
  a39 := Tryz.isAgg215
  z39 := Tryz.sizeOf215
  v39 := Tryz.zeroValue215
  t45 := Tryz.underlying252
  a45 := Tryz.isAgg252
  z45 := Tryz.sizeOf252
  v45 := Tryz.zeroValue252
  t46 := Tryz.underlying253
  a46 := Tryz.isAgg253
  z46 := Tryz.sizeOf253
  v46 := Tryz.zeroValue253
  t50 := Tryz.underlying106
  a50 := Tryz.isAgg106
  z50 := Tryz.sizeOf106
  v50 := Tryz.zeroValue106
  t53 := Tryz.underlying23
  a53 := Tryz.isAgg23
  z53 := Tryz.sizeOf23
  v53 := Tryz.zeroValue23
  t55 := Tryz.underlying185
  a55 := Tryz.isAgg185
  z55 := Tryz.sizeOf185
  v55 := Tryz.zeroValue185
  t66 := Tryz.underlying276
  a66 := Tryz.isAgg276
  z66 := Tryz.sizeOf276
  v66 := Tryz.zeroValue276
  t70 := Tryz.underlying280
  a70 := Tryz.isAgg280
  z70 := Tryz.sizeOf280
  v70 := Tryz.zeroValue280
  t76 := Tryz.underlying300
  a76 := Tryz.isAgg300
  z76 := Tryz.sizeOf300
  v76 := Tryz.zeroValue300
  t77 := Tryz.underlying91
  a77 := Tryz.isAgg91
  z77 := Tryz.sizeOf91
  v77 := Tryz.zeroValue91 }
end Go.Proofs
