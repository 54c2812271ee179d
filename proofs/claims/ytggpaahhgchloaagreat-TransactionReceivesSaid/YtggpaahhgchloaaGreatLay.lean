/- The library's sort laid at this program (printed by the kit's laying tools). -/
import Derived.Shelf.SlGeneric
import Derived.Shelf.SlSortCmp.WholeK
import Derived.Ground.SlsfProg
import Derived.Test.YtggpaahhgchloaaGreatProg
namespace Go.Proofs
open Go.Shelf
def Tryz.sortf_ren : Go.Shelf.Ren := ⟨fun | 6 => 161 | 15 => 196 | 14 => 195 | 28 => 221 | 29 => 222 | 20 => 213 | 21 => 214 | 22 => 215 | 23 => 216 | 24 => 217 | 25 => 218 | 26 => 219 | 27 => 220 | 46 => 225 | 47 => 226 | 48 => 227 | 49 => 228 | 50 => 229 | 57 => 231 | n => n, fun | 22 => 22 | 24 => 85 | 25 => 179 | 3 => 3 | 39 => 200 | 0 => 0 | 53 => 214 | 55 => 216 | 4 => 4 | 46 => 208 | 45 => 207 | 50 => 181 | 5 => 5 | 9 => 9 | 66 => 217 | 70 => 221 | 76 => 224 | 77 => 225 | n => n, fun | n => n⟩
theorem Tryz.sortf : Go.Proofs.SlLaysF0.n6 Tryz.prog Tryz.sortf_ren := {
  mixed := by kernel_rfl
  f6 := ⟨Tryz.f161.name, by decide, Tryz.func161.trans (congrArg some (by kernel_rfl))⟩
  f14 := ⟨Tryz.f195.name, by decide, Tryz.func195.trans (congrArg some (by kernel_rfl))⟩
  f15 := Tryz.func196.trans (congrArg some (by kernel_rfl))
  f20 := ⟨Tryz.f213.name, by decide, Tryz.func213.trans (congrArg some (by kernel_rfl))⟩
  f21 := ⟨Tryz.f214.name, by decide, Tryz.func214.trans (congrArg some (by kernel_rfl))⟩
  f22 := ⟨Tryz.f215.name, by decide, Tryz.func215.trans (congrArg some (by kernel_rfl))⟩
  f23 := ⟨Tryz.f216.name, by decide, Tryz.func216.trans (congrArg some (by kernel_rfl))⟩
  f24 := ⟨Tryz.f217.name, by decide, Tryz.func217.trans (congrArg some (by kernel_rfl))⟩
  f25 := ⟨Tryz.f218.name, by decide, Tryz.func218.trans (congrArg some (by kernel_rfl))⟩
  f26 := ⟨Tryz.f219.name, by decide, Tryz.func219.trans (congrArg some (by kernel_rfl))⟩
  f27 := ⟨Tryz.f220.name, by decide, Tryz.func220.trans (congrArg some (by kernel_rfl))⟩
  f28 := Tryz.func221.trans (congrArg some (by kernel_rfl))
  f29 := Tryz.func222.trans (congrArg some (by kernel_rfl))
  f46 := ⟨Tryz.f225.name, by decide, Tryz.func225.trans (congrArg some (by kernel_rfl))⟩
  f47 := Tryz.func226.trans (congrArg some (by kernel_rfl))
  f48 := Tryz.func227.trans (congrArg some (by kernel_rfl))
  f49 := ⟨Tryz.f228.name, by decide, Tryz.func228.trans (congrArg some (by kernel_rfl))⟩
  f50 := ⟨Tryz.f229.name, by decide, Tryz.func229.trans (congrArg some (by kernel_rfl))⟩
  f57 := ⟨Tryz.f231.name, by decide, Tryz.func231.trans (congrArg some (by kernel_rfl))⟩
  t0 := Tryz.underlying0
  a0 := Tryz.isAgg0
  z0 := Tryz.sizeOf0
  v0 := Tryz.zeroValue0
  t3 := Tryz.underlying3
  a3 := Tryz.isAgg3
  z3 := Tryz.sizeOf3
  v3 := Tryz.zeroValue3
  t4 := Tryz.underlying4
  a4 := Tryz.isAgg4
  z4 := Tryz.sizeOf4
  v4 := Tryz.zeroValue4
  t5 := Tryz.underlying5
  a5 := Tryz.isAgg5
  z5 := Tryz.sizeOf5
  v5 := Tryz.zeroValue5
  t9 := Tryz.underlying9
  a9 := Tryz.isAgg9
  z9 := Tryz.sizeOf9
  v9 := Tryz.zeroValue9
  t22 := Tryz.underlying22
  a22 := Tryz.isAgg22
  z22 := Tryz.sizeOf22
  v22 := Tryz.zeroValue22
  t25 := Tryz.underlying179
  a25 := Tryz.isAgg179
  z25 := Tryz.sizeOf179
  v25 := Tryz.zeroValue179
  t39 := Tryz.underlying200
  a39 := Tryz.isAgg200
  z39 := Tryz.sizeOf200
  v39 := Tryz.zeroValue200
  t45 := Tryz.underlying207
  a45 := Tryz.isAgg207
  z45 := Tryz.sizeOf207
  v45 := Tryz.zeroValue207
  t46 := Tryz.underlying208
  a46 := Tryz.isAgg208
  z46 := Tryz.sizeOf208
  v46 := Tryz.zeroValue208
  t50 := Tryz.underlying181
  a50 := Tryz.isAgg181
  z50 := Tryz.sizeOf181
  v50 := Tryz.zeroValue181
  t53 := Tryz.underlying214
  a53 := Tryz.isAgg214
  z53 := Tryz.sizeOf214
  v53 := Tryz.zeroValue214
  t55 := Tryz.underlying216
  a55 := Tryz.isAgg216
  z55 := Tryz.sizeOf216
  v55 := Tryz.zeroValue216
  t66 := Tryz.underlying217
  a66 := Tryz.isAgg217
  z66 := Tryz.sizeOf217
  v66 := Tryz.zeroValue217
  t70 := Tryz.underlying221
  a70 := Tryz.isAgg221
  z70 := Tryz.sizeOf221
  v70 := Tryz.zeroValue221
  t76 := Tryz.underlying224
  a76 := Tryz.isAgg224
  z76 := Tryz.sizeOf224
  v76 := Tryz.zeroValue224
  t77 := Tryz.underlying225
  a77 := Tryz.isAgg225
  z77 := Tryz.sizeOf225
  v77 := Tryz.zeroValue225 }
end Go.Proofs
