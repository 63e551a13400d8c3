/-
  Laid by the tool of the shelf: the numbers at which a function of the Go library stands in this program.
-/
import Derived.Shelf.SlGeneric
import Derived.Ground.SlsfProg
import Derived.Shelf.SlSortCmp.NoneTotal
import Derived.Test.YteihfoacdocgkaaDoorProg
namespace Go.Proofs
open Go.Shelf
def Tryd.SortDig_ren : Go.Shelf.Ren := ⟨fun | 6 => 81 | 15 => 134 | 14 => 133 | 28 => 156 | 29 => 157 | 20 => 148 | 21 => 149 | 22 => 150 | 23 => 151 | 24 => 152 | 25 => 153 | 26 => 154 | 27 => 155 | 46 => 164 | 47 => 165 | 48 => 166 | 49 => 167 | 50 => 168 | 57 => 169 | n => n, fun | 22 => 29 | 24 => 23 | 25 => 147 | 3 => 3 | 39 => 47 | 0 => 0 | 53 => 185 | 55 => 192 | 4 => 4 | 46 => 223 | 45 => 222 | 50 => 227 | 5 => 5 | 9 => 9 | 66 => 237 | 70 => 241 | 76 => 243 | 77 => 244 | n => n, fun | n => n⟩
theorem Tryd.SortDig : Go.Proofs.SlLaysF0.n6 Tryd.prog Tryd.SortDig_ren := {
  mixed := by kernel_rfl
  f6 := ⟨Tryd.f81.name, by decide, Tryd.func81.trans (congrArg some (by kernel_rfl))⟩
  f14 := ⟨Tryd.f133.name, by decide, Tryd.func133.trans (congrArg some (by kernel_rfl))⟩
  f15 := Tryd.func134.trans (congrArg some (by kernel_rfl))
  f20 := ⟨Tryd.f148.name, by decide, Tryd.func148.trans (congrArg some (by kernel_rfl))⟩
  f21 := ⟨Tryd.f149.name, by decide, Tryd.func149.trans (congrArg some (by kernel_rfl))⟩
  f22 := ⟨Tryd.f150.name, by decide, Tryd.func150.trans (congrArg some (by kernel_rfl))⟩
  f23 := ⟨Tryd.f151.name, by decide, Tryd.func151.trans (congrArg some (by kernel_rfl))⟩
  f24 := ⟨Tryd.f152.name, by decide, Tryd.func152.trans (congrArg some (by kernel_rfl))⟩
  f25 := ⟨Tryd.f153.name, by decide, Tryd.func153.trans (congrArg some (by kernel_rfl))⟩
  f26 := ⟨Tryd.f154.name, by decide, Tryd.func154.trans (congrArg some (by kernel_rfl))⟩
  f27 := ⟨Tryd.f155.name, by decide, Tryd.func155.trans (congrArg some (by kernel_rfl))⟩
  f28 := Tryd.func156.trans (congrArg some (by kernel_rfl))
  f29 := Tryd.func157.trans (congrArg some (by kernel_rfl))
  f46 := ⟨Tryd.f164.name, by decide, Tryd.func164.trans (congrArg some (by kernel_rfl))⟩
  f47 := Tryd.func165.trans (congrArg some (by kernel_rfl))
  f48 := Tryd.func166.trans (congrArg some (by kernel_rfl))
  f49 := ⟨Tryd.f167.name, by decide, Tryd.func167.trans (congrArg some (by kernel_rfl))⟩
  f50 := ⟨Tryd.f168.name, by decide, Tryd.func168.trans (congrArg some (by kernel_rfl))⟩
  f57 := ⟨Tryd.f169.name, by decide, Tryd.func169.trans (congrArg some (by kernel_rfl))⟩
  t0 := Tryd.underlying0
  a0 := Tryd.isAgg0
  z0 := Tryd.sizeOf0
  v0 := Tryd.zeroValue0
  t3 := Tryd.underlying3
  a3 := Tryd.isAgg3
  z3 := Tryd.sizeOf3
  v3 := Tryd.zeroValue3
  t4 := Tryd.underlying4
  a4 := Tryd.isAgg4
  z4 := Tryd.sizeOf4
  v4 := Tryd.zeroValue4
  t5 := Tryd.underlying5
  a5 := Tryd.isAgg5
  z5 := Tryd.sizeOf5
  v5 := Tryd.zeroValue5
  t9 := Tryd.underlying9
  a9 := Tryd.isAgg9
  z9 := Tryd.sizeOf9
  v9 := Tryd.zeroValue9
  t22 := Tryd.underlying29
  a22 := Tryd.isAgg29
  z22 := Tryd.sizeOf29
  v22 := Tryd.zeroValue29
  t25 := Tryd.underlying147
  a25 := Tryd.isAgg147
  z25 := Tryd.sizeOf147
  v25 := Tryd.zeroValue147
  t39 := Tryd.underlying47
  a39 := Tryd.isAgg47
  z39 := Tryd.sizeOf47
  v39 := Tryd.zeroValue47
  t45 := Tryd.underlying222
  a45 := Tryd.isAgg222
  z45 := Tryd.sizeOf222
  v45 := Tryd.zeroValue222
  t46 := Tryd.underlying223
  a46 := Tryd.isAgg223
  z46 := Tryd.sizeOf223
  v46 := Tryd.zeroValue223
  t50 := Tryd.underlying227
  a50 := Tryd.isAgg227
  z50 := Tryd.sizeOf227
  v50 := Tryd.zeroValue227
  t53 := Tryd.underlying185
  a53 := Tryd.isAgg185
  z53 := Tryd.sizeOf185
  v53 := Tryd.zeroValue185
  t55 := Tryd.underlying192
  a55 := Tryd.isAgg192
  z55 := Tryd.sizeOf192
  v55 := Tryd.zeroValue192
  t66 := Tryd.underlying237
  a66 := Tryd.isAgg237
  z66 := Tryd.sizeOf237
  v66 := Tryd.zeroValue237
  t70 := Tryd.underlying241
  a70 := Tryd.isAgg241
  z70 := Tryd.sizeOf241
  v70 := Tryd.zeroValue241
  t76 := Tryd.underlying243
  a76 := Tryd.isAgg243
  z76 := Tryd.sizeOf243
  v76 := Tryd.zeroValue243
  t77 := Tryd.underlying244
  a77 := Tryd.isAgg244
  z77 := Tryd.sizeOf244
  v77 := Tryd.zeroValue244 }
end Go.Proofs
