import Derived.Test.YtndmnfmpbcecaaaSc17danbioaf
import Derived.Test.YtndmnfmpbcecaaaProg
import Derived.Test.YtndmnfmpbcecaaaChecked
import Derived.KernelRfl
import Derived.Shelf.SlSortCmp.Whole1
import Derived.Shelf.SlSortCmp.NoneTotal
set_option linter.all false
namespace Go.Proofs.Ytndmnfmpbcecaaa
open Go Go.Shelf Go.Eng
def laysSortL_ren : Go.Shelf.Ren := ⟨fun | 6 => 30 | 14 => 61 | 15 => 58 | 20 => 87 | 21 => 88 | 22 => 89 | 23 => 90 | 24 => 91 | 25 => 92 | 26 => 93 | 27 => 94 | 28 => 84 | 29 => 85 | 46 => 108 | 47 => 104 | 48 => 105 | 49 => 109 | 50 => 110 | 57 => 121 | n => n, fun | 0 => 0 | 3 => 3 | 4 => 4 | 5 => 5 | 9 => 9 | 22 => 34 | 24 => 37 | 25 => 58 | 39 => 90 | 45 => 105 | 46 => 106 | 50 => 49 | 53 => 112 | 55 => 102 | 66 => 125 | 70 => 129 | 76 => 139 | 77 => 140 | n => n, fun | n => n⟩
theorem laysSortL : Go.Proofs.SlLaysF.n6 Try.prog laysSortL_ren := {
 mixed := by kernel_rfl
 f6 := ⟨Try.f30.name, by kernel_rfl, Try.func30.trans (congrArg some (by kernel_rfl))⟩
 f14 := ⟨Try.f61.name, by kernel_rfl, Try.func61.trans (congrArg some (by kernel_rfl))⟩
 f15 := Try.func58.trans (congrArg some (by kernel_rfl))
 f20 := ⟨Try.f87.name, by kernel_rfl, Try.func87.trans (congrArg some (by kernel_rfl))⟩
 f21 := ⟨Try.f88.name, by kernel_rfl, Try.func88.trans (congrArg some (by kernel_rfl))⟩
 f22 := ⟨Try.f89.name, by kernel_rfl, Try.func89.trans (congrArg some (by kernel_rfl))⟩
 f23 := ⟨Try.f90.name, by kernel_rfl, Try.func90.trans (congrArg some (by kernel_rfl))⟩
 f24 := ⟨Try.f91.name, by kernel_rfl, Try.func91.trans (congrArg some (by kernel_rfl))⟩
 f25 := ⟨Try.f92.name, by kernel_rfl, Try.func92.trans (congrArg some (by kernel_rfl))⟩
 f26 := ⟨Try.f93.name, by kernel_rfl, Try.func93.trans (congrArg some (by kernel_rfl))⟩
 f27 := ⟨Try.f94.name, by kernel_rfl, Try.func94.trans (congrArg some (by kernel_rfl))⟩
 f28 := Try.func84.trans (congrArg some (by kernel_rfl))
 f29 := Try.func85.trans (congrArg some (by kernel_rfl))
 f46 := ⟨Try.f108.name, by kernel_rfl, Try.func108.trans (congrArg some (by kernel_rfl))⟩
 f47 := Try.func104.trans (congrArg some (by kernel_rfl))
 f48 := Try.func105.trans (congrArg some (by kernel_rfl))
 f49 := ⟨Try.f109.name, by kernel_rfl, Try.func109.trans (congrArg some (by kernel_rfl))⟩
 f50 := ⟨Try.f110.name, by kernel_rfl, Try.func110.trans (congrArg some (by kernel_rfl))⟩
 f57 := ⟨Try.f121.name, by kernel_rfl, Try.func121.trans (congrArg some (by kernel_rfl))⟩
 t0 := Try.underlying0
 a0 := Try.isAgg0
 z0 := Try.sizeOf0
 v0 := Try.zeroValue0
 t3 := Try.underlying3
 a3 := Try.isAgg3
 z3 := Try.sizeOf3
 v3 := Try.zeroValue3
 t4 := Try.underlying4
 a4 := Try.isAgg4
 z4 := Try.sizeOf4
 v4 := Try.zeroValue4
 t5 := Try.underlying5
 a5 := Try.isAgg5
 z5 := Try.sizeOf5
 v5 := Try.zeroValue5
 t9 := Try.underlying9
 a9 := Try.isAgg9
 z9 := Try.sizeOf9
 v9 := Try.zeroValue9
 t22 := Try.underlying34
 a22 := Try.isAgg34
 z22 := Try.sizeOf34
 v22 := Try.zeroValue34
 a24 := Try.isAgg37
 z24 := Try.sizeOf37
 t25 := Try.underlying58
 a25 := Try.isAgg58
 z25 := Try.sizeOf58
 v25 := Try.zeroValue58
 t39 := Try.underlying90
 a39 := Try.isAgg90
 z39 := Try.sizeOf90
 v39 := Try.zeroValue90
 t45 := Try.underlying105
 a45 := Try.isAgg105
 z45 := Try.sizeOf105
 v45 := Try.zeroValue105
 t46 := Try.underlying106
 a46 := Try.isAgg106
 z46 := Try.sizeOf106
 v46 := Try.zeroValue106
 t50 := Try.underlying49
 a50 := Try.isAgg49
 z50 := Try.sizeOf49
 v50 := Try.zeroValue49
 t53 := Try.underlying112
 a53 := Try.isAgg112
 z53 := Try.sizeOf112
 v53 := Try.zeroValue112
 t55 := Try.underlying102
 a55 := Try.isAgg102
 z55 := Try.sizeOf102
 v55 := Try.zeroValue102
 t66 := Try.underlying125
 a66 := Try.isAgg125
 z66 := Try.sizeOf125
 v66 := Try.zeroValue125
 t70 := Try.underlying129
 a70 := Try.isAgg129
 z70 := Try.sizeOf129
 v70 := Try.zeroValue129
 t76 := Try.underlying139
 a76 := Try.isAgg139
 z76 := Try.sizeOf139
 v76 := Try.zeroValue139
 t77 := Try.underlying140
 a77 := Try.isAgg140
 z77 := Try.sizeOf140
 v77 := Try.zeroValue140 }
theorem contractSortL {g : FuncId} (eg : ∀ args w, (callFunc g args).run Try.prog w = .ok (.enter g args) w) : SortContract1 Try.prog 30 g :=
 fun α _ enc cf cb blk off cap d w h1 hO hc hH hb hs => Any.slices_SortFunc laysSortL enc h1 cf hO g cb blk off cap d w eg hc hH hb hs
theorem noneSortL (p : Option Addr) (cap : Nat) (fv : Value) (w : World) : Calls Try.prog 30 #[.slice p 0 cap, fv] w fun e w' => e = .returned (.tuple #[]) ∧ w' = w := AnyF.slices_SortFunc_none { laysSortL with } p cap fv w
end Go.Proofs.Ytndmnfmpbcecaaa
