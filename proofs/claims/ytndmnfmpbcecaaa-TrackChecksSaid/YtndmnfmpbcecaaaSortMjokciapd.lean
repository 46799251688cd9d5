import Derived.Test.YtndmnfmpbcecaaaSc17danbioaf
import Derived.Test.YtndmnfmpbcecaaaProg
import Derived.Test.YtndmnfmpbcecaaaChecked
import Derived.KernelRfl
import Derived.Shelf.SlSortCmp.WholeK
import Derived.Shelf.SlSortCmp.NoneTotal
set_option linter.all false
namespace Go.Proofs.Ytndmnfmpbcecaaa
open Go Go.Shelf Go.Eng
def laysSortM_ren : Go.Shelf.Ren := ⟨fun | 6 => 28 | 14 => 57 | 15 => 58 | 20 => 76 | 21 => 77 | 22 => 78 | 23 => 79 | 24 => 80 | 25 => 81 | 26 => 82 | 27 => 83 | 28 => 84 | 29 => 85 | 46 => 103 | 47 => 104 | 48 => 105 | 49 => 106 | 50 => 107 | 57 => 120 | n => n, fun | 0 => 0 | 3 => 3 | 4 => 4 | 5 => 5 | 9 => 9 | 22 => 37 | 25 => 56 | 39 => 90 | 45 => 105 | 46 => 106 | 50 => 49 | 53 => 112 | 55 => 102 | 66 => 125 | 70 => 129 | 76 => 139 | 77 => 140 | 24 => 29 | n => n, fun | n => n⟩
theorem laysSortM : Go.Proofs.SlLaysF0.n6 Try.prog laysSortM_ren := {
 mixed := by kernel_rfl
 f6 := ⟨Try.f28.name, by kernel_rfl, Try.func28.trans (congrArg some (by kernel_rfl))⟩
 f14 := ⟨Try.f57.name, by kernel_rfl, Try.func57.trans (congrArg some (by kernel_rfl))⟩
 f15 := Try.func58.trans (congrArg some (by kernel_rfl))
 f20 := ⟨Try.f76.name, by kernel_rfl, Try.func76.trans (congrArg some (by kernel_rfl))⟩
 f21 := ⟨Try.f77.name, by kernel_rfl, Try.func77.trans (congrArg some (by kernel_rfl))⟩
 f22 := ⟨Try.f78.name, by kernel_rfl, Try.func78.trans (congrArg some (by kernel_rfl))⟩
 f23 := ⟨Try.f79.name, by kernel_rfl, Try.func79.trans (congrArg some (by kernel_rfl))⟩
 f24 := ⟨Try.f80.name, by kernel_rfl, Try.func80.trans (congrArg some (by kernel_rfl))⟩
 f25 := ⟨Try.f81.name, by kernel_rfl, Try.func81.trans (congrArg some (by kernel_rfl))⟩
 f26 := ⟨Try.f82.name, by kernel_rfl, Try.func82.trans (congrArg some (by kernel_rfl))⟩
 f27 := ⟨Try.f83.name, by kernel_rfl, Try.func83.trans (congrArg some (by kernel_rfl))⟩
 f28 := Try.func84.trans (congrArg some (by kernel_rfl))
 f29 := Try.func85.trans (congrArg some (by kernel_rfl))
 f46 := ⟨Try.f103.name, by kernel_rfl, Try.func103.trans (congrArg some (by kernel_rfl))⟩
 f47 := Try.func104.trans (congrArg some (by kernel_rfl))
 f48 := Try.func105.trans (congrArg some (by kernel_rfl))
 f49 := ⟨Try.f106.name, by kernel_rfl, Try.func106.trans (congrArg some (by kernel_rfl))⟩
 f50 := ⟨Try.f107.name, by kernel_rfl, Try.func107.trans (congrArg some (by kernel_rfl))⟩
 f57 := ⟨Try.f120.name, by kernel_rfl, Try.func120.trans (congrArg some (by kernel_rfl))⟩
 t0 := Try.underlying0
 a0 := Try.isAgg0
 z0 := Try.sizeOf0
 v0 := Try.zeroValue0
 t3 := Try.underlying3
 a3 := Try.isAgg3
 z3 := Try.sizeOf3
 v3 := Try.zeroValue3
 t4 := Try.underlying4
 a4 := Try.isAgg4
 z4 := Try.sizeOf4
 v4 := Try.zeroValue4
 t5 := Try.underlying5
 a5 := Try.isAgg5
 z5 := Try.sizeOf5
 v5 := Try.zeroValue5
 t9 := Try.underlying9
 a9 := Try.isAgg9
 z9 := Try.sizeOf9
 v9 := Try.zeroValue9
 t22 := Try.underlying37
 a22 := Try.isAgg37
 z22 := Try.sizeOf37
 v22 := Try.zeroValue37
 t25 := Try.underlying56
 a25 := Try.isAgg56
 z25 := Try.sizeOf56
 v25 := Try.zeroValue56
 t39 := Try.underlying90
 a39 := Try.isAgg90
 z39 := Try.sizeOf90
 v39 := Try.zeroValue90
 t45 := Try.underlying105
 a45 := Try.isAgg105
 z45 := Try.sizeOf105
 v45 := Try.zeroValue105
 t46 := Try.underlying106
 a46 := Try.isAgg106
 z46 := Try.sizeOf106
 v46 := Try.zeroValue106
 t50 := Try.underlying49
 a50 := Try.isAgg49
 z50 := Try.sizeOf49
 v50 := Try.zeroValue49
 t53 := Try.underlying112
 a53 := Try.isAgg112
 z53 := Try.sizeOf112
 v53 := Try.zeroValue112
 t55 := Try.underlying102
 a55 := Try.isAgg102
 z55 := Try.sizeOf102
 v55 := Try.zeroValue102
 t66 := Try.underlying125
 a66 := Try.isAgg125
 z66 := Try.sizeOf125
 v66 := Try.zeroValue125
 t70 := Try.underlying129
 a70 := Try.isAgg129
 z70 := Try.sizeOf129
 v70 := Try.zeroValue129
 t76 := Try.underlying139
 a76 := Try.isAgg139
 z76 := Try.sizeOf139
 v76 := Try.zeroValue139
 t77 := Try.underlying140
 a77 := Try.isAgg140
 z77 := Try.sizeOf140
 v77 := Try.zeroValue140 }
theorem contractSortM {g : FuncId} (eg : ∀ args w, (callFunc g args).run Try.prog w = .ok (.enter g args) w) : SortContract Try.prog 28 g 2 :=
 fun α _ enc cf cb blk off cap d w hk h1 hO hc hH hb hs => AnyQ.slices_SortFunc laysSortM 2 Try.isAgg29 Try.sizeOf29 enc hk h1 cf hO g cb blk off cap d w eg hc hH hb hs
theorem noneSortM (p : Option Addr) (cap : Nat) (fv : Value) (w : World) : Calls Try.prog 28 #[.slice p 0 cap, fv] w fun e w' => e = .returned (.tuple #[]) ∧ w' = w := AnyF.slices_SortFunc_none laysSortM p cap fv w
end Go.Proofs.Ytndmnfmpbcecaaa
