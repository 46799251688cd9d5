import Derived.Test.YtlpfiiejhikalaaGreatSc17Trks
import Derived.Test.YtlpfiiejhikalaaGreatProg
import Derived.Test.YtlpfiiejhikalaaGreatChecked
import Derived.KernelRfl
import Derived.Shelf.SlSortCmp.WholeK
import Derived.Shelf.SlSortCmp.NoneTotal
set_option linter.all false
namespace Go.Proofs.YtlpfiiejhikalaaGreat
open Go Go.Shelf Go.Eng
def rU : Go.Shelf.Ren := ⟨fun | 6 => 55 | 14 => 66 | 15 => 62 | 20 => 89 | 21 => 90 | 22 => 91 | 23 => 92 | 24 => 93 | 25 => 94 | 26 => 95 | 27 => 96 | 28 => 79 | 29 => 80 | 46 => 108 | 47 => 100 | 48 => 101 | 49 => 109 | 50 => 110 | 57 => 114 | n => n, fun | 0 => 0 | 3 => 3 | 4 => 4 | 5 => 5 | 9 => 9 | 22 => 59 | 25 => 117 | 39 => 127 | 45 => 136 | 46 => 137 | 50 => 103 | 53 => 144 | 55 => 76 | 66 => 156 | 70 => 160 | 76 => 166 | 77 => 88 | 24 => 50 | n => n, fun | n => n⟩
theorem r8 : Go.Proofs.SlLaysF0.n6 Tryz.prog rU := {
 mixed := by kernel_rfl
 f6 := ⟨Tryz.f55.name, by kernel_rfl, Tryz.func55.trans (congrArg some (by kernel_rfl))⟩
 f14 := ⟨Tryz.f66.name, by kernel_rfl, Tryz.func66.trans (congrArg some (by kernel_rfl))⟩
 f15 := Tryz.func62.trans (congrArg some (by kernel_rfl))
 f20 := ⟨Tryz.f89.name, by kernel_rfl, Tryz.func89.trans (congrArg some (by kernel_rfl))⟩
 f21 := ⟨Tryz.f90.name, by kernel_rfl, Tryz.func90.trans (congrArg some (by kernel_rfl))⟩
 f22 := ⟨Tryz.f91.name, by kernel_rfl, Tryz.func91.trans (congrArg some (by kernel_rfl))⟩
 f23 := ⟨Tryz.f92.name, by kernel_rfl, Tryz.func92.trans (congrArg some (by kernel_rfl))⟩
 f24 := ⟨Tryz.f93.name, by kernel_rfl, Tryz.func93.trans (congrArg some (by kernel_rfl))⟩
 f25 := ⟨Tryz.f94.name, by kernel_rfl, Tryz.func94.trans (congrArg some (by kernel_rfl))⟩
 f26 := ⟨Tryz.f95.name, by kernel_rfl, Tryz.func95.trans (congrArg some (by kernel_rfl))⟩
 f27 := ⟨Tryz.f96.name, by kernel_rfl, Tryz.func96.trans (congrArg some (by kernel_rfl))⟩
 f28 := Tryz.func79.trans (congrArg some (by kernel_rfl))
 f29 := Tryz.func80.trans (congrArg some (by kernel_rfl))
 f46 := ⟨Tryz.f108.name, by kernel_rfl, Tryz.func108.trans (congrArg some (by kernel_rfl))⟩
 f47 := Tryz.func100.trans (congrArg some (by kernel_rfl))
 f48 := Tryz.func101.trans (congrArg some (by kernel_rfl))
 f49 := ⟨Tryz.f109.name, by kernel_rfl, Tryz.func109.trans (congrArg some (by kernel_rfl))⟩
 f50 := ⟨Tryz.f110.name, by kernel_rfl, Tryz.func110.trans (congrArg some (by kernel_rfl))⟩
 f57 := ⟨Tryz.f114.name, by kernel_rfl, Tryz.func114.trans (congrArg some (by kernel_rfl))⟩
 t0 := Tryz.underlying0
 a0 := Tryz.isAgg0
 z0 := Tryz.sizeOf0
 v0 := Tryz.zeroValue0
 t3 := Tryz.underlying3
 a3 := Tryz.isAgg3
 z3 := Tryz.sizeOf3
 v3 := Tryz.zeroValue3
 t4 := Tryz.underlying4
 a4 := Tryz.isAgg4
 z4 := Tryz.sizeOf4
 v4 := Tryz.zeroValue4
 t5 := Tryz.underlying5
 a5 := Tryz.isAgg5
 z5 := Tryz.sizeOf5
 v5 := Tryz.zeroValue5
 t9 := Tryz.underlying9
 a9 := Tryz.isAgg9
 z9 := Tryz.sizeOf9
 v9 := Tryz.zeroValue9
 t22 := Tryz.underlying59
 a22 := Tryz.isAgg59
 z22 := Tryz.sizeOf59
 v22 := Tryz.zeroValue59
 t25 := Tryz.underlying117
 a25 := Tryz.isAgg117
 z25 := Tryz.sizeOf117
 v25 := Tryz.zeroValue117
 t39 := Tryz.underlying127
 a39 := Tryz.isAgg127
 z39 := Tryz.sizeOf127
 v39 := Tryz.zeroValue127
 t45 := Tryz.underlying136
 a45 := Tryz.isAgg136
 z45 := Tryz.sizeOf136
 v45 := Tryz.zeroValue136
 t46 := Tryz.underlying137
 a46 := Tryz.isAgg137
 z46 := Tryz.sizeOf137
 v46 := Tryz.zeroValue137
 t50 := Tryz.underlying103
 a50 := Tryz.isAgg103
 z50 := Tryz.sizeOf103
 v50 := Tryz.zeroValue103
 t53 := Tryz.underlying144
 a53 := Tryz.isAgg144
 z53 := Tryz.sizeOf144
 v53 := Tryz.zeroValue144
 t55 := Tryz.underlying76
 a55 := Tryz.isAgg76
 z55 := Tryz.sizeOf76
 v55 := Tryz.zeroValue76
 t66 := Tryz.underlying156
 a66 := Tryz.isAgg156
 z66 := Tryz.sizeOf156
 v66 := Tryz.zeroValue156
 t70 := Tryz.underlying160
 a70 := Tryz.isAgg160
 z70 := Tryz.sizeOf160
 v70 := Tryz.zeroValue160
 t76 := Tryz.underlying166
 a76 := Tryz.isAgg166
 z76 := Tryz.sizeOf166
 v76 := Tryz.zeroValue166
 t77 := Tryz.underlying88
 a77 := Tryz.isAgg88
 z77 := Tryz.sizeOf88
 v77 := Tryz.zeroValue88 }
theorem rW {g : FuncId} (eg : ∀ args w, (callFunc g args).run Tryz.prog w = .ok (.enter g args) w) : jK Tryz.prog 55 g 2 :=
 fun α _ enc cf cb blk off cap d w hk h1 hO hc hH hb hs => AnyQ.slices_SortFunc r8 2 Tryz.isAgg50 Tryz.sizeOf50 enc hk h1 cf hO g cb blk off cap d w eg hc hH hb hs
theorem x9 (p : Option Addr) (cap : Nat) (fv : Value) (w : World) : Calls Tryz.prog 55 #[.slice p 0 cap, fv] w fun e w' => e = .returned (.tuple #[]) /\ w' = w := AnyF.slices_SortFunc_none r8 p cap fv w
end Go.Proofs.YtlpfiiejhikalaaGreat
