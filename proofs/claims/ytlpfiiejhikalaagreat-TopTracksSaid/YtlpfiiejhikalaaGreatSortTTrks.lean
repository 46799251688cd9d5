import Derived.Test.YtlpfiiejhikalaaGreatSc17Trks
import Derived.Test.YtlpfiiejhikalaaGreatProg
import Derived.Test.YtlpfiiejhikalaaGreatChecked
import Derived.KernelRfl
import Derived.Shelf.SlSortCmp.WholeK
import Derived.Shelf.SlSortCmp.NoneTotal
set_option linter.all false
namespace Go.Proofs.YtlpfiiejhikalaaGreat
open Go Go.Shelf Go.Eng
def rR : Go.Shelf.Ren := ⟨fun | 6 => 50 | 14 => 65 | 15 => 62 | 20 => 81 | 21 => 82 | 22 => 83 | 23 => 84 | 24 => 85 | 25 => 86 | 26 => 87 | 27 => 88 | 28 => 79 | 29 => 80 | 46 => 105 | 47 => 100 | 48 => 101 | 49 => 106 | 50 => 107 | 57 => 113 | n => n, fun | 0 => 0 | 3 => 3 | 4 => 4 | 5 => 5 | 9 => 9 | 22 => 43 | 25 => 113 | 39 => 127 | 45 => 136 | 46 => 137 | 50 => 103 | 53 => 144 | 55 => 76 | 66 => 156 | 70 => 160 | 76 => 166 | 77 => 88 | 24 => 52 | n => n, fun | n => n⟩
theorem sQ : Go.Proofs.SlLaysF0.n6 Tryz.prog rR := {
 mixed := by kernel_rfl
 f6 := ⟨Tryz.f50.name, by kernel_rfl, Tryz.func50.trans (congrArg some (by kernel_rfl))⟩
 f14 := ⟨Tryz.f65.name, by kernel_rfl, Tryz.func65.trans (congrArg some (by kernel_rfl))⟩
 f15 := Tryz.func62.trans (congrArg some (by kernel_rfl))
 f20 := ⟨Tryz.f81.name, by kernel_rfl, Tryz.func81.trans (congrArg some (by kernel_rfl))⟩
 f21 := ⟨Tryz.f82.name, by kernel_rfl, Tryz.func82.trans (congrArg some (by kernel_rfl))⟩
 f22 := ⟨Tryz.f83.name, by kernel_rfl, Tryz.func83.trans (congrArg some (by kernel_rfl))⟩
 f23 := ⟨Tryz.f84.name, by kernel_rfl, Tryz.func84.trans (congrArg some (by kernel_rfl))⟩
 f24 := ⟨Tryz.f85.name, by kernel_rfl, Tryz.func85.trans (congrArg some (by kernel_rfl))⟩
 f25 := ⟨Tryz.f86.name, by kernel_rfl, Tryz.func86.trans (congrArg some (by kernel_rfl))⟩
 f26 := ⟨Tryz.f87.name, by kernel_rfl, Tryz.func87.trans (congrArg some (by kernel_rfl))⟩
 f27 := ⟨Tryz.f88.name, by kernel_rfl, Tryz.func88.trans (congrArg some (by kernel_rfl))⟩
 f28 := Tryz.func79.trans (congrArg some (by kernel_rfl))
 f29 := Tryz.func80.trans (congrArg some (by kernel_rfl))
 f46 := ⟨Tryz.f105.name, by kernel_rfl, Tryz.func105.trans (congrArg some (by kernel_rfl))⟩
 f47 := Tryz.func100.trans (congrArg some (by kernel_rfl))
 f48 := Tryz.func101.trans (congrArg some (by kernel_rfl))
 f49 := ⟨Tryz.f106.name, by kernel_rfl, Tryz.func106.trans (congrArg some (by kernel_rfl))⟩
 f50 := ⟨Tryz.f107.name, by kernel_rfl, Tryz.func107.trans (congrArg some (by kernel_rfl))⟩
 f57 := ⟨Tryz.f113.name, by kernel_rfl, Tryz.func113.trans (congrArg some (by kernel_rfl))⟩
 t0 := Tryz.underlying0
 a0 := Tryz.isAgg0
 z0 := Tryz.sizeOf0
 v0 := Tryz.zeroValue0
 t3 := Tryz.underlying3
 a3 := Tryz.isAgg3
 z3 := Tryz.sizeOf3
 v3 := Tryz.zeroValue3
 t4 := Tryz.underlying4
 a4 := Tryz.isAgg4
 z4 := Tryz.sizeOf4
 v4 := Tryz.zeroValue4
 t5 := Tryz.underlying5
 a5 := Tryz.isAgg5
 z5 := Tryz.sizeOf5
 v5 := Tryz.zeroValue5
 t9 := Tryz.underlying9
 a9 := Tryz.isAgg9
 z9 := Tryz.sizeOf9
 v9 := Tryz.zeroValue9
 t22 := Tryz.underlying43
 a22 := Tryz.isAgg43
 z22 := Tryz.sizeOf43
 v22 := Tryz.zeroValue43
 t25 := Tryz.underlying113
 a25 := Tryz.isAgg113
 z25 := Tryz.sizeOf113
 v25 := Tryz.zeroValue113
 t39 := Tryz.underlying127
 a39 := Tryz.isAgg127
 z39 := Tryz.sizeOf127
 v39 := Tryz.zeroValue127
 t45 := Tryz.underlying136
 a45 := Tryz.isAgg136
 z45 := Tryz.sizeOf136
 v45 := Tryz.zeroValue136
 t46 := Tryz.underlying137
 a46 := Tryz.isAgg137
 z46 := Tryz.sizeOf137
 v46 := Tryz.zeroValue137
 t50 := Tryz.underlying103
 a50 := Tryz.isAgg103
 z50 := Tryz.sizeOf103
 v50 := Tryz.zeroValue103
 t53 := Tryz.underlying144
 a53 := Tryz.isAgg144
 z53 := Tryz.sizeOf144
 v53 := Tryz.zeroValue144
 t55 := Tryz.underlying76
 a55 := Tryz.isAgg76
 z55 := Tryz.sizeOf76
 v55 := Tryz.zeroValue76
 t66 := Tryz.underlying156
 a66 := Tryz.isAgg156
 z66 := Tryz.sizeOf156
 v66 := Tryz.zeroValue156
 t70 := Tryz.underlying160
 a70 := Tryz.isAgg160
 z70 := Tryz.sizeOf160
 v70 := Tryz.zeroValue160
 t76 := Tryz.underlying166
 a76 := Tryz.isAgg166
 z76 := Tryz.sizeOf166
 v76 := Tryz.zeroValue166
 t77 := Tryz.underlying88
 a77 := Tryz.isAgg88
 z77 := Tryz.sizeOf88
 v77 := Tryz.zeroValue88 }
theorem rN {g : FuncId} (eg : ∀ args w, (callFunc g args).run Tryz.prog w = .ok (.enter g args) w) : jK Tryz.prog 50 g 5 :=
 fun α _ enc cf cb blk off cap d w hk h1 hO hc hH hb hs => AnyQ.slices_SortFunc sQ 5 Tryz.isAgg52 Tryz.sizeOf52 enc hk h1 cf hO g cb blk off cap d w eg hc hH hb hs
theorem yb (p : Option Addr) (cap : Nat) (fv : Value) (w : World) : Calls Tryz.prog 50 #[.slice p 0 cap, fv] w fun e w' => e = .returned (.tuple #[]) /\ w' = w := AnyF.slices_SortFunc_none sQ p cap fv w
end Go.Proofs.YtlpfiiejhikalaaGreat
