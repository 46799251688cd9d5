import Derived.Test.YtecdcgfclgmbpaaGreatSc16Apas
import Derived.Test.YtecdcgfclgmbpaaGreatProg
import Derived.Test.YtecdcgfclgmbpaaGreatChecked
import Derived.KernelRfl
import Derived.Shelf.SlSortCmp.WholeK
import Derived.Shelf.SlSortCmp.NoneTotal
set_option linter.all false
namespace Go.Proofs.YtecdcgfclgmbpaaGreat
open Go Go.Shelf Go.Eng
def wT : Go.Shelf.Ren := ⟨fun | 6 => 52 | 14 => 97 | 15 => 98 | 20 => 132 | 21 => 133 | 22 => 134 | 23 => 135 | 24 => 136 | 25 => 137 | 26 => 138 | 27 => 139 | 28 => 140 | 29 => 141 | 46 => 172 | 47 => 173 | 48 => 174 | 49 => 175 | 50 => 176 | 57 => 196 | n => n, fun | 0 => 0 | 3 => 3 | 4 => 4 | 5 => 5 | 9 => 9 | 22 => 27 | 25 => 103 | 39 => 137 | 45 => 158 | 46 => 159 | 50 => 56 | 53 => 152 | 55 => 151 | 66 => 181 | 70 => 185 | 76 => 201 | 77 => 202 | 24 => 35 | n => n, fun | n => n⟩
theorem xu : Go.Proofs.SlLaysF0.n6 Tryz.prog wT := {
 mixed := by kernel_rfl
 f6 := ⟨Tryz.f52.name, by kernel_rfl, Tryz.func52.trans (congrArg some (by kernel_rfl))⟩
 f14 := ⟨Tryz.f97.name, by kernel_rfl, Tryz.func97.trans (congrArg some (by kernel_rfl))⟩
 f15 := Tryz.func98.trans (congrArg some (by kernel_rfl))
 f20 := ⟨Tryz.f132.name, by kernel_rfl, Tryz.func132.trans (congrArg some (by kernel_rfl))⟩
 f21 := ⟨Tryz.f133.name, by kernel_rfl, Tryz.func133.trans (congrArg some (by kernel_rfl))⟩
 f22 := ⟨Tryz.f134.name, by kernel_rfl, Tryz.func134.trans (congrArg some (by kernel_rfl))⟩
 f23 := ⟨Tryz.f135.name, by kernel_rfl, Tryz.func135.trans (congrArg some (by kernel_rfl))⟩
 f24 := ⟨Tryz.f136.name, by kernel_rfl, Tryz.func136.trans (congrArg some (by kernel_rfl))⟩
 f25 := ⟨Tryz.f137.name, by kernel_rfl, Tryz.func137.trans (congrArg some (by kernel_rfl))⟩
 f26 := ⟨Tryz.f138.name, by kernel_rfl, Tryz.func138.trans (congrArg some (by kernel_rfl))⟩
 f27 := ⟨Tryz.f139.name, by kernel_rfl, Tryz.func139.trans (congrArg some (by kernel_rfl))⟩
 f28 := Tryz.func140.trans (congrArg some (by kernel_rfl))
 f29 := Tryz.func141.trans (congrArg some (by kernel_rfl))
 f46 := ⟨Tryz.f172.name, by kernel_rfl, Tryz.func172.trans (congrArg some (by kernel_rfl))⟩
 f47 := Tryz.func173.trans (congrArg some (by kernel_rfl))
 f48 := Tryz.func174.trans (congrArg some (by kernel_rfl))
 f49 := ⟨Tryz.f175.name, by kernel_rfl, Tryz.func175.trans (congrArg some (by kernel_rfl))⟩
 f50 := ⟨Tryz.f176.name, by kernel_rfl, Tryz.func176.trans (congrArg some (by kernel_rfl))⟩
 f57 := ⟨Tryz.f196.name, by kernel_rfl, Tryz.func196.trans (congrArg some (by kernel_rfl))⟩
 t0 := Tryz.underlying0
 a0 := Tryz.isAgg0
 z0 := Tryz.sizeOf0
 v0 := Tryz.zeroValue0
 t3 := Tryz.underlying3
 a3 := Tryz.isAgg3
 z3 := Tryz.sizeOf3
 v3 := Tryz.zeroValue3
 t4 := Tryz.underlying4
 a4 := Tryz.isAgg4
 z4 := Tryz.sizeOf4
 v4 := Tryz.zeroValue4
 t5 := Tryz.underlying5
 a5 := Tryz.isAgg5
 z5 := Tryz.sizeOf5
 v5 := Tryz.zeroValue5
 t9 := Tryz.underlying9
 a9 := Tryz.isAgg9
 z9 := Tryz.sizeOf9
 v9 := Tryz.zeroValue9
 t22 := Tryz.underlying27
 a22 := Tryz.isAgg27
 z22 := Tryz.sizeOf27
 v22 := Tryz.zeroValue27
 t25 := Tryz.underlying103
 a25 := Tryz.isAgg103
 z25 := Tryz.sizeOf103
 v25 := Tryz.zeroValue103
 t39 := Tryz.underlying137
 a39 := Tryz.isAgg137
 z39 := Tryz.sizeOf137
 v39 := Tryz.zeroValue137
 t45 := Tryz.underlying158
 a45 := Tryz.isAgg158
 z45 := Tryz.sizeOf158
 v45 := Tryz.zeroValue158
 t46 := Tryz.underlying159
 a46 := Tryz.isAgg159
 z46 := Tryz.sizeOf159
 v46 := Tryz.zeroValue159
 t50 := Tryz.underlying56
 a50 := Tryz.isAgg56
 z50 := Tryz.sizeOf56
 v50 := Tryz.zeroValue56
 t53 := Tryz.underlying152
 a53 := Tryz.isAgg152
 z53 := Tryz.sizeOf152
 v53 := Tryz.zeroValue152
 t55 := Tryz.underlying151
 a55 := Tryz.isAgg151
 z55 := Tryz.sizeOf151
 v55 := Tryz.zeroValue151
 t66 := Tryz.underlying181
 a66 := Tryz.isAgg181
 z66 := Tryz.sizeOf181
 v66 := Tryz.zeroValue181
 t70 := Tryz.underlying185
 a70 := Tryz.isAgg185
 z70 := Tryz.sizeOf185
 v70 := Tryz.zeroValue185
 t76 := Tryz.underlying201
 a76 := Tryz.isAgg201
 z76 := Tryz.sizeOf201
 v76 := Tryz.zeroValue201
 t77 := Tryz.underlying202
 a77 := Tryz.isAgg202
 z77 := Tryz.sizeOf202
 v77 := Tryz.zeroValue202 }
theorem wM {g : FuncId} (eg : ∀ args w, (callFunc g args).run Tryz.prog w = .ok (.enter g args) w) : ml Tryz.prog 52 g 2 :=
 fun α _ enc cf cb blk off cap d w hk h1 hO hc hH hb hs => AnyQ.slices_SortFunc xu 2 Tryz.isAgg35 Tryz.sizeOf35 enc hk h1 cf hO g cb blk off cap d w eg hc hH hb hs
theorem CK (p : Option Addr) (cap : Nat) (fv : Value) (w : World) : Calls Tryz.prog 52 #[.slice p 0 cap, fv] w fun e w' => e = .returned (.tuple #[]) /\ w' = w := AnyF.slices_SortFunc_none xu p cap fv w
end Go.Proofs.YtecdcgfclgmbpaaGreat
