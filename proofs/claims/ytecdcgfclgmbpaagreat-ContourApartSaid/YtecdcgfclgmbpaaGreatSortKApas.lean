import Derived.Test.YtecdcgfclgmbpaaGreatSc16Apas
import Derived.Test.YtecdcgfclgmbpaaGreatProg
import Derived.Test.YtecdcgfclgmbpaaGreatChecked
import Derived.KernelRfl
import Derived.Shelf.SlSortCmp.WholeK
import Derived.Shelf.SlSortCmp.NoneTotal
set_option linter.all false
namespace Go.Proofs.YtecdcgfclgmbpaaGreat
open Go Go.Shelf Go.Eng
def wN : Go.Shelf.Ren := ⟨fun | 6 => 92 | 14 => 130 | 15 => 98 | 20 => 164 | 21 => 165 | 22 => 166 | 23 => 167 | 24 => 168 | 25 => 169 | 26 => 170 | 27 => 171 | 28 => 140 | 29 => 141 | 46 => 193 | 47 => 173 | 48 => 174 | 49 => 194 | 50 => 195 | 57 => 204 | n => n, fun | 0 => 0 | 3 => 3 | 4 => 4 | 5 => 5 | 9 => 9 | 22 => 129 | 25 => 100 | 39 => 137 | 45 => 158 | 46 => 159 | 50 => 56 | 53 => 152 | 55 => 151 | 66 => 181 | 70 => 185 | 76 => 201 | 77 => 202 | 24 => 101 | n => n, fun | n => n⟩
theorem xf : Go.Proofs.SlLaysF0.n6 Tryz.prog wN := {
 mixed := by kernel_rfl
 f6 := ⟨Tryz.f92.name, by kernel_rfl, Tryz.func92.trans (congrArg some (by kernel_rfl))⟩
 f14 := ⟨Tryz.f130.name, by kernel_rfl, Tryz.func130.trans (congrArg some (by kernel_rfl))⟩
 f15 := Tryz.func98.trans (congrArg some (by kernel_rfl))
 f20 := ⟨Tryz.f164.name, by kernel_rfl, Tryz.func164.trans (congrArg some (by kernel_rfl))⟩
 f21 := ⟨Tryz.f165.name, by kernel_rfl, Tryz.func165.trans (congrArg some (by kernel_rfl))⟩
 f22 := ⟨Tryz.f166.name, by kernel_rfl, Tryz.func166.trans (congrArg some (by kernel_rfl))⟩
 f23 := ⟨Tryz.f167.name, by kernel_rfl, Tryz.func167.trans (congrArg some (by kernel_rfl))⟩
 f24 := ⟨Tryz.f168.name, by kernel_rfl, Tryz.func168.trans (congrArg some (by kernel_rfl))⟩
 f25 := ⟨Tryz.f169.name, by kernel_rfl, Tryz.func169.trans (congrArg some (by kernel_rfl))⟩
 f26 := ⟨Tryz.f170.name, by kernel_rfl, Tryz.func170.trans (congrArg some (by kernel_rfl))⟩
 f27 := ⟨Tryz.f171.name, by kernel_rfl, Tryz.func171.trans (congrArg some (by kernel_rfl))⟩
 f28 := Tryz.func140.trans (congrArg some (by kernel_rfl))
 f29 := Tryz.func141.trans (congrArg some (by kernel_rfl))
 f46 := ⟨Tryz.f193.name, by kernel_rfl, Tryz.func193.trans (congrArg some (by kernel_rfl))⟩
 f47 := Tryz.func173.trans (congrArg some (by kernel_rfl))
 f48 := Tryz.func174.trans (congrArg some (by kernel_rfl))
 f49 := ⟨Tryz.f194.name, by kernel_rfl, Tryz.func194.trans (congrArg some (by kernel_rfl))⟩
 f50 := ⟨Tryz.f195.name, by kernel_rfl, Tryz.func195.trans (congrArg some (by kernel_rfl))⟩
 f57 := ⟨Tryz.f204.name, by kernel_rfl, Tryz.func204.trans (congrArg some (by kernel_rfl))⟩
 t0 := Tryz.underlying0
 a0 := Tryz.isAgg0
 z0 := Tryz.sizeOf0
 v0 := Tryz.zeroValue0
 t3 := Tryz.underlying3
 a3 := Tryz.isAgg3
 z3 := Tryz.sizeOf3
 v3 := Tryz.zeroValue3
 t4 := Tryz.underlying4
 a4 := Tryz.isAgg4
 z4 := Tryz.sizeOf4
 v4 := Tryz.zeroValue4
 t5 := Tryz.underlying5
 a5 := Tryz.isAgg5
 z5 := Tryz.sizeOf5
 v5 := Tryz.zeroValue5
 t9 := Tryz.underlying9
 a9 := Tryz.isAgg9
 z9 := Tryz.sizeOf9
 v9 := Tryz.zeroValue9
 t22 := Tryz.underlying129
 a22 := Tryz.isAgg129
 z22 := Tryz.sizeOf129
 v22 := Tryz.zeroValue129
 t25 := Tryz.underlying100
 a25 := Tryz.isAgg100
 z25 := Tryz.sizeOf100
 v25 := Tryz.zeroValue100
 t39 := Tryz.underlying137
 a39 := Tryz.isAgg137
 z39 := Tryz.sizeOf137
 v39 := Tryz.zeroValue137
 t45 := Tryz.underlying158
 a45 := Tryz.isAgg158
 z45 := Tryz.sizeOf158
 v45 := Tryz.zeroValue158
 t46 := Tryz.underlying159
 a46 := Tryz.isAgg159
 z46 := Tryz.sizeOf159
 v46 := Tryz.zeroValue159
 t50 := Tryz.underlying56
 a50 := Tryz.isAgg56
 z50 := Tryz.sizeOf56
 v50 := Tryz.zeroValue56
 t53 := Tryz.underlying152
 a53 := Tryz.isAgg152
 z53 := Tryz.sizeOf152
 v53 := Tryz.zeroValue152
 t55 := Tryz.underlying151
 a55 := Tryz.isAgg151
 z55 := Tryz.sizeOf151
 v55 := Tryz.zeroValue151
 t66 := Tryz.underlying181
 a66 := Tryz.isAgg181
 z66 := Tryz.sizeOf181
 v66 := Tryz.zeroValue181
 t70 := Tryz.underlying185
 a70 := Tryz.isAgg185
 z70 := Tryz.sizeOf185
 v70 := Tryz.zeroValue185
 t76 := Tryz.underlying201
 a76 := Tryz.isAgg201
 z76 := Tryz.sizeOf201
 v76 := Tryz.zeroValue201
 t77 := Tryz.underlying202
 a77 := Tryz.isAgg202
 z77 := Tryz.sizeOf202
 v77 := Tryz.zeroValue202 }
theorem wR {g : FuncId} (eg : ∀ args w, (callFunc g args).run Tryz.prog w = .ok (.enter g args) w) : ml Tryz.prog 92 g 2 :=
 fun α _ enc cf cb blk off cap d w hk h1 hO hc hH hb hs => AnyQ.slices_SortFunc xf 2 Tryz.isAgg101 Tryz.sizeOf101 enc hk h1 cf hO g cb blk off cap d w eg hc hH hb hs
theorem CX (p : Option Addr) (cap : Nat) (fv : Value) (w : World) : Calls Tryz.prog 92 #[.slice p 0 cap, fv] w fun e w' => e = .returned (.tuple #[]) /\ w' = w := AnyF.slices_SortFunc_none xf p cap fv w
end Go.Proofs.YtecdcgfclgmbpaaGreat
