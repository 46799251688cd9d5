import Derived.Test.YtiicieaabeamoaaGreatSc16mjioopgm
import Derived.Test.YtiicieaabeamoaaGreatProg
import Derived.Test.YtiicieaabeamoaaGreatChecked
import Derived.KernelRfl
import Derived.Shelf.SlSortCmp.WholeK
import Derived.Shelf.SlSortCmp.NoneTotal
set_option linter.all false
namespace Go.Proofs.YtiicieaabeamoaaGreat
open Go Go.Shelf Go.Eng
def laysSortR_ren : Go.Shelf.Ren := ⟨fun | 6 => 83 | 14 => 109 | 15 => 110 | 20 => 129 | 21 => 130 | 22 => 131 | 23 => 132 | 24 => 133 | 25 => 134 | 26 => 135 | 27 => 136 | 28 => 137 | 29 => 138 | 46 => 156 | 47 => 157 | 48 => 158 | 49 => 159 | 50 => 160 | 57 => 170 | n => n, fun | 0 => 0 | 3 => 3 | 4 => 4 | 5 => 5 | 9 => 9 | 22 => 99 | 25 => 56 | 39 => 139 | 45 => 152 | 46 => 153 | 50 => 157 | 53 => 125 | 55 => 118 | 66 => 169 | 70 => 173 | 76 => 185 | 77 => 186 | 24 => 51 | n => n, fun | n => n⟩
theorem laysSortR : Go.Proofs.SlLaysF0.n6 Tryz.prog laysSortR_ren := {
 mixed := by kernel_rfl
 f6 := ⟨Tryz.f83.name, by kernel_rfl, Tryz.func83.trans (congrArg some (by kernel_rfl))⟩
 f14 := ⟨Tryz.f109.name, by kernel_rfl, Tryz.func109.trans (congrArg some (by kernel_rfl))⟩
 f15 := Tryz.func110.trans (congrArg some (by kernel_rfl))
 f20 := ⟨Tryz.f129.name, by kernel_rfl, Tryz.func129.trans (congrArg some (by kernel_rfl))⟩
 f21 := ⟨Tryz.f130.name, by kernel_rfl, Tryz.func130.trans (congrArg some (by kernel_rfl))⟩
 f22 := ⟨Tryz.f131.name, by kernel_rfl, Tryz.func131.trans (congrArg some (by kernel_rfl))⟩
 f23 := ⟨Tryz.f132.name, by kernel_rfl, Tryz.func132.trans (congrArg some (by kernel_rfl))⟩
 f24 := ⟨Tryz.f133.name, by kernel_rfl, Tryz.func133.trans (congrArg some (by kernel_rfl))⟩
 f25 := ⟨Tryz.f134.name, by kernel_rfl, Tryz.func134.trans (congrArg some (by kernel_rfl))⟩
 f26 := ⟨Tryz.f135.name, by kernel_rfl, Tryz.func135.trans (congrArg some (by kernel_rfl))⟩
 f27 := ⟨Tryz.f136.name, by kernel_rfl, Tryz.func136.trans (congrArg some (by kernel_rfl))⟩
 f28 := Tryz.func137.trans (congrArg some (by kernel_rfl))
 f29 := Tryz.func138.trans (congrArg some (by kernel_rfl))
 f46 := ⟨Tryz.f156.name, by kernel_rfl, Tryz.func156.trans (congrArg some (by kernel_rfl))⟩
 f47 := Tryz.func157.trans (congrArg some (by kernel_rfl))
 f48 := Tryz.func158.trans (congrArg some (by kernel_rfl))
 f49 := ⟨Tryz.f159.name, by kernel_rfl, Tryz.func159.trans (congrArg some (by kernel_rfl))⟩
 f50 := ⟨Tryz.f160.name, by kernel_rfl, Tryz.func160.trans (congrArg some (by kernel_rfl))⟩
 f57 := ⟨Tryz.f170.name, by kernel_rfl, Tryz.func170.trans (congrArg some (by kernel_rfl))⟩
 t0 := Tryz.underlying0
 a0 := Tryz.isAgg0
 z0 := Tryz.sizeOf0
 v0 := Tryz.zeroValue0
 t3 := Tryz.underlying3
 a3 := Tryz.isAgg3
 z3 := Tryz.sizeOf3
 v3 := Tryz.zeroValue3
 t4 := Tryz.underlying4
 a4 := Tryz.isAgg4
 z4 := Tryz.sizeOf4
 v4 := Tryz.zeroValue4
 t5 := Tryz.underlying5
 a5 := Tryz.isAgg5
 z5 := Tryz.sizeOf5
 v5 := Tryz.zeroValue5
 t9 := Tryz.underlying9
 a9 := Tryz.isAgg9
 z9 := Tryz.sizeOf9
 v9 := Tryz.zeroValue9
 t22 := Tryz.underlying99
 a22 := Tryz.isAgg99
 z22 := Tryz.sizeOf99
 v22 := Tryz.zeroValue99
 t25 := Tryz.underlying56
 a25 := Tryz.isAgg56
 z25 := Tryz.sizeOf56
 v25 := Tryz.zeroValue56
 t39 := Tryz.underlying139
 a39 := Tryz.isAgg139
 z39 := Tryz.sizeOf139
 v39 := Tryz.zeroValue139
 t45 := Tryz.underlying152
 a45 := Tryz.isAgg152
 z45 := Tryz.sizeOf152
 v45 := Tryz.zeroValue152
 t46 := Tryz.underlying153
 a46 := Tryz.isAgg153
 z46 := Tryz.sizeOf153
 v46 := Tryz.zeroValue153
 t50 := Tryz.underlying157
 a50 := Tryz.isAgg157
 z50 := Tryz.sizeOf157
 v50 := Tryz.zeroValue157
 t53 := Tryz.underlying125
 a53 := Tryz.isAgg125
 z53 := Tryz.sizeOf125
 v53 := Tryz.zeroValue125
 t55 := Tryz.underlying118
 a55 := Tryz.isAgg118
 z55 := Tryz.sizeOf118
 v55 := Tryz.zeroValue118
 t66 := Tryz.underlying169
 a66 := Tryz.isAgg169
 z66 := Tryz.sizeOf169
 v66 := Tryz.zeroValue169
 t70 := Tryz.underlying173
 a70 := Tryz.isAgg173
 z70 := Tryz.sizeOf173
 v70 := Tryz.zeroValue173
 t76 := Tryz.underlying185
 a76 := Tryz.isAgg185
 z76 := Tryz.sizeOf185
 v76 := Tryz.zeroValue185
 t77 := Tryz.underlying186
 a77 := Tryz.isAgg186
 z77 := Tryz.sizeOf186
 v77 := Tryz.zeroValue186 }
theorem contractSortR {g : FuncId} (eg : ∀ args w, (callFunc g args).run Tryz.prog w = .ok (.enter g args) w) : SortContract Tryz.prog 83 g 4 :=
 fun α _ enc cf cb blk off cap d w hk h1 hO hc hH hb hs => AnyQ.slices_SortFunc laysSortR 4 Tryz.isAgg51 Tryz.sizeOf51 enc hk h1 cf hO g cb blk off cap d w eg hc hH hb hs
theorem noneSortR (p : Option Addr) (cap : Nat) (fv : Value) (w : World) : Calls Tryz.prog 83 #[.slice p 0 cap, fv] w fun e w' => e = .returned (.tuple #[]) ∧ w' = w := AnyF.slices_SortFunc_none laysSortR p cap fv w
end Go.Proofs.YtiicieaabeamoaaGreat
