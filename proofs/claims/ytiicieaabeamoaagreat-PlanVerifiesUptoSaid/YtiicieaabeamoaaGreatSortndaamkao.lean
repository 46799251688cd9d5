import Derived.Test.YtiicieaabeamoaaGreatSc10eodkmihc
import Derived.Test.YtiicieaabeamoaaGreatProg
import Derived.Test.YtiicieaabeamoaaGreatChecked
import Derived.KernelRfl
import Derived.Shelf.Sort.Plain
import Derived.Shelf.Slices.In.SortNone
set_option linter.all false
namespace Go.Proofs.YtiicieaabeamoaaGreat
open Go Go.Shelf Go.Eng
def sortLays_ren : Go.Shelf.Ren := ⟨fun | 189 => 93 | 125 => 110 | 257 => 117 | 128 => 137 | 129 => 138 | 294 => 139 | 295 => 140 | 296 => 141 | 297 => 142 | 298 => 143 | 299 => 144 | 216 => 145 | 300 => 146 | 301 => 147 | 328 => 161 | 329 => 157 | 330 => 158 | 331 => 162 | 332 => 163 | 215 => 92 | 343 => 171 | n => n, fun | 28 => 30 | 3 => 3 | 46 => 139 | 0 => 0 | 51 => 125 | 53 => 118 | 4 => 4 | 183 => 153 | 182 => 152 | 131 => 157 | 5 => 5 | 9 => 9 | 218 => 169 | 222 => 173 | 228 => 185 | 229 => 186 | n => n, fun | n => n⟩
theorem sortLays : Go.Proofs.Lays.n189 Tryz.prog sortLays_ren := {
 mixed := by kernel_rfl
 f125 := Tryz.func110.trans (congrArg some (by kernel_rfl))
 f128 := Tryz.func137.trans (congrArg some (by kernel_rfl))
 f129 := Tryz.func138.trans (congrArg some (by kernel_rfl))
 f189 := Tryz.func93.trans (congrArg some (by kernel_rfl))
 f215 := Tryz.func92.trans (congrArg some (by kernel_rfl))
 f216 := Tryz.func145.trans (congrArg some (by kernel_rfl))
 f257 := Tryz.func117.trans (congrArg some (by kernel_rfl))
 f294 := Tryz.func139.trans (congrArg some (by kernel_rfl))
 f295 := Tryz.func140.trans (congrArg some (by kernel_rfl))
 f296 := Tryz.func141.trans (congrArg some (by kernel_rfl))
 f297 := Tryz.func142.trans (congrArg some (by kernel_rfl))
 f298 := Tryz.func143.trans (congrArg some (by kernel_rfl))
 f299 := Tryz.func144.trans (congrArg some (by kernel_rfl))
 f300 := Tryz.func146.trans (congrArg some (by kernel_rfl))
 f301 := Tryz.func147.trans (congrArg some (by kernel_rfl))
 f328 := Tryz.func161.trans (congrArg some (by kernel_rfl))
 f329 := Tryz.func157.trans (congrArg some (by kernel_rfl))
 f330 := Tryz.func158.trans (congrArg some (by kernel_rfl))
 f331 := Tryz.func162.trans (congrArg some (by kernel_rfl))
 f332 := Tryz.func163.trans (congrArg some (by kernel_rfl))
 f343 := Tryz.func171.trans (congrArg some (by kernel_rfl))
 t0 := Tryz.underlying0
 a0 := Tryz.isAgg0
 z0 := Tryz.sizeOf0
 v0 := Tryz.zeroValue0
 t3 := Tryz.underlying3
 a3 := Tryz.isAgg3
 z3 := Tryz.sizeOf3
 v3 := Tryz.zeroValue3
 t4 := Tryz.underlying4
 a4 := Tryz.isAgg4
 z4 := Tryz.sizeOf4
 v4 := Tryz.zeroValue4
 t5 := Tryz.underlying5
 a5 := Tryz.isAgg5
 z5 := Tryz.sizeOf5
 v5 := Tryz.zeroValue5
 t9 := Tryz.underlying9
 a9 := Tryz.isAgg9
 z9 := Tryz.sizeOf9
 v9 := Tryz.zeroValue9
 t28 := Tryz.underlying30
 a28 := Tryz.isAgg30
 z28 := Tryz.sizeOf30
 v28 := Tryz.zeroValue30
 t46 := Tryz.underlying139
 a46 := Tryz.isAgg139
 z46 := Tryz.sizeOf139
 v46 := Tryz.zeroValue139
 t51 := Tryz.underlying125
 a51 := Tryz.isAgg125
 z51 := Tryz.sizeOf125
 v51 := Tryz.zeroValue125
 t53 := Tryz.underlying118
 a53 := Tryz.isAgg118
 z53 := Tryz.sizeOf118
 v53 := Tryz.zeroValue118
 t131 := Tryz.underlying157
 a131 := Tryz.isAgg157
 z131 := Tryz.sizeOf157
 v131 := Tryz.zeroValue157
 t182 := Tryz.underlying152
 a182 := Tryz.isAgg152
 z182 := Tryz.sizeOf152
 v182 := Tryz.zeroValue152
 t183 := Tryz.underlying153
 a183 := Tryz.isAgg153
 z183 := Tryz.sizeOf153
 v183 := Tryz.zeroValue153
 t218 := Tryz.underlying169
 a218 := Tryz.isAgg169
 z218 := Tryz.sizeOf169
 v218 := Tryz.zeroValue169
 t222 := Tryz.underlying173
 a222 := Tryz.isAgg173
 z222 := Tryz.sizeOf173
 v222 := Tryz.zeroValue173
 t228 := Tryz.underlying185
 a228 := Tryz.isAgg185
 z228 := Tryz.sizeOf185
 v228 := Tryz.zeroValue185
 t229 := Tryz.underlying186
 a229 := Tryz.isAgg186
 z229 := Tryz.sizeOf186
 v229 := Tryz.zeroValue186 }
theorem sort_fn {K : Nat} {zs : List Int} (hz : decide (zs.length < 4611686018427387904) = true) : FnMut K Tryz.prog 93 [.hs 0 0 zs.length 1] [.own (zs.flatMap (iC .i64))] (packA []) [.own ((Go.L.isrt zs).flatMap (iC .i64))] :=
 sort_mut (fun blk off cap zs w h1 h2 h3 => Any.slices_Sort_int sortLays blk off cap zs w h1 h2 h3) (fun p cap w => Any.slices_Sort_int_none sortLays p cap w) hz
end Go.Proofs.YtiicieaabeamoaaGreat
