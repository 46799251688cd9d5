import Derived.Test.YtkhmlbchphhokaaGreatSc10cimkabma
import Derived.Test.YtkhmlbchphhokaaGreatProg
import Derived.Test.YtkhmlbchphhokaaGreatChecked
import Derived.KernelRfl
import Derived.Shelf.Sort.Plain
import Derived.Shelf.Slices.In.SortNone
set_option linter.all false
namespace Go.Proofs.YtkhmlbchphhokaaGreat
open Go Go.Shelf Go.Eng
def sortLays_ren : Go.Shelf.Ren := ⟨fun | 189 => 90 | 125 => 121 | 257 => 132 | 128 => 159 | 129 => 160 | 294 => 174 | 295 => 175 | 296 => 176 | 297 => 177 | 298 => 178 | 299 => 179 | 216 => 180 | 300 => 181 | 301 => 182 | 328 => 211 | 329 => 200 | 330 => 201 | 331 => 212 | 332 => 213 | 215 => 122 | 343 => 227 | n => n, fun | 28 => 25 | 3 => 3 | 46 => 152 | 0 => 0 | 51 => 159 | 53 => 155 | 4 => 4 | 183 => 178 | 182 => 177 | 131 => 126 | 5 => 5 | 9 => 9 | 218 => 201 | 222 => 205 | 228 => 222 | 229 => 223 | n => n, fun | n => n⟩
theorem sortLays : Go.Proofs.Lays.n189 Tryz.prog sortLays_ren := {
 mixed := by kernel_rfl
 f125 := Tryz.func121.trans (congrArg some (by kernel_rfl))
 f128 := Tryz.func159.trans (congrArg some (by kernel_rfl))
 f129 := Tryz.func160.trans (congrArg some (by kernel_rfl))
 f189 := Tryz.func90.trans (congrArg some (by kernel_rfl))
 f215 := Tryz.func122.trans (congrArg some (by kernel_rfl))
 f216 := Tryz.func180.trans (congrArg some (by kernel_rfl))
 f257 := Tryz.func132.trans (congrArg some (by kernel_rfl))
 f294 := Tryz.func174.trans (congrArg some (by kernel_rfl))
 f295 := Tryz.func175.trans (congrArg some (by kernel_rfl))
 f296 := Tryz.func176.trans (congrArg some (by kernel_rfl))
 f297 := Tryz.func177.trans (congrArg some (by kernel_rfl))
 f298 := Tryz.func178.trans (congrArg some (by kernel_rfl))
 f299 := Tryz.func179.trans (congrArg some (by kernel_rfl))
 f300 := Tryz.func181.trans (congrArg some (by kernel_rfl))
 f301 := Tryz.func182.trans (congrArg some (by kernel_rfl))
 f328 := Tryz.func211.trans (congrArg some (by kernel_rfl))
 f329 := Tryz.func200.trans (congrArg some (by kernel_rfl))
 f330 := Tryz.func201.trans (congrArg some (by kernel_rfl))
 f331 := Tryz.func212.trans (congrArg some (by kernel_rfl))
 f332 := Tryz.func213.trans (congrArg some (by kernel_rfl))
 f343 := Tryz.func227.trans (congrArg some (by kernel_rfl))
 t0 := Tryz.underlying0
 a0 := Tryz.isAgg0
 z0 := Tryz.sizeOf0
 v0 := Tryz.zeroValue0
 t3 := Tryz.underlying3
 a3 := Tryz.isAgg3
 z3 := Tryz.sizeOf3
 v3 := Tryz.zeroValue3
 t4 := Tryz.underlying4
 a4 := Tryz.isAgg4
 z4 := Tryz.sizeOf4
 v4 := Tryz.zeroValue4
 t5 := Tryz.underlying5
 a5 := Tryz.isAgg5
 z5 := Tryz.sizeOf5
 v5 := Tryz.zeroValue5
 t9 := Tryz.underlying9
 a9 := Tryz.isAgg9
 z9 := Tryz.sizeOf9
 v9 := Tryz.zeroValue9
 t28 := Tryz.underlying25
 a28 := Tryz.isAgg25
 z28 := Tryz.sizeOf25
 v28 := Tryz.zeroValue25
 t46 := Tryz.underlying152
 a46 := Tryz.isAgg152
 z46 := Tryz.sizeOf152
 v46 := Tryz.zeroValue152
 t51 := Tryz.underlying159
 a51 := Tryz.isAgg159
 z51 := Tryz.sizeOf159
 v51 := Tryz.zeroValue159
 t53 := Tryz.underlying155
 a53 := Tryz.isAgg155
 z53 := Tryz.sizeOf155
 v53 := Tryz.zeroValue155
 t131 := Tryz.underlying126
 a131 := Tryz.isAgg126
 z131 := Tryz.sizeOf126
 v131 := Tryz.zeroValue126
 t182 := Tryz.underlying177
 a182 := Tryz.isAgg177
 z182 := Tryz.sizeOf177
 v182 := Tryz.zeroValue177
 t183 := Tryz.underlying178
 a183 := Tryz.isAgg178
 z183 := Tryz.sizeOf178
 v183 := Tryz.zeroValue178
 t218 := Tryz.underlying201
 a218 := Tryz.isAgg201
 z218 := Tryz.sizeOf201
 v218 := Tryz.zeroValue201
 t222 := Tryz.underlying205
 a222 := Tryz.isAgg205
 z222 := Tryz.sizeOf205
 v222 := Tryz.zeroValue205
 t228 := Tryz.underlying222
 a228 := Tryz.isAgg222
 z228 := Tryz.sizeOf222
 v228 := Tryz.zeroValue222
 t229 := Tryz.underlying223
 a229 := Tryz.isAgg223
 z229 := Tryz.sizeOf223
 v229 := Tryz.zeroValue223 }
theorem sort_fn {K : Nat} {zs : List Int} (hz : decide (zs.length < 4611686018427387904) = true) : FnMut K Tryz.prog 90 [.hs 0 0 zs.length 1] [.own (zs.flatMap (iC .i64))] (packA []) [.own ((Go.L.isrt zs).flatMap (iC .i64))] :=
 sort_mut (fun blk off cap zs w h1 h2 h3 => Any.slices_Sort_int sortLays blk off cap zs w h1 h2 h3) (fun p cap w => Any.slices_Sort_int_none sortLays p cap w) hz
end Go.Proofs.YtkhmlbchphhokaaGreat
