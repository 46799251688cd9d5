import Derived.Test.YtjpoeeeifgomiaaGreatSc10jabpapln
import Derived.Test.YtjpoeeeifgomiaaGreatProg
import Derived.Test.YtjpoeeeifgomiaaGreatChecked
import Derived.KernelRfl
import Derived.Shelf.Sort.Plain
import Derived.Shelf.Slices.In.SortNone
set_option linter.all false
namespace Go.Proofs.YtjpoeeeifgomiaaGreat
open Go Go.Shelf Go.Eng
def sortLays_ren : Go.Shelf.Ren := ⟨fun | 189 => 127 | 125 => 131 | 257 => 149 | 128 => 158 | 129 => 159 | 294 => 168 | 295 => 169 | 296 => 170 | 297 => 171 | 298 => 172 | 299 => 173 | 216 => 174 | 300 => 175 | 301 => 176 | 328 => 188 | 329 => 178 | 330 => 179 | 331 => 189 | 332 => 190 | 215 => 122 | 343 => 194 | n => n, fun | 28 => 30 | 3 => 3 | 46 => 155 | 0 => 0 | 51 => 142 | 53 => 136 | 4 => 4 | 183 => 169 | 182 => 168 | 131 => 173 | 5 => 5 | 9 => 9 | 218 => 185 | 222 => 189 | 228 => 201 | 229 => 202 | n => n, fun | n => n⟩
theorem sortLays : Go.Proofs.Lays.n189 Tryz.prog sortLays_ren := {
 mixed := by kernel_rfl
 f125 := Tryz.func131.trans (congrArg some (by kernel_rfl))
 f128 := Tryz.func158.trans (congrArg some (by kernel_rfl))
 f129 := Tryz.func159.trans (congrArg some (by kernel_rfl))
 f189 := Tryz.func127.trans (congrArg some (by kernel_rfl))
 f215 := Tryz.func122.trans (congrArg some (by kernel_rfl))
 f216 := Tryz.func174.trans (congrArg some (by kernel_rfl))
 f257 := Tryz.func149.trans (congrArg some (by kernel_rfl))
 f294 := Tryz.func168.trans (congrArg some (by kernel_rfl))
 f295 := Tryz.func169.trans (congrArg some (by kernel_rfl))
 f296 := Tryz.func170.trans (congrArg some (by kernel_rfl))
 f297 := Tryz.func171.trans (congrArg some (by kernel_rfl))
 f298 := Tryz.func172.trans (congrArg some (by kernel_rfl))
 f299 := Tryz.func173.trans (congrArg some (by kernel_rfl))
 f300 := Tryz.func175.trans (congrArg some (by kernel_rfl))
 f301 := Tryz.func176.trans (congrArg some (by kernel_rfl))
 f328 := Tryz.func188.trans (congrArg some (by kernel_rfl))
 f329 := Tryz.func178.trans (congrArg some (by kernel_rfl))
 f330 := Tryz.func179.trans (congrArg some (by kernel_rfl))
 f331 := Tryz.func189.trans (congrArg some (by kernel_rfl))
 f332 := Tryz.func190.trans (congrArg some (by kernel_rfl))
 f343 := Tryz.func194.trans (congrArg some (by kernel_rfl))
 t0 := Tryz.underlying0
 a0 := Tryz.isAgg0
 z0 := Tryz.sizeOf0
 v0 := Tryz.zeroValue0
 t3 := Tryz.underlying3
 a3 := Tryz.isAgg3
 z3 := Tryz.sizeOf3
 v3 := Tryz.zeroValue3
 t4 := Tryz.underlying4
 a4 := Tryz.isAgg4
 z4 := Tryz.sizeOf4
 v4 := Tryz.zeroValue4
 t5 := Tryz.underlying5
 a5 := Tryz.isAgg5
 z5 := Tryz.sizeOf5
 v5 := Tryz.zeroValue5
 t9 := Tryz.underlying9
 a9 := Tryz.isAgg9
 z9 := Tryz.sizeOf9
 v9 := Tryz.zeroValue9
 t28 := Tryz.underlying30
 a28 := Tryz.isAgg30
 z28 := Tryz.sizeOf30
 v28 := Tryz.zeroValue30
 t46 := Tryz.underlying155
 a46 := Tryz.isAgg155
 z46 := Tryz.sizeOf155
 v46 := Tryz.zeroValue155
 t51 := Tryz.underlying142
 a51 := Tryz.isAgg142
 z51 := Tryz.sizeOf142
 v51 := Tryz.zeroValue142
 t53 := Tryz.underlying136
 a53 := Tryz.isAgg136
 z53 := Tryz.sizeOf136
 v53 := Tryz.zeroValue136
 t131 := Tryz.underlying173
 a131 := Tryz.isAgg173
 z131 := Tryz.sizeOf173
 v131 := Tryz.zeroValue173
 t182 := Tryz.underlying168
 a182 := Tryz.isAgg168
 z182 := Tryz.sizeOf168
 v182 := Tryz.zeroValue168
 t183 := Tryz.underlying169
 a183 := Tryz.isAgg169
 z183 := Tryz.sizeOf169
 v183 := Tryz.zeroValue169
 t218 := Tryz.underlying185
 a218 := Tryz.isAgg185
 z218 := Tryz.sizeOf185
 v218 := Tryz.zeroValue185
 t222 := Tryz.underlying189
 a222 := Tryz.isAgg189
 z222 := Tryz.sizeOf189
 v222 := Tryz.zeroValue189
 t228 := Tryz.underlying201
 a228 := Tryz.isAgg201
 z228 := Tryz.sizeOf201
 v228 := Tryz.zeroValue201
 t229 := Tryz.underlying202
 a229 := Tryz.isAgg202
 z229 := Tryz.sizeOf202
 v229 := Tryz.zeroValue202 }
theorem sort_fn {K : Nat} {zs : List Int} (hz : decide (zs.length < 4611686018427387904) = true) : FnMut K Tryz.prog 127 [.hs 0 0 zs.length 1] [.own (zs.flatMap (iC .i64))] (packA []) [.own ((Go.L.isrt zs).flatMap (iC .i64))] :=
 sort_mut (fun blk off cap zs w h1 h2 h3 => Any.slices_Sort_int sortLays blk off cap zs w h1 h2 h3) (fun p cap w => Any.slices_Sort_int_none sortLays p cap w) hz
end Go.Proofs.YtjpoeeeifgomiaaGreat
