import Derived.Test.YtlajgmapmocpbabGreatSc10phlckink
import Derived.Test.YtlajgmapmocpbabGreatProg
import Derived.Test.YtlajgmapmocpbabGreatChecked
import Derived.KernelRfl
import Derived.Shelf.Sort.Plain
import Derived.Shelf.Slices.In.SortNone
set_option linter.unusedSimpArgs false
set_option linter.unusedVariables false
namespace Go.Proofs.YtlajgmapmocpbabGreat
open Go Go.Shelf Go.Eng
def sortLays_ren : Go.Shelf.Ren := ⟨fun | 189 => 70 | 125 => 119 | 257 => 118 | 128 => 158 | 129 => 159 | 294 => 149 | 295 => 150 | 296 => 151 | 297 => 152 | 298 => 153 | 299 => 154 | 216 => 155 | 300 => 156 | 301 => 157 | 328 => 188 | 329 => 189 | 330 => 190 | 331 => 191 | 332 => 192 | 215 => 122 | 343 => 203 | n => n, fun | 28 => 52 | 3 => 3 | 46 => 112 | 0 => 0 | 51 => 159 | 53 => 135 | 4 => 4 | 183 => 168 | 182 => 167 | 131 => 172 | 5 => 5 | 9 => 9 | 218 => 191 | 222 => 195 | 228 => 207 | 229 => 208 | n => n, fun | n => n⟩
theorem sortLays : Go.Proofs.Lays.n189 Tryz.prog sortLays_ren := {
  mixed := by kernel_rfl
  f125 := Tryz.func119.trans (congrArg some (by kernel_rfl))
  f128 := Tryz.func158.trans (congrArg some (by kernel_rfl))
  f129 := Tryz.func159.trans (congrArg some (by kernel_rfl))
  f189 := Tryz.func70.trans (congrArg some (by kernel_rfl))
  f215 := Tryz.func122.trans (congrArg some (by kernel_rfl))
  f216 := Tryz.func155.trans (congrArg some (by kernel_rfl))
  f257 := Tryz.func118.trans (congrArg some (by kernel_rfl))
  f294 := Tryz.func149.trans (congrArg some (by kernel_rfl))
  f295 := Tryz.func150.trans (congrArg some (by kernel_rfl))
  f296 := Tryz.func151.trans (congrArg some (by kernel_rfl))
  f297 := Tryz.func152.trans (congrArg some (by kernel_rfl))
  f298 := Tryz.func153.trans (congrArg some (by kernel_rfl))
  f299 := Tryz.func154.trans (congrArg some (by kernel_rfl))
  f300 := Tryz.func156.trans (congrArg some (by kernel_rfl))
  f301 := Tryz.func157.trans (congrArg some (by kernel_rfl))
  f328 := Tryz.func188.trans (congrArg some (by kernel_rfl))
  f329 := Tryz.func189.trans (congrArg some (by kernel_rfl))
  f330 := Tryz.func190.trans (congrArg some (by kernel_rfl))
  f331 := Tryz.func191.trans (congrArg some (by kernel_rfl))
  f332 := Tryz.func192.trans (congrArg some (by kernel_rfl))
  f343 := Tryz.func203.trans (congrArg some (by kernel_rfl))
  t0 := Tryz.underlying0
  a0 := Tryz.isAgg0
  z0 := Tryz.sizeOf0
  v0 := Tryz.zeroValue0
  t3 := Tryz.underlying3
  a3 := Tryz.isAgg3
  z3 := Tryz.sizeOf3
  v3 := Tryz.zeroValue3
  t4 := Tryz.underlying4
  a4 := Tryz.isAgg4
  z4 := Tryz.sizeOf4
  v4 := Tryz.zeroValue4
  t5 := Tryz.underlying5
  a5 := Tryz.isAgg5
  z5 := Tryz.sizeOf5
  v5 := Tryz.zeroValue5
  t9 := Tryz.underlying9
  a9 := Tryz.isAgg9
  z9 := Tryz.sizeOf9
  v9 := Tryz.zeroValue9
  t28 := Tryz.underlying52
  a28 := Tryz.isAgg52
  z28 := Tryz.sizeOf52
  v28 := Tryz.zeroValue52
  t46 := Tryz.underlying112
  a46 := Tryz.isAgg112
  z46 := Tryz.sizeOf112
  v46 := Tryz.zeroValue112
  t51 := Tryz.underlying159
  a51 := Tryz.isAgg159
  z51 := Tryz.sizeOf159
  v51 := Tryz.zeroValue159
  t53 := Tryz.underlying135
  a53 := Tryz.isAgg135
  z53 := Tryz.sizeOf135
  v53 := Tryz.zeroValue135
  t131 := Tryz.underlying172
  a131 := Tryz.isAgg172
  z131 := Tryz.sizeOf172
  v131 := Tryz.zeroValue172
  t182 := Tryz.underlying167
  a182 := Tryz.isAgg167
  z182 := Tryz.sizeOf167
  v182 := Tryz.zeroValue167
  t183 := Tryz.underlying168
  a183 := Tryz.isAgg168
  z183 := Tryz.sizeOf168
  v183 := Tryz.zeroValue168
  t218 := Tryz.underlying191
  a218 := Tryz.isAgg191
  z218 := Tryz.sizeOf191
  v218 := Tryz.zeroValue191
  t222 := Tryz.underlying195
  a222 := Tryz.isAgg195
  z222 := Tryz.sizeOf195
  v222 := Tryz.zeroValue195
  t228 := Tryz.underlying207
  a228 := Tryz.isAgg207
  z228 := Tryz.sizeOf207
  v228 := Tryz.zeroValue207
  t229 := Tryz.underlying208
  a229 := Tryz.isAgg208
  z229 := Tryz.sizeOf208
  v229 := Tryz.zeroValue208 }
theorem sort_fn {K : Nat} {zs : List Int} (hz : decide (zs.length < 4611686018427387904) = true) : FnMut K Tryz.prog 70 [.hs 0 0 zs.length 1] [.own (zs.flatMap (iC .i64))] (packA []) [.own ((Go.L.isrt zs).flatMap (iC .i64))] :=
  sort_mut (fun blk off cap zs w h1 h2 h3 => Any.slices_Sort_int sortLays blk off cap zs w h1 h2 h3) (fun p cap w => Any.slices_Sort_int_none sortLays p cap w) hz
end Go.Proofs.YtlajgmapmocpbabGreat
