import Derived.Test.YtndahnebnggdmaaGreatSc10idcakkmj
import Derived.Test.YtndahnebnggdmaaGreatProg
import Derived.Test.YtndahnebnggdmaaGreatChecked
import Derived.KernelRfl
import Derived.Shelf.Sort.Plain
import Derived.Shelf.Slices.In.SortNone
set_option linter.all false
namespace Go.Proofs.YtndahnebnggdmaaGreat
open Go Go.Shelf Go.Eng
def sortLays_ren : Go.Shelf.Ren := ⟨fun | 189 => 71 | 125 => 89 | 257 => 88 | 128 => 106 | 129 => 107 | 294 => 97 | 295 => 98 | 296 => 99 | 297 => 100 | 298 => 101 | 299 => 102 | 216 => 103 | 300 => 104 | 301 => 105 | 328 => 114 | 329 => 115 | 330 => 116 | 331 => 117 | 332 => 118 | 215 => 65 | 343 => 126 | n => n, fun | 28 => 30 | 3 => 3 | 46 => 129 | 0 => 0 | 51 => 107 | 53 => 101 | 4 => 4 | 183 => 135 | 182 => 134 | 131 => 139 | 5 => 5 | 9 => 9 | 218 => 144 | 222 => 148 | 228 => 154 | 229 => 155 | n => n, fun | n => n⟩
theorem sortLays : Go.Proofs.Lays.n189 Tryz.prog sortLays_ren := {
 mixed := by kernel_rfl
 f125 := Tryz.func89.trans (congrArg some (by kernel_rfl))
 f128 := Tryz.func106.trans (congrArg some (by kernel_rfl))
 f129 := Tryz.func107.trans (congrArg some (by kernel_rfl))
 f189 := Tryz.func71.trans (congrArg some (by kernel_rfl))
 f215 := Tryz.func65.trans (congrArg some (by kernel_rfl))
 f216 := Tryz.func103.trans (congrArg some (by kernel_rfl))
 f257 := Tryz.func88.trans (congrArg some (by kernel_rfl))
 f294 := Tryz.func97.trans (congrArg some (by kernel_rfl))
 f295 := Tryz.func98.trans (congrArg some (by kernel_rfl))
 f296 := Tryz.func99.trans (congrArg some (by kernel_rfl))
 f297 := Tryz.func100.trans (congrArg some (by kernel_rfl))
 f298 := Tryz.func101.trans (congrArg some (by kernel_rfl))
 f299 := Tryz.func102.trans (congrArg some (by kernel_rfl))
 f300 := Tryz.func104.trans (congrArg some (by kernel_rfl))
 f301 := Tryz.func105.trans (congrArg some (by kernel_rfl))
 f328 := Tryz.func114.trans (congrArg some (by kernel_rfl))
 f329 := Tryz.func115.trans (congrArg some (by kernel_rfl))
 f330 := Tryz.func116.trans (congrArg some (by kernel_rfl))
 f331 := Tryz.func117.trans (congrArg some (by kernel_rfl))
 f332 := Tryz.func118.trans (congrArg some (by kernel_rfl))
 f343 := Tryz.func126.trans (congrArg some (by kernel_rfl))
 t0 := Tryz.underlying0
 a0 := Tryz.isAgg0
 z0 := Tryz.sizeOf0
 v0 := Tryz.zeroValue0
 t3 := Tryz.underlying3
 a3 := Tryz.isAgg3
 z3 := Tryz.sizeOf3
 v3 := Tryz.zeroValue3
 t4 := Tryz.underlying4
 a4 := Tryz.isAgg4
 z4 := Tryz.sizeOf4
 v4 := Tryz.zeroValue4
 t5 := Tryz.underlying5
 a5 := Tryz.isAgg5
 z5 := Tryz.sizeOf5
 v5 := Tryz.zeroValue5
 t9 := Tryz.underlying9
 a9 := Tryz.isAgg9
 z9 := Tryz.sizeOf9
 v9 := Tryz.zeroValue9
 t28 := Tryz.underlying30
 a28 := Tryz.isAgg30
 z28 := Tryz.sizeOf30
 v28 := Tryz.zeroValue30
 t46 := Tryz.underlying129
 a46 := Tryz.isAgg129
 z46 := Tryz.sizeOf129
 v46 := Tryz.zeroValue129
 t51 := Tryz.underlying107
 a51 := Tryz.isAgg107
 z51 := Tryz.sizeOf107
 v51 := Tryz.zeroValue107
 t53 := Tryz.underlying101
 a53 := Tryz.isAgg101
 z53 := Tryz.sizeOf101
 v53 := Tryz.zeroValue101
 t131 := Tryz.underlying139
 a131 := Tryz.isAgg139
 z131 := Tryz.sizeOf139
 v131 := Tryz.zeroValue139
 t182 := Tryz.underlying134
 a182 := Tryz.isAgg134
 z182 := Tryz.sizeOf134
 v182 := Tryz.zeroValue134
 t183 := Tryz.underlying135
 a183 := Tryz.isAgg135
 z183 := Tryz.sizeOf135
 v183 := Tryz.zeroValue135
 t218 := Tryz.underlying144
 a218 := Tryz.isAgg144
 z218 := Tryz.sizeOf144
 v218 := Tryz.zeroValue144
 t222 := Tryz.underlying148
 a222 := Tryz.isAgg148
 z222 := Tryz.sizeOf148
 v222 := Tryz.zeroValue148
 t228 := Tryz.underlying154
 a228 := Tryz.isAgg154
 z228 := Tryz.sizeOf154
 v228 := Tryz.zeroValue154
 t229 := Tryz.underlying155
 a229 := Tryz.isAgg155
 z229 := Tryz.sizeOf155
 v229 := Tryz.zeroValue155 }
theorem sort_fn {K : Nat} {zs : List Int} (hz : decide (zs.length < 4611686018427387904) = true) : FnMut K Tryz.prog 71 [.hs 0 0 zs.length 1] [.own (zs.flatMap (iC .i64))] (packA []) [.own ((Go.L.isrt zs).flatMap (iC .i64))] :=
 sort_mut (fun blk off cap zs w h1 h2 h3 => Any.slices_Sort_int sortLays blk off cap zs w h1 h2 h3) (fun p cap w => Any.slices_Sort_int_none sortLays p cap w) hz
end Go.Proofs.YtndahnebnggdmaaGreat
