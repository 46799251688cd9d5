import Derived.Test.YtfclmnpffhbcpaaGreatSc10Plds
import Derived.Test.YtfclmnpffhbcpaaGreatProg
import Derived.Test.YtfclmnpffhbcpaaGreatChecked
import Derived.KernelRfl
import Derived.Shelf.Sort.Plain
import Derived.Shelf.Slices.In.SortNone
set_option linter.all false
namespace Go.Proofs.YtfclmnpffhbcpaaGreat
open Go Go.Shelf Go.Eng
def zt:Go.Shelf.Ren:=⟨fun|189=>72|125=>108|257=>107|128=>153|129=>154|294=>144|295=>145|296=>146|297=>147|298=>148|299=>149|216=>150|300=>151|301=>152|328=>169|329=>170|330=>171|331=>172|332=>173|215=>160|343=>179|n=>n,fun|28=>87|3=>3|46=>170|0=>0|51=>126|53=>101|4=>4|183=>191|182=>190|131=>195|5=>5|9=>9|218=>214|222=>218|228=>222|229=>223|n=>n,fun|n=>n⟩
theorem zY:Go.Proofs.Lays.n189 Tryz.prog zt:={
 mixed:=by kernel_rfl
 f125:=Tryz.func108.trans (congrArg some (by kernel_rfl))
 f128:=Tryz.func153.trans (congrArg some (by kernel_rfl))
 f129:=Tryz.func154.trans (congrArg some (by kernel_rfl))
 f189:=Tryz.func72.trans (congrArg some (by kernel_rfl))
 f215:=Tryz.func160.trans (congrArg some (by kernel_rfl))
 f216:=Tryz.func150.trans (congrArg some (by kernel_rfl))
 f257:=Tryz.func107.trans (congrArg some (by kernel_rfl))
 f294:=Tryz.func144.trans (congrArg some (by kernel_rfl))
 f295:=Tryz.func145.trans (congrArg some (by kernel_rfl))
 f296:=Tryz.func146.trans (congrArg some (by kernel_rfl))
 f297:=Tryz.func147.trans (congrArg some (by kernel_rfl))
 f298:=Tryz.func148.trans (congrArg some (by kernel_rfl))
 f299:=Tryz.func149.trans (congrArg some (by kernel_rfl))
 f300:=Tryz.func151.trans (congrArg some (by kernel_rfl))
 f301:=Tryz.func152.trans (congrArg some (by kernel_rfl))
 f328:=Tryz.func169.trans (congrArg some (by kernel_rfl))
 f329:=Tryz.func170.trans (congrArg some (by kernel_rfl))
 f330:=Tryz.func171.trans (congrArg some (by kernel_rfl))
 f331:=Tryz.func172.trans (congrArg some (by kernel_rfl))
 f332:=Tryz.func173.trans (congrArg some (by kernel_rfl))
 f343:=Tryz.func179.trans (congrArg some (by kernel_rfl))
 t0:=Tryz.underlying0
 a0:=Tryz.isAgg0
 z0:=Tryz.sizeOf0
 v0:=Tryz.zeroValue0
 t3:=Tryz.underlying3
 a3:=Tryz.isAgg3
 z3:=Tryz.sizeOf3
 v3:=Tryz.zeroValue3
 t4:=Tryz.underlying4
 a4:=Tryz.isAgg4
 z4:=Tryz.sizeOf4
 v4:=Tryz.zeroValue4
 t5:=Tryz.underlying5
 a5:=Tryz.isAgg5
 z5:=Tryz.sizeOf5
 v5:=Tryz.zeroValue5
 t9:=Tryz.underlying9
 a9:=Tryz.isAgg9
 z9:=Tryz.sizeOf9
 v9:=Tryz.zeroValue9
 t28:=Tryz.underlying87
 a28:=Tryz.isAgg87
 z28:=Tryz.sizeOf87
 v28:=Tryz.zeroValue87
 t46:=Tryz.underlying170
 a46:=Tryz.isAgg170
 z46:=Tryz.sizeOf170
 v46:=Tryz.zeroValue170
 t51:=Tryz.underlying126
 a51:=Tryz.isAgg126
 z51:=Tryz.sizeOf126
 v51:=Tryz.zeroValue126
 t53:=Tryz.underlying101
 a53:=Tryz.isAgg101
 z53:=Tryz.sizeOf101
 v53:=Tryz.zeroValue101
 t131:=Tryz.underlying195
 a131:=Tryz.isAgg195
 z131:=Tryz.sizeOf195
 v131:=Tryz.zeroValue195
 t182:=Tryz.underlying190
 a182:=Tryz.isAgg190
 z182:=Tryz.sizeOf190
 v182:=Tryz.zeroValue190
 t183:=Tryz.underlying191
 a183:=Tryz.isAgg191
 z183:=Tryz.sizeOf191
 v183:=Tryz.zeroValue191
 t218:=Tryz.underlying214
 a218:=Tryz.isAgg214
 z218:=Tryz.sizeOf214
 v218:=Tryz.zeroValue214
 t222:=Tryz.underlying218
 a222:=Tryz.isAgg218
 z222:=Tryz.sizeOf218
 v222:=Tryz.zeroValue218
 t228:=Tryz.underlying222
 a228:=Tryz.isAgg222
 z228:=Tryz.sizeOf222
 v228:=Tryz.zeroValue222
 t229:=Tryz.underlying223
 a229:=Tryz.isAgg223
 z229:=Tryz.sizeOf223
 v229:=Tryz.zeroValue223}
theorem EM{K:Nat}{zs:List Int}(hz:decide (zs.length<4611686018427387904)=true):cM K Tryz.prog 72 [.hs 0 0 zs.length 1] [.own (zs.flatMap (iC .i64))] (ki []) [.own ((Go.L.sI zs).flatMap (iC .i64))]:=
 Ep (fun blk off cap zs w h1 h2 h3=>Any.slices_Sort_int zY blk off cap zs w h1 h2 h3) (fun p cap w=>Any.slices_Sort_int_none zY p cap w) hz
end Go.Proofs.YtfclmnpffhbcpaaGreat
