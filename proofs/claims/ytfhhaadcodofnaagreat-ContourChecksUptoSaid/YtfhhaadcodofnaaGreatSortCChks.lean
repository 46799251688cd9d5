import Derived.Test.YtfhhaadcodofnaaGreatSc17Chks
import Derived.Test.YtfhhaadcodofnaaGreatProg
import Derived.Test.YtfhhaadcodofnaaGreatChecked
import Derived.KernelRfl
import Derived.Shelf.SlSortCmp.WholeK
import Derived.Shelf.SlSortCmp.NoneTotal
set_option linter.all false
namespace Go.Proofs.YtfhhaadcodofnaaGreat
open Go Go.Shelf Go.Eng
def fp:Go.Shelf.Ren:=⟨fun|6=>19|14=>46|15=>47|20=>87|21=>88|22=>89|23=>90|24=>91|25=>92|26=>93|27=>94|28=>95|29=>96|46=>123|47=>124|48=>125|49=>126|50=>127|57=>161|n=>n,fun|0=>0|3=>3|4=>4|5=>5|9=>9|22=>25|25=>60|39=>94|45=>127|46=>128|50=>83|53=>134|55=>136|66=>148|70=>152|76=>175|77=>176|24=>30|n=>n,fun|n=>n⟩
theorem jr:Go.Proofs.SlLaysF0.n6 Tryz.prog fp:={
 mixed:=by kernel_rfl
 f6:=⟨Tryz.f19.name,by kernel_rfl,Tryz.func19.trans (congrArg some (by kernel_rfl))⟩
 f14:=⟨Tryz.f46.name,by kernel_rfl,Tryz.func46.trans (congrArg some (by kernel_rfl))⟩
 f15:=Tryz.func47.trans (congrArg some (by kernel_rfl))
 f20:=⟨Tryz.f87.name,by kernel_rfl,Tryz.func87.trans (congrArg some (by kernel_rfl))⟩
 f21:=⟨Tryz.f88.name,by kernel_rfl,Tryz.func88.trans (congrArg some (by kernel_rfl))⟩
 f22:=⟨Tryz.f89.name,by kernel_rfl,Tryz.func89.trans (congrArg some (by kernel_rfl))⟩
 f23:=⟨Tryz.f90.name,by kernel_rfl,Tryz.func90.trans (congrArg some (by kernel_rfl))⟩
 f24:=⟨Tryz.f91.name,by kernel_rfl,Tryz.func91.trans (congrArg some (by kernel_rfl))⟩
 f25:=⟨Tryz.f92.name,by kernel_rfl,Tryz.func92.trans (congrArg some (by kernel_rfl))⟩
 f26:=⟨Tryz.f93.name,by kernel_rfl,Tryz.func93.trans (congrArg some (by kernel_rfl))⟩
 f27:=⟨Tryz.f94.name,by kernel_rfl,Tryz.func94.trans (congrArg some (by kernel_rfl))⟩
 f28:=Tryz.func95.trans (congrArg some (by kernel_rfl))
 f29:=Tryz.func96.trans (congrArg some (by kernel_rfl))
 f46:=⟨Tryz.f123.name,by kernel_rfl,Tryz.func123.trans (congrArg some (by kernel_rfl))⟩
 f47:=Tryz.func124.trans (congrArg some (by kernel_rfl))
 f48:=Tryz.func125.trans (congrArg some (by kernel_rfl))
 f49:=⟨Tryz.f126.name,by kernel_rfl,Tryz.func126.trans (congrArg some (by kernel_rfl))⟩
 f50:=⟨Tryz.f127.name,by kernel_rfl,Tryz.func127.trans (congrArg some (by kernel_rfl))⟩
 f57:=⟨Tryz.f161.name,by kernel_rfl,Tryz.func161.trans (congrArg some (by kernel_rfl))⟩
 t0:=Tryz.underlying0
 a0:=Tryz.isAgg0
 z0:=Tryz.sizeOf0
 v0:=Tryz.zeroValue0
 t3:=Tryz.underlying3
 a3:=Tryz.isAgg3
 z3:=Tryz.sizeOf3
 v3:=Tryz.zeroValue3
 t4:=Tryz.underlying4
 a4:=Tryz.isAgg4
 z4:=Tryz.sizeOf4
 v4:=Tryz.zeroValue4
 t5:=Tryz.underlying5
 a5:=Tryz.isAgg5
 z5:=Tryz.sizeOf5
 v5:=Tryz.zeroValue5
 t9:=Tryz.underlying9
 a9:=Tryz.isAgg9
 z9:=Tryz.sizeOf9
 v9:=Tryz.zeroValue9
 t22:=Tryz.underlying25
 a22:=Tryz.isAgg25
 z22:=Tryz.sizeOf25
 v22:=Tryz.zeroValue25
 t25:=Tryz.underlying60
 a25:=Tryz.isAgg60
 z25:=Tryz.sizeOf60
 v25:=Tryz.zeroValue60
 t39:=Tryz.underlying94
 a39:=Tryz.isAgg94
 z39:=Tryz.sizeOf94
 v39:=Tryz.zeroValue94
 t45:=Tryz.underlying127
 a45:=Tryz.isAgg127
 z45:=Tryz.sizeOf127
 v45:=Tryz.zeroValue127
 t46:=Tryz.underlying128
 a46:=Tryz.isAgg128
 z46:=Tryz.sizeOf128
 v46:=Tryz.zeroValue128
 t50:=Tryz.underlying83
 a50:=Tryz.isAgg83
 z50:=Tryz.sizeOf83
 v50:=Tryz.zeroValue83
 t53:=Tryz.underlying134
 a53:=Tryz.isAgg134
 z53:=Tryz.sizeOf134
 v53:=Tryz.zeroValue134
 t55:=Tryz.underlying136
 a55:=Tryz.isAgg136
 z55:=Tryz.sizeOf136
 v55:=Tryz.zeroValue136
 t66:=Tryz.underlying148
 a66:=Tryz.isAgg148
 z66:=Tryz.sizeOf148
 v66:=Tryz.zeroValue148
 t70:=Tryz.underlying152
 a70:=Tryz.isAgg152
 z70:=Tryz.sizeOf152
 v70:=Tryz.zeroValue152
 t76:=Tryz.underlying175
 a76:=Tryz.isAgg175
 z76:=Tryz.sizeOf175
 v76:=Tryz.zeroValue175
 t77:=Tryz.underlying176
 a77:=Tryz.isAgg176
 z77:=Tryz.sizeOf176
 v77:=Tryz.zeroValue176}
theorem tQ{g:FuncId}(eg:∀args w,(callFunc g args).run Tryz.prog w=.ok (.enter g args) w):oz Tryz.prog 19 g 2:=
 fun α _ enc cf cb blk off cap d w hk h1 hO hc hH hb hs=>AnyQ.slices_SortFunc jr 2 Tryz.isAgg30 Tryz.sizeOf30 enc hk h1 cf hO g cb blk off cap d w eg hc hH hb hs
theorem zX(p:Option Addr)(cap:Nat)(fv:Value)(w:World):Calls Tryz.prog 19 #[.slice p 0 cap,fv] w fun e w'=>e=.returned (.tuple #[])/\w'=w:=AnyF.slices_SortFunc_none jr p cap fv w
end Go.Proofs.YtfhhaadcodofnaaGreat
