import Derived.Test.YtglimpjlhfjgdaaGreatSc17Slds
import Derived.Test.YtglimpjlhfjgdaaGreatProg
import Derived.Test.YtglimpjlhfjgdaaGreatChecked
import Derived.KernelRfl
import Derived.Shelf.SlSortCmp.WholeK
import Derived.Shelf.SlSortCmp.NoneTotal
set_option linter.all false
namespace Go.Proofs.YtglimpjlhfjgdaaGreat
open Go Go.Shelf Go.Eng
def xK:Go.Shelf.Ren:=⟨fun|6=>108|14=>141|15=>142|20=>159|21=>160|22=>161|23=>162|24=>163|25=>164|26=>165|27=>166|28=>167|29=>168|46=>192|47=>193|48=>194|49=>195|50=>196|57=>203|n=>n,fun|0=>0|3=>3|4=>4|5=>5|9=>9|22=>149|25=>151|39=>175|45=>192|46=>193|50=>112|53=>106|55=>105|66=>214|70=>218|76=>224|77=>225|24=>147|n=>n,fun|n=>n⟩
theorem yS:Go.Proofs.SlLaysF0.n6 Tryz.prog xK:={
 mixed:=by kernel_rfl
 f6:=⟨Tryz.f108.name,by kernel_rfl,Tryz.func108.trans (congrArg some (by kernel_rfl))⟩
 f14:=⟨Tryz.f141.name,by kernel_rfl,Tryz.func141.trans (congrArg some (by kernel_rfl))⟩
 f15:=Tryz.func142.trans (congrArg some (by kernel_rfl))
 f20:=⟨Tryz.f159.name,by kernel_rfl,Tryz.func159.trans (congrArg some (by kernel_rfl))⟩
 f21:=⟨Tryz.f160.name,by kernel_rfl,Tryz.func160.trans (congrArg some (by kernel_rfl))⟩
 f22:=⟨Tryz.f161.name,by kernel_rfl,Tryz.func161.trans (congrArg some (by kernel_rfl))⟩
 f23:=⟨Tryz.f162.name,by kernel_rfl,Tryz.func162.trans (congrArg some (by kernel_rfl))⟩
 f24:=⟨Tryz.f163.name,by kernel_rfl,Tryz.func163.trans (congrArg some (by kernel_rfl))⟩
 f25:=⟨Tryz.f164.name,by kernel_rfl,Tryz.func164.trans (congrArg some (by kernel_rfl))⟩
 f26:=⟨Tryz.f165.name,by kernel_rfl,Tryz.func165.trans (congrArg some (by kernel_rfl))⟩
 f27:=⟨Tryz.f166.name,by kernel_rfl,Tryz.func166.trans (congrArg some (by kernel_rfl))⟩
 f28:=Tryz.func167.trans (congrArg some (by kernel_rfl))
 f29:=Tryz.func168.trans (congrArg some (by kernel_rfl))
 f46:=⟨Tryz.f192.name,by kernel_rfl,Tryz.func192.trans (congrArg some (by kernel_rfl))⟩
 f47:=Tryz.func193.trans (congrArg some (by kernel_rfl))
 f48:=Tryz.func194.trans (congrArg some (by kernel_rfl))
 f49:=⟨Tryz.f195.name,by kernel_rfl,Tryz.func195.trans (congrArg some (by kernel_rfl))⟩
 f50:=⟨Tryz.f196.name,by kernel_rfl,Tryz.func196.trans (congrArg some (by kernel_rfl))⟩
 f57:=⟨Tryz.f203.name,by kernel_rfl,Tryz.func203.trans (congrArg some (by kernel_rfl))⟩
 t0:=Tryz.underlying0
 a0:=Tryz.isAgg0
 z0:=Tryz.sizeOf0
 v0:=Tryz.zeroValue0
 t3:=Tryz.underlying3
 a3:=Tryz.isAgg3
 z3:=Tryz.sizeOf3
 v3:=Tryz.zeroValue3
 t4:=Tryz.underlying4
 a4:=Tryz.isAgg4
 z4:=Tryz.sizeOf4
 v4:=Tryz.zeroValue4
 t5:=Tryz.underlying5
 a5:=Tryz.isAgg5
 z5:=Tryz.sizeOf5
 v5:=Tryz.zeroValue5
 t9:=Tryz.underlying9
 a9:=Tryz.isAgg9
 z9:=Tryz.sizeOf9
 v9:=Tryz.zeroValue9
 t22:=Tryz.underlying149
 a22:=Tryz.isAgg149
 z22:=Tryz.sizeOf149
 v22:=Tryz.zeroValue149
 t25:=Tryz.underlying151
 a25:=Tryz.isAgg151
 z25:=Tryz.sizeOf151
 v25:=Tryz.zeroValue151
 t39:=Tryz.underlying175
 a39:=Tryz.isAgg175
 z39:=Tryz.sizeOf175
 v39:=Tryz.zeroValue175
 t45:=Tryz.underlying192
 a45:=Tryz.isAgg192
 z45:=Tryz.sizeOf192
 v45:=Tryz.zeroValue192
 t46:=Tryz.underlying193
 a46:=Tryz.isAgg193
 z46:=Tryz.sizeOf193
 v46:=Tryz.zeroValue193
 t50:=Tryz.underlying112
 a50:=Tryz.isAgg112
 z50:=Tryz.sizeOf112
 v50:=Tryz.zeroValue112
 t53:=Tryz.underlying106
 a53:=Tryz.isAgg106
 z53:=Tryz.sizeOf106
 v53:=Tryz.zeroValue106
 t55:=Tryz.underlying105
 a55:=Tryz.isAgg105
 z55:=Tryz.sizeOf105
 v55:=Tryz.zeroValue105
 t66:=Tryz.underlying214
 a66:=Tryz.isAgg214
 z66:=Tryz.sizeOf214
 v66:=Tryz.zeroValue214
 t70:=Tryz.underlying218
 a70:=Tryz.isAgg218
 z70:=Tryz.sizeOf218
 v70:=Tryz.zeroValue218
 t76:=Tryz.underlying224
 a76:=Tryz.isAgg224
 z76:=Tryz.sizeOf224
 v76:=Tryz.zeroValue224
 t77:=Tryz.underlying225
 a77:=Tryz.isAgg225
 z77:=Tryz.sizeOf225
 v77:=Tryz.zeroValue225}
theorem xS{g:FuncId}(eg:∀args w,(callFunc g args).run Tryz.prog w=.ok (.enter g args) w):lW Tryz.prog 108 g 2:=
 fun α _ enc cf cb blk off cap d w hk h1 hO hc hH hb hs=>AnyQ.slices_SortFunc yS 2 Tryz.isAgg147 Tryz.sizeOf147 enc hk h1 cf hO g cb blk off cap d w eg hc hH hb hs
theorem D3(p:Option Addr)(cap:Nat)(fv:Value)(w:World):Calls Tryz.prog 108 #[.slice p 0 cap,fv] w fun e w'=>e=.returned (.tuple #[])/\w'=w:=AnyF.slices_SortFunc_none yS p cap fv w
end Go.Proofs.YtglimpjlhfjgdaaGreat
