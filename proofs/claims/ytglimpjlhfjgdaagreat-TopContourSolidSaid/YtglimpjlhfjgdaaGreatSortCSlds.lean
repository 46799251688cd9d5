import Derived.Test.YtglimpjlhfjgdaaGreatSc17Slds
import Derived.Test.YtglimpjlhfjgdaaGreatProg
import Derived.Test.YtglimpjlhfjgdaaGreatChecked
import Derived.KernelRfl
import Derived.Shelf.SlSortCmp.WholeK
import Derived.Shelf.SlSortCmp.NoneTotal
set_option linter.all false
namespace Go.Proofs.YtglimpjlhfjgdaaGreat
open Go Go.Shelf Go.Eng
def xX:Go.Shelf.Ren:=⟨fun|6=>112|14=>143|15=>142|20=>169|21=>170|22=>171|23=>172|24=>173|25=>174|26=>175|27=>176|28=>167|29=>168|46=>197|47=>193|48=>194|49=>198|50=>199|57=>204|n=>n,fun|0=>0|3=>3|4=>4|5=>5|9=>9|22=>63|25=>159|39=>175|45=>192|46=>193|50=>112|53=>106|55=>105|66=>214|70=>218|76=>224|77=>225|24=>68|n=>n,fun|n=>n⟩
theorem ye:Go.Proofs.SlLaysF0.n6 Tryz.prog xX:={
 mixed:=by kernel_rfl
 f6:=⟨Tryz.f112.name,by kernel_rfl,Tryz.func112.trans (congrArg some (by kernel_rfl))⟩
 f14:=⟨Tryz.f143.name,by kernel_rfl,Tryz.func143.trans (congrArg some (by kernel_rfl))⟩
 f15:=Tryz.func142.trans (congrArg some (by kernel_rfl))
 f20:=⟨Tryz.f169.name,by kernel_rfl,Tryz.func169.trans (congrArg some (by kernel_rfl))⟩
 f21:=⟨Tryz.f170.name,by kernel_rfl,Tryz.func170.trans (congrArg some (by kernel_rfl))⟩
 f22:=⟨Tryz.f171.name,by kernel_rfl,Tryz.func171.trans (congrArg some (by kernel_rfl))⟩
 f23:=⟨Tryz.f172.name,by kernel_rfl,Tryz.func172.trans (congrArg some (by kernel_rfl))⟩
 f24:=⟨Tryz.f173.name,by kernel_rfl,Tryz.func173.trans (congrArg some (by kernel_rfl))⟩
 f25:=⟨Tryz.f174.name,by kernel_rfl,Tryz.func174.trans (congrArg some (by kernel_rfl))⟩
 f26:=⟨Tryz.f175.name,by kernel_rfl,Tryz.func175.trans (congrArg some (by kernel_rfl))⟩
 f27:=⟨Tryz.f176.name,by kernel_rfl,Tryz.func176.trans (congrArg some (by kernel_rfl))⟩
 f28:=Tryz.func167.trans (congrArg some (by kernel_rfl))
 f29:=Tryz.func168.trans (congrArg some (by kernel_rfl))
 f46:=⟨Tryz.f197.name,by kernel_rfl,Tryz.func197.trans (congrArg some (by kernel_rfl))⟩
 f47:=Tryz.func193.trans (congrArg some (by kernel_rfl))
 f48:=Tryz.func194.trans (congrArg some (by kernel_rfl))
 f49:=⟨Tryz.f198.name,by kernel_rfl,Tryz.func198.trans (congrArg some (by kernel_rfl))⟩
 f50:=⟨Tryz.f199.name,by kernel_rfl,Tryz.func199.trans (congrArg some (by kernel_rfl))⟩
 f57:=⟨Tryz.f204.name,by kernel_rfl,Tryz.func204.trans (congrArg some (by kernel_rfl))⟩
 t0:=Tryz.underlying0
 a0:=Tryz.isAgg0
 z0:=Tryz.sizeOf0
 v0:=Tryz.zeroValue0
 t3:=Tryz.underlying3
 a3:=Tryz.isAgg3
 z3:=Tryz.sizeOf3
 v3:=Tryz.zeroValue3
 t4:=Tryz.underlying4
 a4:=Tryz.isAgg4
 z4:=Tryz.sizeOf4
 v4:=Tryz.zeroValue4
 t5:=Tryz.underlying5
 a5:=Tryz.isAgg5
 z5:=Tryz.sizeOf5
 v5:=Tryz.zeroValue5
 t9:=Tryz.underlying9
 a9:=Tryz.isAgg9
 z9:=Tryz.sizeOf9
 v9:=Tryz.zeroValue9
 t22:=Tryz.underlying63
 a22:=Tryz.isAgg63
 z22:=Tryz.sizeOf63
 v22:=Tryz.zeroValue63
 t25:=Tryz.underlying159
 a25:=Tryz.isAgg159
 z25:=Tryz.sizeOf159
 v25:=Tryz.zeroValue159
 t39:=Tryz.underlying175
 a39:=Tryz.isAgg175
 z39:=Tryz.sizeOf175
 v39:=Tryz.zeroValue175
 t45:=Tryz.underlying192
 a45:=Tryz.isAgg192
 z45:=Tryz.sizeOf192
 v45:=Tryz.zeroValue192
 t46:=Tryz.underlying193
 a46:=Tryz.isAgg193
 z46:=Tryz.sizeOf193
 v46:=Tryz.zeroValue193
 t50:=Tryz.underlying112
 a50:=Tryz.isAgg112
 z50:=Tryz.sizeOf112
 v50:=Tryz.zeroValue112
 t53:=Tryz.underlying106
 a53:=Tryz.isAgg106
 z53:=Tryz.sizeOf106
 v53:=Tryz.zeroValue106
 t55:=Tryz.underlying105
 a55:=Tryz.isAgg105
 z55:=Tryz.sizeOf105
 v55:=Tryz.zeroValue105
 t66:=Tryz.underlying214
 a66:=Tryz.isAgg214
 z66:=Tryz.sizeOf214
 v66:=Tryz.zeroValue214
 t70:=Tryz.underlying218
 a70:=Tryz.isAgg218
 z70:=Tryz.sizeOf218
 v70:=Tryz.zeroValue218
 t76:=Tryz.underlying224
 a76:=Tryz.isAgg224
 z76:=Tryz.sizeOf224
 v76:=Tryz.zeroValue224
 t77:=Tryz.underlying225
 a77:=Tryz.isAgg225
 z77:=Tryz.sizeOf225
 v77:=Tryz.zeroValue225}
theorem x5{g:FuncId}(eg:∀args w,(callFunc g args).run Tryz.prog w=.ok (.enter g args) w):lW Tryz.prog 112 g 2:=
 fun α _ enc cf cb blk off cap d w hk h1 hO hc hH hb hs=>AnyQ.slices_SortFunc ye 2 Tryz.isAgg68 Tryz.sizeOf68 enc hk h1 cf hO g cb blk off cap d w eg hc hH hb hs
theorem El(p:Option Addr)(cap:Nat)(fv:Value)(w:World):Calls Tryz.prog 112 #[.slice p 0 cap,fv] w fun e w'=>e=.returned (.tuple #[])/\w'=w:=AnyF.slices_SortFunc_none ye p cap fv w
end Go.Proofs.YtglimpjlhfjgdaaGreat
