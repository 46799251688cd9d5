import Derived.Test.YtlhnaccgnegjdaaGreatSc17Ness
import Derived.Test.YtlhnaccgnegjdaaGreatProg
import Derived.Test.YtlhnaccgnegjdaaGreatChecked
import Derived.KernelRfl
import Derived.Shelf.SlSortCmp.WholeK
import Derived.Shelf.SlSortCmp.NoneTotal
set_option linter.all false
namespace Go.Proofs.YtlhnaccgnegjdaaGreat
open Go Go.Shelf Go.Eng
def yz:Go.Shelf.Ren:=⟨fun|6=>42|14=>88|15=>89|20=>120|21=>121|22=>122|23=>123|24=>124|25=>125|26=>126|27=>127|28=>128|29=>129|46=>158|47=>159|48=>160|49=>161|50=>162|57=>175|n=>n,fun|0=>0|3=>3|4=>4|5=>5|9=>9|22=>33|25=>93|39=>128|45=>148|46=>149|50=>61|53=>141|55=>135|66=>172|70=>176|76=>186|77=>187|24=>40|n=>n,fun|n=>n⟩
theorem zm:Go.Proofs.SlLaysF0.n6 Tryz.prog yz:={
 mixed:=by kernel_rfl
 f6:=⟨Tryz.f42.name,by kernel_rfl,Tryz.func42.trans (congrArg some (by kernel_rfl))⟩
 f14:=⟨Tryz.f88.name,by kernel_rfl,Tryz.func88.trans (congrArg some (by kernel_rfl))⟩
 f15:=Tryz.func89.trans (congrArg some (by kernel_rfl))
 f20:=⟨Tryz.f120.name,by kernel_rfl,Tryz.func120.trans (congrArg some (by kernel_rfl))⟩
 f21:=⟨Tryz.f121.name,by kernel_rfl,Tryz.func121.trans (congrArg some (by kernel_rfl))⟩
 f22:=⟨Tryz.f122.name,by kernel_rfl,Tryz.func122.trans (congrArg some (by kernel_rfl))⟩
 f23:=⟨Tryz.f123.name,by kernel_rfl,Tryz.func123.trans (congrArg some (by kernel_rfl))⟩
 f24:=⟨Tryz.f124.name,by kernel_rfl,Tryz.func124.trans (congrArg some (by kernel_rfl))⟩
 f25:=⟨Tryz.f125.name,by kernel_rfl,Tryz.func125.trans (congrArg some (by kernel_rfl))⟩
 f26:=⟨Tryz.f126.name,by kernel_rfl,Tryz.func126.trans (congrArg some (by kernel_rfl))⟩
 f27:=⟨Tryz.f127.name,by kernel_rfl,Tryz.func127.trans (congrArg some (by kernel_rfl))⟩
 f28:=Tryz.func128.trans (congrArg some (by kernel_rfl))
 f29:=Tryz.func129.trans (congrArg some (by kernel_rfl))
 f46:=⟨Tryz.f158.name,by kernel_rfl,Tryz.func158.trans (congrArg some (by kernel_rfl))⟩
 f47:=Tryz.func159.trans (congrArg some (by kernel_rfl))
 f48:=Tryz.func160.trans (congrArg some (by kernel_rfl))
 f49:=⟨Tryz.f161.name,by kernel_rfl,Tryz.func161.trans (congrArg some (by kernel_rfl))⟩
 f50:=⟨Tryz.f162.name,by kernel_rfl,Tryz.func162.trans (congrArg some (by kernel_rfl))⟩
 f57:=⟨Tryz.f175.name,by kernel_rfl,Tryz.func175.trans (congrArg some (by kernel_rfl))⟩
 t0:=Tryz.underlying0
 a0:=Tryz.isAgg0
 z0:=Tryz.sizeOf0
 v0:=Tryz.zeroValue0
 t3:=Tryz.underlying3
 a3:=Tryz.isAgg3
 z3:=Tryz.sizeOf3
 v3:=Tryz.zeroValue3
 t4:=Tryz.underlying4
 a4:=Tryz.isAgg4
 z4:=Tryz.sizeOf4
 v4:=Tryz.zeroValue4
 t5:=Tryz.underlying5
 a5:=Tryz.isAgg5
 z5:=Tryz.sizeOf5
 v5:=Tryz.zeroValue5
 t9:=Tryz.underlying9
 a9:=Tryz.isAgg9
 z9:=Tryz.sizeOf9
 v9:=Tryz.zeroValue9
 t22:=Tryz.underlying33
 a22:=Tryz.isAgg33
 z22:=Tryz.sizeOf33
 v22:=Tryz.zeroValue33
 t25:=Tryz.underlying93
 a25:=Tryz.isAgg93
 z25:=Tryz.sizeOf93
 v25:=Tryz.zeroValue93
 t39:=Tryz.underlying128
 a39:=Tryz.isAgg128
 z39:=Tryz.sizeOf128
 v39:=Tryz.zeroValue128
 t45:=Tryz.underlying148
 a45:=Tryz.isAgg148
 z45:=Tryz.sizeOf148
 v45:=Tryz.zeroValue148
 t46:=Tryz.underlying149
 a46:=Tryz.isAgg149
 z46:=Tryz.sizeOf149
 v46:=Tryz.zeroValue149
 t50:=Tryz.underlying61
 a50:=Tryz.isAgg61
 z50:=Tryz.sizeOf61
 v50:=Tryz.zeroValue61
 t53:=Tryz.underlying141
 a53:=Tryz.isAgg141
 z53:=Tryz.sizeOf141
 v53:=Tryz.zeroValue141
 t55:=Tryz.underlying135
 a55:=Tryz.isAgg135
 z55:=Tryz.sizeOf135
 v55:=Tryz.zeroValue135
 t66:=Tryz.underlying172
 a66:=Tryz.isAgg172
 z66:=Tryz.sizeOf172
 v66:=Tryz.zeroValue172
 t70:=Tryz.underlying176
 a70:=Tryz.isAgg176
 z70:=Tryz.sizeOf176
 v70:=Tryz.zeroValue176
 t76:=Tryz.underlying186
 a76:=Tryz.isAgg186
 z76:=Tryz.sizeOf186
 v76:=Tryz.zeroValue186
 t77:=Tryz.underlying187
 a77:=Tryz.isAgg187
 z77:=Tryz.sizeOf187
 v77:=Tryz.zeroValue187}
theorem yD{g:FuncId}(eg:∀args w,(callFunc g args).run Tryz.prog w=.ok (.enter g args) w):ov Tryz.prog 42 g 2:=
 fun α _ enc cf cb blk off cap d w hk h1 hO hc hH hb hs=>AnyQ.slices_SortFunc zm 2 Tryz.isAgg40 Tryz.sizeOf40 enc hk h1 cf hO g cb blk off cap d w eg hc hH hb hs
theorem Ed(p:Option Addr)(cap:Nat)(fv:Value)(w:World):Calls Tryz.prog 42 #[.slice p 0 cap,fv] w fun e w'=>e=.returned (.tuple #[])/\w'=w:=AnyF.slices_SortFunc_none zm p cap fv w
end Go.Proofs.YtlhnaccgnegjdaaGreat
