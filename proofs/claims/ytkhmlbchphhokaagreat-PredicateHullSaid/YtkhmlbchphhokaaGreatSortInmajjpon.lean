import Derived.Test.YtkhmlbchphhokaaGreatSc15cmpamnid
import Derived.Test.YtkhmlbchphhokaaGreatProg
import Derived.Test.YtkhmlbchphhokaaGreatChecked
import Derived.KernelRfl
import Derived.Shelf.SlSortCmp.Whole1
import Derived.Shelf.SlSortCmp.NoneTotal
set_option linter.all false
namespace Go.Proofs.YtkhmlbchphhokaaGreat
open Go Go.Shelf Go.Eng
def laysSortI_ren : Go.Shelf.Ren := ⟨fun | 6 => 69 | 14 => 120 | 15 => 121 | 20 => 151 | 21 => 152 | 22 => 153 | 23 => 154 | 24 => 155 | 25 => 156 | 26 => 157 | 27 => 158 | 28 => 159 | 29 => 160 | 46 => 199 | 47 => 200 | 48 => 201 | 49 => 202 | 50 => 203 | 57 => 225 | n => n, fun | 0 => 0 | 3 => 3 | 4 => 4 | 5 => 5 | 9 => 9 | 22 => 25 | 24 => 3 | 25 => 104 | 39 => 152 | 45 => 177 | 46 => 178 | 50 => 126 | 53 => 159 | 55 => 155 | 66 => 201 | 70 => 205 | 76 => 222 | 77 => 223 | n => n, fun | n => n⟩
theorem laysSortI : Go.Proofs.SlLaysF.n6 Tryz.prog laysSortI_ren := {
 mixed := by kernel_rfl
 f6 := ⟨Tryz.f69.name, by kernel_rfl, Tryz.func69.trans (congrArg some (by kernel_rfl))⟩
 f14 := ⟨Tryz.f120.name, by kernel_rfl, Tryz.func120.trans (congrArg some (by kernel_rfl))⟩
 f15 := Tryz.func121.trans (congrArg some (by kernel_rfl))
 f20 := ⟨Tryz.f151.name, by kernel_rfl, Tryz.func151.trans (congrArg some (by kernel_rfl))⟩
 f21 := ⟨Tryz.f152.name, by kernel_rfl, Tryz.func152.trans (congrArg some (by kernel_rfl))⟩
 f22 := ⟨Tryz.f153.name, by kernel_rfl, Tryz.func153.trans (congrArg some (by kernel_rfl))⟩
 f23 := ⟨Tryz.f154.name, by kernel_rfl, Tryz.func154.trans (congrArg some (by kernel_rfl))⟩
 f24 := ⟨Tryz.f155.name, by kernel_rfl, Tryz.func155.trans (congrArg some (by kernel_rfl))⟩
 f25 := ⟨Tryz.f156.name, by kernel_rfl, Tryz.func156.trans (congrArg some (by kernel_rfl))⟩
 f26 := ⟨Tryz.f157.name, by kernel_rfl, Tryz.func157.trans (congrArg some (by kernel_rfl))⟩
 f27 := ⟨Tryz.f158.name, by kernel_rfl, Tryz.func158.trans (congrArg some (by kernel_rfl))⟩
 f28 := Tryz.func159.trans (congrArg some (by kernel_rfl))
 f29 := Tryz.func160.trans (congrArg some (by kernel_rfl))
 f46 := ⟨Tryz.f199.name, by kernel_rfl, Tryz.func199.trans (congrArg some (by kernel_rfl))⟩
 f47 := Tryz.func200.trans (congrArg some (by kernel_rfl))
 f48 := Tryz.func201.trans (congrArg some (by kernel_rfl))
 f49 := ⟨Tryz.f202.name, by kernel_rfl, Tryz.func202.trans (congrArg some (by kernel_rfl))⟩
 f50 := ⟨Tryz.f203.name, by kernel_rfl, Tryz.func203.trans (congrArg some (by kernel_rfl))⟩
 f57 := ⟨Tryz.f225.name, by kernel_rfl, Tryz.func225.trans (congrArg some (by kernel_rfl))⟩
 t0 := Tryz.underlying0
 a0 := Tryz.isAgg0
 z0 := Tryz.sizeOf0
 v0 := Tryz.zeroValue0
 t3 := Tryz.underlying3
 a3 := Tryz.isAgg3
 z3 := Tryz.sizeOf3
 v3 := Tryz.zeroValue3
 t4 := Tryz.underlying4
 a4 := Tryz.isAgg4
 z4 := Tryz.sizeOf4
 v4 := Tryz.zeroValue4
 t5 := Tryz.underlying5
 a5 := Tryz.isAgg5
 z5 := Tryz.sizeOf5
 v5 := Tryz.zeroValue5
 t9 := Tryz.underlying9
 a9 := Tryz.isAgg9
 z9 := Tryz.sizeOf9
 v9 := Tryz.zeroValue9
 t22 := Tryz.underlying25
 a22 := Tryz.isAgg25
 z22 := Tryz.sizeOf25
 v22 := Tryz.zeroValue25
 a24 := Tryz.isAgg3
 z24 := Tryz.sizeOf3
 t25 := Tryz.underlying104
 a25 := Tryz.isAgg104
 z25 := Tryz.sizeOf104
 v25 := Tryz.zeroValue104
 t39 := Tryz.underlying152
 a39 := Tryz.isAgg152
 z39 := Tryz.sizeOf152
 v39 := Tryz.zeroValue152
 t45 := Tryz.underlying177
 a45 := Tryz.isAgg177
 z45 := Tryz.sizeOf177
 v45 := Tryz.zeroValue177
 t46 := Tryz.underlying178
 a46 := Tryz.isAgg178
 z46 := Tryz.sizeOf178
 v46 := Tryz.zeroValue178
 t50 := Tryz.underlying126
 a50 := Tryz.isAgg126
 z50 := Tryz.sizeOf126
 v50 := Tryz.zeroValue126
 t53 := Tryz.underlying159
 a53 := Tryz.isAgg159
 z53 := Tryz.sizeOf159
 v53 := Tryz.zeroValue159
 t55 := Tryz.underlying155
 a55 := Tryz.isAgg155
 z55 := Tryz.sizeOf155
 v55 := Tryz.zeroValue155
 t66 := Tryz.underlying201
 a66 := Tryz.isAgg201
 z66 := Tryz.sizeOf201
 v66 := Tryz.zeroValue201
 t70 := Tryz.underlying205
 a70 := Tryz.isAgg205
 z70 := Tryz.sizeOf205
 v70 := Tryz.zeroValue205
 t76 := Tryz.underlying222
 a76 := Tryz.isAgg222
 z76 := Tryz.sizeOf222
 v76 := Tryz.zeroValue222
 t77 := Tryz.underlying223
 a77 := Tryz.isAgg223
 z77 := Tryz.sizeOf223
 v77 := Tryz.zeroValue223 }
theorem contractSortI {g : FuncId} (eg : ∀ args w, (callFunc g args).run Tryz.prog w = .ok (.enter g args) w) : SortContract1 Tryz.prog 69 g :=
 fun α _ enc cf cb blk off cap d w h1 hO hc hH hb hs => Any.slices_SortFunc laysSortI enc h1 cf hO g cb blk off cap d w eg hc hH hb hs
theorem noneSortI (p : Option Addr) (cap : Nat) (fv : Value) (w : World) : Calls Tryz.prog 69 #[.slice p 0 cap, fv] w fun e w' => e = .returned (.tuple #[]) ∧ w' = w := AnyF.slices_SortFunc_none { laysSortI with } p cap fv w
end Go.Proofs.YtkhmlbchphhokaaGreat
