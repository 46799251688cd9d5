import Derived.Test.YtlpfiiejhikalaaGreatSc6Trks
import Derived.Test.YtlpfiiejhikalaaGreatChecked
import Derived.KernelRfl
set_option linter.all false
set_option linter.unusedVariables false
namespace Go.Proofs.YtlpfiiejhikalaaGreat
open Go Go.RowKit Go.Proofs Go.Eng
theorem DY : tm Tryz.prog := by
 have h : (Tryz.prog.funcs.toList.all fun fn => !(decide (fn.name = "runtime.NumGoroutine"))) = true := by kernel_rfl
 intro f fn hf
 have hm : fn ∈ Tryz.prog.funcs.toList := by rw [<- Array.getElem?_toList] at hf; exact List.mem_of_getElem? hf
 have := List.all_eq_true.1 h fn hm
 simpa using this
end Go.Proofs.YtlpfiiejhikalaaGreat
namespace Go.L
open Go Go.Eng Go.Proofs
theorem G : lH Tryz.prog := ⟨Go.Proofs.YtlpfiiejhikalaaGreat.DY, by kernel_rfl⟩
end Go.L
