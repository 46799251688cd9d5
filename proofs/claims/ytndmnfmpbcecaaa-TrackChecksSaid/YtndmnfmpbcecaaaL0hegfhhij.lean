import Derived.Test.YtndmnfmpbcecaaaSc6johejahe
import Derived.Test.YtndmnfmpbcecaaaChecked
import Derived.KernelRfl
set_option linter.all false
set_option linter.unusedVariables false
namespace Go.Proofs.Ytndmnfmpbcecaaa
open Go Go.RowKit Go.Proofs Go.Eng
theorem noNG : NoNG Try.prog := by
 have h : (Try.prog.funcs.toList.all fun fn => !(decide (fn.name = "runtime.NumGoroutine"))) = true := by kernel_rfl
 intro f fn hf
 have hm : fn ∈ Try.prog.funcs.toList := by rw [← Array.getElem?_toList] at hf; exact List.mem_of_getElem? hf
 have := List.all_eq_true.1 h fn hm
 simpa using this
end Go.Proofs.Ytndmnfmpbcecaaa
namespace Go.L
open Go Go.Eng Go.Proofs
theorem G : Fine Try.prog := ⟨Go.Proofs.Ytndmnfmpbcecaaa.noNG, by kernel_rfl⟩
end Go.L
