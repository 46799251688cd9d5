import Derived.Test.YtkhmlbchphhokaaGreatHisL59b
import Derived.KernelRfl
set_option linter.unusedVariables false
set_option linter.unusedSimpArgs false
namespace Go.L
open Go Go.Eng
theorem known59_v : fiduciallaw59_known 5000 = some true := by kernel_rfl
theorem short_of_few {l : List api_Banded} (hl : l.length ≤ 100) (h : fewB l = true) : Short 5000 l := by
  refine ⟨by omega, by omega, fun k hk => ?_⟩
  have := List.all_eq_true.1 h (l.getD k default) (by simp only [List.getD, List.getElem?_eq_getElem hk, Option.getD_some]; exact List.getElem_mem hk)
  simp only [Bool.and_eq_true, decide_eq_true_eq] at this
  omega
end Go.L

