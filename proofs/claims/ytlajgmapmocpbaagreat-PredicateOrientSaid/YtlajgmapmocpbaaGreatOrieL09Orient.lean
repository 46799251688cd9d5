/- Layer 9, P9.1. -/
import Derived.Test.YtlajgmapmocpbaaGreatOrieL09a
set_option linter.unusedVariables false
set_option linter.unusedSimpArgs false
namespace Go.L
open Go Go.Eng
theorem orient_law (a b c : api_Pix) : fiduciallaw09_PredicateOrient 5000 a b c = some true := by
  unfold fiduciallaw09_PredicateOrient
  have hr := orient_range a b c
  rw [known09_v]
  simp only [bdO, orient_v (n := 5000) (by omega), rorient_v (n := 5000) (by omega), all_v (n := 5000) (l := [a, b, c]) (by simp) (by simp), check_v (n := 5000) (l := [a, b, c]) (by omega) (by simp) (by simp), orient_turn a b c, orient_swap a b c,
    wrap64_in (n := 0 - orientZ a b c) (by omega) (by omega)]
  have e : (-orientZ a b c == 0 - orientZ a b c) = true := by simp
  rw [e]
  simp only [beq_self_eq_true]
  cases ([a, b, c] : List api_Pix).any badP <;> rfl
end Go.L
