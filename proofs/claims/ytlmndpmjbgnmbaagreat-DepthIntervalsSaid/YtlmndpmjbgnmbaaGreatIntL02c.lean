import Derived.Test.YtlmndpmjbgnmbaaGreatIntL02p
import Derived.Test.YtlmndpmjbgnmbaaGreatIntL02r
set_option linter.unusedSimpArgs false
set_option linter.unusedVariables false
set_option linter.unusedVariables false
namespace Go.L
open Go Go.Eng
theorem sgn_le {p q s t : Int} (hq : 0 < q) (ht : 0 < t) (h : p * t ≤ s * q) : sgn (Rat.divInt p q - Rat.divInt s t).num ≤ 0 := by
  have e : 0 ≤ Rat.divInt s t - Rat.divInt p q := by
    rw [Rat.divInt_sub_divInt _ _ (by omega) (by omega)]
    refine Rat.divInt_nonneg (by omega) (Int.le_of_lt (Int.mul_pos ht hq))
  have e2 : Rat.divInt p q - Rat.divInt s t = -(Rat.divInt s t - Rat.divInt p q) := by grind
  rw [e2, Rat.neg_num, sgn_neg]
  have h0 := Rat.num_nonneg.2 e
  have := sgn_cases (Rat.divInt s t - Rat.divInt p q).num
  omega
theorem pB2 : pB 2 = 1000000000000000000 := rfl
end Go.L

