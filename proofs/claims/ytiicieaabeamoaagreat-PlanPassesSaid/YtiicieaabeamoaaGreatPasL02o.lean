import Derived.Test.YtiicieaabeamoaaGreatPasL02c
set_option linter.all false
set_option linter.unusedVariables false
namespace Go.L
open Go Go.Eng
theorem sgn_sub {p q s t : Int} (hq : 0 < q) (ht : 0 < t) : sgn (Rat.divInt p q - Rat.divInt s t).num = sgn (p * t - s * q) := by
 rw [Rat.divInt_sub_divInt _ _ (by omega) (by omega)]
 have hp := Int.mul_pos hq ht
 rw [divInt_num hp]
 have hg := gZ_pos (v := p * t - s * q) (w := q * t) (by omega)
 have he := gZ_dvd_left (p * t - s * q) (q * t)
 generalize gZ (p * t - s * q) (q * t) = g at *
 generalize p * t - s * q = x at *
 have h0 := sgn_cases x
 have h1 := sgn_cases (x / g)
 have a1 : 0 < x → 0 < x / g := fun h => by
  by_cases hc : 0 < x / g
  · exact hc
  · have := Int.mul_le_mul_of_nonneg_right (show x / g ≤ 0 by omega) (show 0 ≤ g by omega); omega
 have a2 : x < 0 → x / g < 0 := fun h => by
  by_cases hc : x / g < 0
  · exact hc
  · have := Int.mul_nonneg (show 0 ≤ x / g by omega) (show 0 ≤ g by omega); omega
 have a3 : x = 0 → x / g = 0 := fun h => by rw [h]; simp
 omega
end Go.L

