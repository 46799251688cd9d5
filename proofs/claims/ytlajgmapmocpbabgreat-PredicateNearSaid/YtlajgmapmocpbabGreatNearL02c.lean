import Derived.Test.YtlajgmapmocpbabGreatNearL02p
import Derived.Test.YtlajgmapmocpbabGreatNearL02r
set_option linter.unusedSimpArgs false
set_option linter.unusedVariables false
set_option linter.unusedVariables false
namespace Go.L
open Go Go.Eng
theorem QL.tight {nn dn : Bool} {ng dg : List Int} {r : Rat} {j : Nat} (h : QL nn ng dn dg r j) {p q : Int} {k : Nat} (hr : r = Rat.divInt p q) (hq : 0 < q) (h1 : -pB k < p) (h2 : p < pB k) (h3 : q < pB k) : QL nn ng dn dg r k := by
  subst hr
  have hg := gZ_pos (v := p) (w := q) (by omega)
  have a1 := abs_ediv_le p _ hg (gZ_dvd_left p q)
  have a2 := abs_ediv_le q _ hg (gZ_dvd_right p q)
  have e1 := divInt_num (p := p) hq
  have e2 := divInt_den (p := p) hq
  refine ⟨h.num, h.den, isI_len h.num (by rw [e1]; omega) (by rw [e1]; omega), isI_len h.den (by rw [e2]; have := pB_pos k; omega) (by rw [e2]; omega)⟩
theorem sgn_le {p q s t : Int} (hq : 0 < q) (ht : 0 < t) (h : p * t ≤ s * q) : sgn (Rat.divInt p q - Rat.divInt s t).num ≤ 0 := by
  have e : 0 ≤ Rat.divInt s t - Rat.divInt p q := by
    rw [Rat.divInt_sub_divInt _ _ (by omega) (by omega)]
    refine Rat.divInt_nonneg (by omega) (Int.le_of_lt (Int.mul_pos ht hq))
  have e2 : Rat.divInt p q - Rat.divInt s t = -(Rat.divInt s t - Rat.divInt p q) := by grind
  rw [e2, Rat.neg_num, sgn_neg]
  have h0 := Rat.num_nonneg.2 e
  have := sgn_cases (Rat.divInt s t - Rat.divInt p q).num
  omega
theorem pB3 : pB 3 = 1000000000000000000000000000 := rfl
end Go.L

