import Derived.Test.YtlajgmapmocpbaaGreatTotL59c
set_option linter.unusedVariables false
set_option linter.unusedSimpArgs false
namespace Go.L
open Go Go.Eng
def truthS (b : api_Banded) (k : Nat) (p : Int) : Int := b.Grid.Z.getD k default - b.Err.getD k default + (2 * b.Err.getD k default * p) / 255
theorem truth_bd {e p : Int} (he : 0 ≤ e) (hp : 0 ≤ p) (hp2 : p ≤ 255) : 0 ≤ (2 * e * p) / 255 ∧ (2 * e * p) / 255 ≤ 2 * e := by
  have h1 : 0 ≤ 2 * e * p := Int.mul_nonneg (by omega) hp
  have h2 : 2 * e * p ≤ 2 * e * 255 := Int.mul_le_mul_of_nonneg_left hp2 (by omega)
  omega
theorem truth_v {n : Nat} {b : api_Banded} (g : Good b) {k : Nat} (hk : k < b.Grid.Z.length) {p : Int} (hp : 0 ≤ p) (hp2 : p ≤ 255) : fiduciallaw59_truth n b k p = some (truthS b k p) := by
  have e1 : inR (k : Int) b.Grid.Z.length = true := by rw [inR_nat]; simpa using hk
  have e3 : inR (k : Int) b.Err.length = true := by rw [inR_nat, g.elen]; simpa using hk
  have z := g.z k hk
  have e := g.e k (by rw [g.elen]; exact hk)
  unfold fiduciallaw59_truth
  rw [e1, e3]
  simp only [gt_nat, gdO]
  have h1 : 0 ≤ 2 * b.Err.getD k default * p := Int.mul_nonneg (by omega) hp
  have h2 : 2 * b.Err.getD k default * p ≤ 2 * b.Err.getD k default * 255 := Int.mul_le_mul_of_nonneg_left hp2 (by omega)
  have h3 := truth_bd e.1 hp hp2
  rw [wrap64_in (n := b.Grid.Z.getD k default - b.Err.getD k default) (by omega) (by omega), wrap64_in (n := 2 * b.Err.getD k default) (by omega) (by omega), wrap64_in (n := p) (by omega) (by omega), wrap64_in (n := 2 * b.Err.getD k default * p) (by omega) (by omega),
    Int.tdiv_eq_ediv_of_nonneg h1, wrap64_in (n := 2 * b.Err.getD k default * p / 255) (by omega) (by omega), wrap64_in (by omega) (by omega)]
  rfl
end Go.L

