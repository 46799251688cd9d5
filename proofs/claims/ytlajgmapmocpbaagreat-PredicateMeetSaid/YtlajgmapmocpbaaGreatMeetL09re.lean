/- Layer 9, P9.4: Relate. -/
import Derived.Test.YtlajgmapmocpbaaGreatMeetL09d
set_option linter.unusedVariables false
set_option linter.unusedSimpArgs false
namespace Go.L
open Go Go.Eng

theorem orient_in {a b c : api_Pix} (ha : In a) (hb : In b) (hc : In c) : orientZ a b c = sgn (crossZ a b c) := by
  unfold orientZ; rw [ha, hb, hc]; rfl
theorem betw_in {a b c : api_Pix} (ha : In a) (hb : In b) (hc : In c) : betwB a b c = onB a b c := by
  unfold betwB; rw [ha, hb, hc]; rfl
theorem rrelate_in {n : Nat} (h : 10 < n) {a b c d : api_Pix} (hb : ([a, b, c, d] : List api_Pix).any badP = false) : fiducialref09_Relate n a b c d = some (relP a b c d) := by
  obtain ⟨ha, hb, hc, hd⟩ := in4 hb
  unfold fiducialref09_Relate relP relZ
  rw [rends_v h, betw_in hc hd ha, betw_in hc hd hb, betw_in ha hb hc, betw_in ha hb hd]
  simp only [bdO, rorient_v h, orient_in ha hb hc, orient_in ha hb hd, orient_in hc hd ha, orient_in hc hd hb, wrap_sgn]
  generalize (endsL a b c d (onB c d a) (onB c d b) (onB a b c) (onB a b d)).length = k
  by_cases h0 : k = 0
  · subst h0
    by_cases hp : sgn (crossZ a b c) * sgn (crossZ a b d) < 0 <;> by_cases hq : sgn (crossZ c d a) * sgn (crossZ c d b) < 0 <;> simp [hp, hq, cdO]
  · by_cases h1 : k = 1
    · subst h1; rfl
    · have d0 : decide ((k : Int) > 1) = true := by simp; omega
      have d2 : ¬ (k : Int) = 0 := by omega
      have d3 : ¬ (k : Int) = 1 := by omega
      simp only [d0, d2, d3, if_false, cdO]

end Go.L
