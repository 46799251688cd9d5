import Derived.Test.YtjpoeeeifgomiaaGreatCheL55b
set_option linter.unusedVariables false
set_option linter.unusedSimpArgs false
namespace Go.L
open Go Go.Eng
theorem checks_v (s : api_Survey) (height ground : Int) : fiduciallaw55_PlanChecks 5000 s height ground = some true := by
  apply Ok.eq
  unfold fiduciallaw55_PlanChecks
  refine Ok.bde known55_v (Ok.cd (fun h => by cases h) (fun _ => ?_))
  have bs : (chk s != chk s) = false := by simp
  by_cases hc : chk s = 0
  · have hout : fiduciallaw55_out 5000 [height, ground] = some (decide (¬ (near height ∧ near ground))) := by rw [out_v (by simp) (by simp), any2]
    by_cases hn : near height ∧ near ground
    · have ho : decide (¬ (near height ∧ near ground)) = false := by simp [hn.1, hn.2]
      by_cases hg : height ≤ ground
      · refine Ok.bde (foot_low hc hn.1 hn.2 hg) ?_
        rw [rcheck_v (by omega), check_v, hc, hout, ho]
        simp only [bdO, cdO, decide_eq_true hg]
        exact ok_some.2 rfl
      · obtain ⟨ok, _⟩ := chk_zero hc
        refine Ok.bd (foot_ok (by omega) hc hn.1 hn.2 hg) fun v hv => ?_
        obtain ⟨v1, v2, v3⟩ := v
        obtain ⟨g1, g2, g3⟩ := hv
        simp only at g1 g2 g3
        subst g3
        rw [rcheck_v (by omega), check_v, hc, hout, ho]
        simp only [bdO, cdO, decide_eq_false hg]
        refine Ok.bd (size_ok (by omega) ok hn.1 hn.2 hg) fun w hw => ?_
        refine Ok.bde (number_ok (by omega) (by omega) g1 hw.1) ?_
        exact Ok.bde (number_ok (by omega) (by omega) g2 hw.2) (ok_some.2 rfl)
    · have ho : decide (¬ (near height ∧ near ground)) = true := decide_eq_true hn
      refine Ok.bde (foot_far hc hn) ?_
      rw [rcheck_v (by omega), check_v, hc, hout, ho]
      simp only [bdO, cdO]
      exact ok_some.2 rfl
  · have b1 : (chk s != 0) = true := by simpa using hc
    have b2 : (chk s == 0) = false := by simpa using hc
    refine Ok.bde (foot_bad hc height ground) ?_
    rw [rcheck_v (by omega), check_v]
    simp only [bdO, cdO, bs, b1, b2, beq_self_eq_true]
    exact ok_some.2 rfl
end Go.L

