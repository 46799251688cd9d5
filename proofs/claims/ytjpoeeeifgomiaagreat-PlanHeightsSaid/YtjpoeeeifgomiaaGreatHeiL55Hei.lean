import Derived.Test.YtjpoeeeifgomiaaGreatHeiL55a
set_option linter.unusedVariables false
set_option linter.unusedSimpArgs false
namespace Go.L
open Go Go.Eng
def hhv (s : api_Survey) (p : Int) : Int := s.Low + p * s.Focal / 64
theorem hexp {s : api_Survey} (ok : OkS s) {p : Int} (hp : 1 ≤ p ∧ p ≤ 1048576) :
    wrapF .i64 (p * s.Focal) = p * s.Focal ∧ wrapF .i64 (s.Low + wrapF .i64 ((wrapF .i64 (p * s.Focal)).tdiv 64)) = hhv s p ∧ (-1048576 ≤ hhv s p ∧ hhv s p ≤ 2199023255552) ∧ 64 * (hhv s p - s.Low) ≤ p * s.Focal ∧ p * s.Focal < 64 * (hhv s p + 1 - s.Low) := by
  have h1 := prod_in (a := p) (b := s.Focal) (by omega) ok.fo
  have hlo := ok.lo
  unfold hhv
  generalize p * s.Focal = x at *
  have e : x.tdiv 64 = x / 64 := Int.tdiv_eq_ediv_of_nonneg h1.1
  have e1 : wrapF .i64 x = x := wrap64_in (by omega) (by omega)
  rw [e1, e, wrap64_in (n := x / 64) (by omega) (by omega), wrap64_in (by omega) (by omega)]
  omega
theorem heights_v (s : api_Survey) (p : Int) : fiduciallaw55_PlanHeights 5000 s p = some true := by
  apply Ok.eq
  unfold fiduciallaw55_PlanHeights
  refine Ok.bde known55_v (Ok.cd (fun h => by cases h) (fun _ => ?_))
  by_cases hc : chk s = 0
  · obtain ⟨ok, hlh⟩ := chk_zero hc
    by_cases hp : 1 ≤ p ∧ p ≤ 1048576
    · obtain ⟨e1, e2, b1, b2, b3⟩ := hexp ok hp
      have d1 : decide (p < 1) = false := by simp; omega
      have d2 : decide (p > 1048576) = false := by simp; omega
      have hH : plan_Height 5000 s p = some (if hhv s p ≤ s.High then (0, 15) else if hhv s p > 1048576 then (0, 3) else (hhv s p, 0)) := by
        unfold plan_Height
        rw [check_v, hc, d1, d2, e2]
        by_cases h1 : hhv s p ≤ s.High
        · simp [bdO, cdO, h1]
        · by_cases h2 : hhv s p > 1048576
          · simp [bdO, cdO, h1, h2]
          · simp [bdO, cdO, h1, h2]
      rw [hH, rcheck_v (by omega), hc, d1, d2, e2, e1]
      by_cases h1 : hhv s p ≤ s.High
      · simp [bdO, cdO, h1, ok_some]
      · by_cases h2 : hhv s p > 1048576
        · simp [bdO, cdO, h1, h2, ok_some]
        · have hlo := ok.lo
          have f1 : wrapF .i64 (hhv s p - s.Low) = hhv s p - s.Low := wrap64_in (by omega) (by omega)
          have f2 : wrapF .i64 (64 * (hhv s p - s.Low)) = 64 * (hhv s p - s.Low) := wrap64_in (by omega) (by omega)
          have f3 : wrapF .i64 (hhv s p + 1) = hhv s p + 1 := wrap64_in (by omega) (by omega)
          have f4 : wrapF .i64 (hhv s p + 1 - s.Low) = hhv s p + 1 - s.Low := wrap64_in (by omega) (by omega)
          have f5 : wrapF .i64 (64 * (hhv s p + 1 - s.Low)) = 64 * (hhv s p + 1 - s.Low) := wrap64_in (by omega) (by omega)
          simp [bdO, cdO, h1, h2, ok_some, f1, f2, f3, f4, f5]
          have g1 : decide (64 * (hhv s p - s.Low) ≤ p * s.Focal) = true := by simpa using b2
          rw [g1]
          exact ok_some.2 (by simpa using b3)
    · have hH : plan_Height 5000 s p = some (0, 2) := by
        unfold plan_Height
        rw [check_v, hc]
        by_cases h1 : p < 1
        · simp [bdO, cdO, h1]
        · have h2 : p > 1048576 := by omega
          simp [bdO, cdO, h1, h2]
      rw [hH, rcheck_v (by omega), hc]
      by_cases h1 : p < 1
      · simp [bdO, cdO, h1, ok_some]
      · have h2 : p > 1048576 := by omega
        simp [bdO, cdO, h1, h2, ok_some]
  · have b1 : (chk s != 0) = true := by simpa using hc
    have b2 : (chk s == 0) = false := by simpa using hc
    have hH : plan_Height 5000 s p = some (0, chk s) := by
      unfold plan_Height
      rw [check_v]
      simp [bdO, cdO, b1]
    rw [hH, rcheck_v (by omega)]
    simp [bdO, cdO, b1, b2, ok_some]
end Go.L

