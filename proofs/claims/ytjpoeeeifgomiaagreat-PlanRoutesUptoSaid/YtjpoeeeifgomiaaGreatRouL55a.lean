import Derived.Test.YtjpoeeeifgomiaaGreatRouLD
import Derived.Test.YtjpoeeeifgomiaaGreatPl6bljgkcem
import Derived.KernelRfl
set_option linter.unusedVariables false
set_option linter.unusedSimpArgs false
namespace Go.L
open Go Go.Eng
theorem known55_v : fiduciallaw55_known 5000 = some true := by kernel_rfl
open Classical in
def near (a : Int) : Prop := -1048576 ≤ a ∧ a ≤ 1048576
instance (a : Int) : Decidable (near a) := inferInstanceAs (Decidable (_ ∧ _))
theorem within_v (n : Nat) (a : Int) : plan_within n a = some (decide (near a)) := by
  unfold plan_within
  by_cases h : a ≥ -1048576
  · have : decide (a ≥ -1048576) = true := by simpa using h
    rw [this]; show some _ = _; congr 1; apply decide_eq_decide.2; unfold near; omega
  · have : decide (a ≥ -1048576) = false := by simpa using h
    rw [this]; show some _ = _; congr 1; symm; rw [decide_eq_false_iff_not]; unfold near; omega
theorem not_dec {p : Prop} [Decidable p] (h : (!decide p) = true) : ¬ p := by simpa using h
theorem dec_of {p : Prop} [Decidable p] (h : (!decide p) = false) : p := by simpa using h
def far (a : Int) : Bool := !decide (near a)
theorem far_t {a : Int} : far a = true ↔ ¬ near a := by unfold far; rw [Bool.not_eq_true', decide_eq_false_iff_not]
theorem far_f {a : Int} : far a = false ↔ near a := by unfold far; rw [Bool.not_eq_false', decide_eq_true_eq]
theorem out_v {n : Nat} {l : List Int} (hn : l.length < n) (hl : l.length ≤ 9223372036854775806) : fiduciallaw55_out n l = some (l.any far) := by
  apply Ok.eq
  unfold fiduciallaw55_out
  refine Ok.bd (R := fun o => match o with | .inl _ => l.any far = false | .inr r => r = l.any far) ?_ ?_
  · refine ok_range (len := l.length) (fun k => ∀ j, j < k → far (l.getD j default) = false) hn hl (by intro j hj; omega) ?_ ?_
    · intro again k hk hP ih
      refine Ok.cd (fun _ => Ok.gd (by rw [inR_nat]; simpa using hk) ?_) (fun h => by simp at h; omega)
      rw [gt_nat]
      have bad : far (l.getD k default) = true → (true = l.any far) := fun h => (any_of_at hk h).symm
      refine Ok.cd (fun h => ok_some.2 (bad ?_)) (fun h1 => Ok.cd (fun h => ok_some.2 (bad ?_)) (fun h2 => ih fun j hj => ?_))
      · have := of_decide_eq_true h; rw [far_t]; unfold near; omega
      · have := of_decide_eq_true h; rw [far_t]; unfold near; omega
      · by_cases hjk : j = k
        · subst hjk
          have := of_decide_eq_false h1; have := of_decide_eq_false h2
          rw [far_f]; unfold near; omega
        · exact hP j (by omega)
    · intro again hP
      exact Ok.cd (fun h => by simp at h) (fun _ => ok_some.2 (any_false_iff.2 hP))
  · rintro (_ | r) h
    · exact ok_some.2 h.symm
    · exact ok_some.2 h
end Go.L

