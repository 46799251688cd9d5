import Derived.Test.YtkhmlbchphhokaaGreatHulL09b
set_option linter.all false
namespace Go.L
open Go Go.Eng
def betwB (a b c : api_Pix) : Bool := !(badP a || badP b || badP c) && onB a b c
theorem least_v (n : Nat) (a b : Int) : fiducialref09_least n a b = some (if a < b then a else b) := by
 unfold fiducialref09_least; by_cases h : a < b <;> simp [h, cdO]
theorem most_v (n : Nat) (a b : Int) : fiducialref09_most n a b = some (if a > b then a else b) := by
 unfold fiducialref09_most; by_cases h : a > b <;> simp [h, cdO]
theorem sgn_zero {z : Int} : sgn z = 0 ↔ z = 0 := by have := sgn_cases z; omega
theorem rbetween_v {n : Nat} (h : 10 < n) (a b c : api_Pix) : fiducialref09_Between n a b c = some (betwB a b c) := by
 unfold fiducialref09_Between betwB
 rw [all_v (by simp; omega) (by simp)]
 have e : ([a, b, c] : List api_Pix).any badP = (badP a || badP b || badP c) := by simp [Bool.or_assoc]
 rw [e]
 cases hb : (badP a || badP b || badP c) with
 | true => rfl
 | false =>
  have ho : orientZ a b c = sgn (crossZ a b c) := by unfold orientZ; rw [hb]; rfl
  simp only [bdO, rorient_v h, ho, least_v, most_v]
  unfold onB
  by_cases hc : crossZ a b c = 0
  · have hs : sgn (crossZ a b c) = 0 := sgn_zero.2 hc
    have hbox := on_box hc
    have d1 : (sgn (crossZ a b c) != 0) = false := by rw [hs]; rfl
    have d2 : (crossZ a b c == 0) = true := by rw [hc]; rfl
    rw [d1, d2]
    have fin : ∀ (P Q R S : Prop) [Decidable P] [Decidable Q] [Decidable R] [Decidable S], (cdO (decide P) (cdO (decide Q) (cdO (decide R) (some (decide S)) (some false)) (some false)) (some false)) = some (decide (P ∧ Q ∧ R ∧ S)) := by
     intro P Q R S _ _ _ _
     by_cases hP : P <;> by_cases hQ : Q <;> by_cases hR : R <;> by_cases hS : S <;> simp [hP, hQ, hR, hS, cdO]
    refine (fin _ _ _ _).trans ?_
    congr 1
    simp only [Bool.not_false, Bool.true_and]
    rw [decide_eq_decide, hbox]
    split <;> split <;> split <;> split <;> omega
  · have hs : sgn (crossZ a b c) ≠ 0 := fun e => hc (sgn_zero.1 e)
    have d1 : (sgn (crossZ a b c) != 0) = true := by simpa using hs
    have d2 : (crossZ a b c == 0) = false := by simpa using hc
    rw [d1, d2]; rfl
end Go.L

