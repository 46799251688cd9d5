import Derived.Test.YtkhmlbchphhokaaGreatPl6jffjgihl
set_option linter.all false
namespace Go.L
open Go Go.Eng
inductive Rc (E : Nat → Nat → Prop) : Nat → Nat → Prop
 | refl (a : Nat) : Rc E a a
 | step {a b c : Nat} : Rc E a b → E b c → Rc E a c
section
variable {E : Nat → Nat → Prop} {m : Nat}
theorem Rc.trans {a b c : Nat} (h : Rc E a b) (k : Rc E b c) : Rc E a c := by
 induction k with
 | refl => exact h
 | step _ e ih => exact .step ih e
theorem Rc.one {a b : Nat} (h : E a b) : Rc E a b := .step (.refl a) h
theorem Rc.symm (hs : ∀ a b, E a b → E b a) {a b : Nat} (h : Rc E a b) : Rc E b a := by
 induction h with
 | refl => exact .refl _
 | step _ e ih => exact Rc.trans (.one (hs _ _ e)) ih
theorem Rc.first {P : Nat → Prop} {a b : Nat} (h : Rc E a b) (ha : P a) (hb : ¬ P b) : ∃ p q, Rc E a p ∧ E p q ∧ P p ∧ ¬ P q := by
 induction h with
 | refl => exact (hb ha).elim
 | @step x c h e ih =>
  by_cases hx : P x
  · exact ⟨x, c, h, e, hx, hb⟩
  · exact ih hx
theorem Rc.inv {P : Nat → Prop} (hP : ∀ p q, E p q → P p → P q) {a b : Nat} (h : Rc E a b) (ha : P a) : P b := by
 induction h with
 | refl => exact ha
 | step _ e ih => exact hP _ _ e ih
def Mn (E : Nat → Nat → Prop) (k : Nat) : Prop := ∀ u, Rc E k u → k ≤ u
def Lg (E : Nat → Nat → Prop) (lab : Nat → Int) : Prop := ∀ u, ∃ j : Nat, lab u = (j : Int) ∧ Rc E u j ∧ j ≤ u
theorem mn_min (a b : Int) : (mn a b = a ∧ a ≤ b) ∨ (mn a b = b ∧ b ≤ a) := by rw [mn_eq]; omega
structure Pr (E : Nat → Nat → Prop) (lab0 lab : Nat → Int) (D : Nat → Nat → Prop) : Prop where
 sub : ∀ k n, D k n → E k n
 lg : Lg E lab
 keep : ∀ z : Nat, Mn E z → ∀ u, Rc E z u → lab0 u = (z : Int) → lab u = (z : Int)
 done : ∀ k n, D k n → ∀ z : Nat, Mn E z → Rc E z k → (lab0 k = (z : Int) → lab n = (z : Int)) ∧ (lab0 n = (z : Int) → lab k = (z : Int))
theorem Pr.more {lab0 lab : Nat → Int} {D D' : Nat → Nat → Prop} (h : Pr E lab0 lab D) (hd : ∀ a b, D' a b → D a b) : Pr E lab0 lab D' := ⟨fun a b k => h.sub a b (hd a b k), h.lg, h.keep, fun a b k => h.done a b (hd a b k)⟩
end
end Go.L

