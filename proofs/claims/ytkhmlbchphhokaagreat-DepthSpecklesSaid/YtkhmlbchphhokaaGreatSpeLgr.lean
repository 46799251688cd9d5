import Derived.Test.YtkhmlbchphhokaaGreatPl6afednhol
set_option linter.unusedVariables false
set_option linter.unusedSimpArgs false
namespace Go.L
open Go Go.Eng
inductive Rc (E : Nat → Nat → Prop) : Nat → Nat → Prop
  | refl (a : Nat) : Rc E a a
  | step {a b c : Nat} : Rc E a b → E b c → Rc E a c
section
variable {E : Nat → Nat → Prop} {m : Nat}
theorem Rc.trans {a b c : Nat} (h : Rc E a b) (k : Rc E b c) : Rc E a c := by
  induction k with
  | refl => exact h
  | step _ e ih => exact .step ih e
theorem Rc.one {a b : Nat} (h : E a b) : Rc E a b := .step (.refl a) h
theorem Rc.symm (hs : ∀ a b, E a b → E b a) {a b : Nat} (h : Rc E a b) : Rc E b a := by
  induction h with
  | refl => exact .refl _
  | step _ e ih => exact Rc.trans (.one (hs _ _ e)) ih
theorem Rc.inv {P : Nat → Prop} (hP : ∀ p q, E p q → P p → P q) {a b : Nat} (h : Rc E a b) (ha : P a) : P b := by
  induction h with
  | refl => exact ha
  | step _ e ih => exact hP _ _ e ih
def Mn (E : Nat → Nat → Prop) (k : Nat) : Prop := ∀ u, Rc E k u → k ≤ u
def Lg (E : Nat → Nat → Prop) (lab : Nat → Int) : Prop := ∀ u, ∃ j : Nat, lab u = (j : Int) ∧ Rc E u j ∧ j ≤ u
def op2 (lab : Nat → Int) (k n : Nat) : Nat → Int := fun u => if u = k ∨ u = n then mn (lab k) (lab n) else lab u
theorem mn_min (a b : Int) : (mn a b = a ∧ a ≤ b) ∨ (mn a b = b ∧ b ≤ a) := by rw [mn_eq]; omega
structure Pr (E : Nat → Nat → Prop) (lab0 lab : Nat → Int) (D : Nat → Nat → Prop) : Prop where
  sub : ∀ k n, D k n → E k n
  lg : Lg E lab
  keep : ∀ z : Nat, Mn E z → ∀ u, Rc E z u → lab0 u = (z : Int) → lab u = (z : Int)
  done : ∀ k n, D k n → ∀ z : Nat, Mn E z → Rc E z k → (lab0 k = (z : Int) → lab n = (z : Int)) ∧ (lab0 n = (z : Int) → lab k = (z : Int))
theorem lab_ge (hs : ∀ a b, E a b → E b a) {lab : Nat → Int} (h : Lg E lab) {z u : Nat} (hz : Mn E z) (hu : Rc E z u) : (z : Int) ≤ lab u := by
  obtain ⟨j, h1, h2, _⟩ := h u
  have := hz j (hu.trans h2)
  omega
theorem op2_z (hs : ∀ a b, E a b → E b a) {lab : Nat → Int} (h : Lg E lab) {k n z : Nat} (he : E k n) (hz : Mn E z) (hk : Rc E z k) (hv : lab k = (z : Int) ∨ lab n = (z : Int)) : mn (lab k) (lab n) = (z : Int) := by
  have h1 := lab_ge hs h hz hk
  have h2 := lab_ge hs h hz (hk.step he)
  rw [mn_eq]; omega
theorem Pr.op (hs : ∀ a b, E a b → E b a) {lab0 lab : Nat → Int} {D : Nat → Nat → Prop} (h : Pr E lab0 lab D) {k n : Nat} (he : E k n) (hkn : k ≤ n) : Pr E lab0 (op2 lab k n) (fun a b => D a b ∨ (a = k ∧ b = n)) := by
  have keep' : ∀ z : Nat, Mn E z → ∀ u, Rc E z u → lab u = (z : Int) → op2 lab k n u = (z : Int) := by
    intro z hz u hu hv
    unfold op2
    by_cases hukn : u = k ∨ u = n
    · rw [if_pos hukn]
      rcases hukn with rfl | rfl
      · exact op2_z hs h.lg he hz hu (.inl hv)
      · exact op2_z hs h.lg he hz (hu.step (hs _ _ he)) (.inr hv)
    · rw [if_neg hukn]; exact hv
  refine ⟨fun a b hab => hab.elim (h.sub a b) (fun e => by rw [e.1, e.2]; exact he), fun u => ?_, fun z hz u hu h0 => keep' z hz u hu (h.keep z hz u hu h0), ?_⟩
  · obtain ⟨j1, a1, a2, a3⟩ := h.lg k
    obtain ⟨j2, b1, b2, b3⟩ := h.lg n
    unfold op2
    by_cases hukn : u = k ∨ u = n
    · rw [if_pos hukn]
      rcases mn_min (lab k) (lab n) with ⟨e, hle⟩ | ⟨e, hle⟩
      · rcases hukn with rfl | rfl
        · exact ⟨j1, by rw [e, a1], a2, a3⟩
        · exact ⟨j1, by rw [e, a1], (Rc.one (hs _ _ he)).trans a2, by omega⟩
      · rcases hukn with rfl | rfl
        · exact ⟨j2, by rw [e, b1], (Rc.one he).trans b2, by rw [a1, b1] at hle; omega⟩
        · exact ⟨j2, by rw [e, b1], b2, b3⟩
    · rw [if_neg hukn]; exact h.lg u
  · rintro a b (hab | ⟨rfl, rfl⟩) z hz ha
    · have hd := h.done a b hab z hz ha
      exact ⟨fun h0 => keep' z hz b (ha.step (h.sub a b hab)) (hd.1 h0), fun h0 => keep' z hz a ha (hd.2 h0)⟩
    · have e1 : op2 lab a b a = mn (lab a) (lab b) := by unfold op2; rw [if_pos (.inl rfl)]
      have e2 : op2 lab a b b = mn (lab a) (lab b) := by unfold op2; rw [if_pos (.inr rfl)]
      rw [e1, e2]
      exact ⟨fun h0 => op2_z hs h.lg he hz ha (.inl (h.keep z hz _ ha h0)), fun h0 => op2_z hs h.lg he hz ha (.inr (h.keep z hz _ (ha.step he) h0))⟩
theorem Pr.start {lab : Nat → Int} (h : Lg E lab) : Pr E lab lab (fun _ _ => False) := ⟨fun _ _ h => h.elim, h, fun _ _ _ _ h => h, fun _ _ h => h.elim⟩
end
end Go.L

