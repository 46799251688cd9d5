import Derived.Test.YtlajgmapmocpbabGreatPl6habadjnj
set_option linter.unusedVariables false
set_option linter.unusedSimpArgs false
namespace Go.L
open Go Go.Eng
inductive Rc (E : Nat → Nat → Prop) : Nat → Nat → Prop
  | refl (a : Nat) : Rc E a a
  | step {a b c : Nat} : Rc E a b → E b c → Rc E a c
section
variable {E : Nat → Nat → Prop} {m : Nat}
theorem Rc.trans {a b c : Nat} (h : Rc E a b) (k : Rc E b c) : Rc E a c := by
  induction k with
  | refl => exact h
  | step _ e ih => exact .step ih e
theorem Rc.one {a b : Nat} (h : E a b) : Rc E a b := .step (.refl a) h
theorem Rc.symm (hs : ∀ a b, E a b → E b a) {a b : Nat} (h : Rc E a b) : Rc E b a := by
  induction h with
  | refl => exact .refl _
  | step _ e ih => exact Rc.trans (.one (hs _ _ e)) ih
theorem Rc.first {P : Nat → Prop} {a b : Nat} (h : Rc E a b) (ha : P a) (hb : ¬ P b) : ∃ p q, Rc E a p ∧ E p q ∧ P p ∧ ¬ P q := by
  induction h with
  | refl => exact (hb ha).elim
  | @step x c h e ih =>
    by_cases hx : P x
    · exact ⟨x, c, h, e, hx, hb⟩
    · exact ih hx
theorem Rc.inv {P : Nat → Prop} (hP : ∀ p q, E p q → P p → P q) {a b : Nat} (h : Rc E a b) (ha : P a) : P b := by
  induction h with
  | refl => exact ha
  | step _ e ih => exact hP _ _ e ih
def Mn (E : Nat → Nat → Prop) (k : Nat) : Prop := ∀ u, Rc E k u → k ≤ u
theorem mn_ex (E : Nat → Nat → Prop) (k : Nat) : ∃ z, Rc E k z ∧ Mn E z := by
  induction k using Nat.strongRecOn with
  | _ k ih =>
    by_cases h : Mn E k
    · exact ⟨k, .refl k, h⟩
    · obtain ⟨u, hu⟩ := Classical.not_forall.1 h
      obtain ⟨h1, h2⟩ := Classical.not_imp.1 hu
      obtain ⟨z, h3, h4⟩ := ih u (by omega)
      exact ⟨z, h1.trans h3, h4⟩
def Lg (E : Nat → Nat → Prop) (lab : Nat → Int) : Prop := ∀ u, ∃ j : Nat, lab u = (j : Int) ∧ Rc E u j ∧ j ≤ u
def op2 (lab : Nat → Int) (k n : Nat) : Nat → Int := fun u => if u = k ∨ u = n then mn (lab k) (lab n) else lab u
theorem mn_min (a b : Int) : (mn a b = a ∧ a ≤ b) ∨ (mn a b = b ∧ b ≤ a) := by rw [mn_eq]; omega
structure Pr (E : Nat → Nat → Prop) (lab0 lab : Nat → Int) (D : Nat → Nat → Prop) : Prop where
  sub : ∀ k n, D k n → E k n
  lg : Lg E lab
  keep : ∀ z : Nat, Mn E z → ∀ u, Rc E z u → lab0 u = (z : Int) → lab u = (z : Int)
  done : ∀ k n, D k n → ∀ z : Nat, Mn E z → Rc E z k → (lab0 k = (z : Int) → lab n = (z : Int)) ∧ (lab0 n = (z : Int) → lab k = (z : Int))
theorem lab_ge (hs : ∀ a b, E a b → E b a) {lab : Nat → Int} (h : Lg E lab) {z u : Nat} (hz : Mn E z) (hu : Rc E z u) : (z : Int) ≤ lab u := by
  obtain ⟨j, h1, h2, _⟩ := h u
  have := hz j (hu.trans h2)
  omega
theorem op2_z (hs : ∀ a b, E a b → E b a) {lab : Nat → Int} (h : Lg E lab) {k n z : Nat} (he : E k n) (hz : Mn E z) (hk : Rc E z k) (hv : lab k = (z : Int) ∨ lab n = (z : Int)) : mn (lab k) (lab n) = (z : Int) := by
  have h1 := lab_ge hs h hz hk
  have h2 := lab_ge hs h hz (hk.step he)
  rw [mn_eq]; omega
theorem Pr.op (hs : ∀ a b, E a b → E b a) {lab0 lab : Nat → Int} {D : Nat → Nat → Prop} (h : Pr E lab0 lab D) {k n : Nat} (he : E k n) (hkn : k ≤ n) : Pr E lab0 (op2 lab k n) (fun a b => D a b ∨ (a = k ∧ b = n)) := by
  have keep' : ∀ z : Nat, Mn E z → ∀ u, Rc E z u → lab u = (z : Int) → op2 lab k n u = (z : Int) := by
    intro z hz u hu hv
    unfold op2
    by_cases hukn : u = k ∨ u = n
    · rw [if_pos hukn]
      rcases hukn with rfl | rfl
      · exact op2_z hs h.lg he hz hu (.inl hv)
      · exact op2_z hs h.lg he hz (hu.step (hs _ _ he)) (.inr hv)
    · rw [if_neg hukn]; exact hv
  refine ⟨fun a b hab => hab.elim (h.sub a b) (fun e => by rw [e.1, e.2]; exact he), fun u => ?_, fun z hz u hu h0 => keep' z hz u hu (h.keep z hz u hu h0), ?_⟩
  · obtain ⟨j1, a1, a2, a3⟩ := h.lg k
    obtain ⟨j2, b1, b2, b3⟩ := h.lg n
    unfold op2
    by_cases hukn : u = k ∨ u = n
    · rw [if_pos hukn]
      rcases mn_min (lab k) (lab n) with ⟨e, hle⟩ | ⟨e, hle⟩
      · rcases hukn with rfl | rfl
        · exact ⟨j1, by rw [e, a1], a2, a3⟩
        · exact ⟨j1, by rw [e, a1], (Rc.one (hs _ _ he)).trans a2, by omega⟩
      · rcases hukn with rfl | rfl
        · exact ⟨j2, by rw [e, b1], (Rc.one he).trans b2, by rw [a1, b1] at hle; omega⟩
        · exact ⟨j2, by rw [e, b1], b2, b3⟩
    · rw [if_neg hukn]; exact h.lg u
  · rintro a b (hab | ⟨rfl, rfl⟩) z hz ha
    · have hd := h.done a b hab z hz ha
      exact ⟨fun h0 => keep' z hz b (ha.step (h.sub a b hab)) (hd.1 h0), fun h0 => keep' z hz a ha (hd.2 h0)⟩
    · have e1 : op2 lab a b a = mn (lab a) (lab b) := by unfold op2; rw [if_pos (.inl rfl)]
      have e2 : op2 lab a b b = mn (lab a) (lab b) := by unfold op2; rw [if_pos (.inr rfl)]
      rw [e1, e2]
      exact ⟨fun h0 => op2_z hs h.lg he hz ha (.inl (h.keep z hz _ ha h0)), fun h0 => op2_z hs h.lg he hz ha (.inr (h.keep z hz _ (ha.step he) h0))⟩
theorem Pr.start {lab : Nat → Int} (h : Lg E lab) : Pr E lab lab (fun _ _ => False) := ⟨fun _ _ h => h.elim, h, fun _ _ _ _ h => h, fun _ _ h => h.elim⟩
theorem Pr.more {lab0 lab : Nat → Int} {D D' : Nat → Nat → Prop} (h : Pr E lab0 lab D) (hd : ∀ a b, D' a b → D a b) : Pr E lab0 lab D' := ⟨fun a b k => h.sub a b (hd a b k), h.lg, h.keep, fun a b k => h.done a b (hd a b k)⟩
noncomputable def bad (E : Nat → Nat → Prop) (m z : Nat) (lab : Nat → Int) : Nat := ((List.range m).filter fun u => @decide (Rc E z u ∧ lab u ≠ (z : Int)) (Classical.propDecidable _)).length
theorem bad_le (E : Nat → Nat → Prop) (m z : Nat) (lab : Nat → Int) : bad E m z lab ≤ m := by
  unfold bad
  have := List.length_filter_le (fun u => @decide (Rc E z u ∧ lab u ≠ (z : Int)) (Classical.propDecidable _)) (List.range m)
  simpa using this
theorem bad_zero {z : Nat} {lab : Nat → Int} (h : bad E m z lab = 0) {u : Nat} (hu : u < m) (hr : Rc E z u) : lab u = (z : Int) := by
  unfold bad at h
  rw [List.length_eq_zero_iff, List.filter_eq_nil_iff] at h
  have := h u (List.mem_range.2 hu)
  simp only [decide_eq_true_eq, not_and, Classical.not_not] at this
  exact this hr
theorem bad_step (hm : ∀ a b, E a b → a < m ∧ b < m) {z : Nat} (hzm : z < m) (hz : Mn E z) {lab0 lab : Nat → Int} {D : Nat → Nat → Prop} (h : Pr E lab0 lab D) (hD : ∀ a b, E a b → D a b ∨ D b a) (hs : ∀ a b, E a b → E b a) (h0 : lab0 z = (z : Int)) : bad E m z lab = 0 ∨ bad E m z lab < bad E m z lab0 := by
  by_cases hb : bad E m z lab0 = 0
  · left
    unfold bad
    rw [List.length_eq_zero_iff, List.filter_eq_nil_iff]
    intro u hu
    have hu := List.mem_range.1 hu
    simp only [decide_eq_true_eq, not_and, Classical.not_not]
    exact fun hr => h.keep z hz u hr (bad_zero hb hu hr)
  · right
    have : ∃ u, u < m ∧ Rc E z u ∧ lab0 u ≠ (z : Int) := by
      apply Classical.byContradiction
      intro hn
      apply hb
      unfold bad
      rw [List.length_eq_zero_iff, List.filter_eq_nil_iff]
      intro u hu
      have hu := List.mem_range.1 hu
      simp only [decide_eq_true_eq]
      exact fun hh => hn ⟨u, hu, hh⟩
    obtain ⟨u, hu, hr, hne⟩ := this
    obtain ⟨p, q, c1, c2, c3, c4⟩ := Rc.first (P := fun x => lab0 x = (z : Int)) hr h0 hne
    have hq : lab q = (z : Int) := by
      rcases hD p q c2 with hd | hd
      · exact (h.done p q hd z hz c1).1 c3
      · exact (h.done q p hd z hz (c1.step c2)).2 c3
    have hsub : (List.range m).filter (fun u => @decide (Rc E z u ∧ lab u ≠ (z : Int)) (Classical.propDecidable _)) = ((List.range m).filter (fun u => @decide (Rc E z u ∧ lab0 u ≠ (z : Int)) (Classical.propDecidable _))).filter (fun u => @decide (Rc E z u ∧ lab u ≠ (z : Int)) (Classical.propDecidable _)) := by
      rw [List.filter_filter]
      apply List.filter_congr
      intro x hx
      by_cases hx1 : Rc E z x ∧ lab x ≠ (z : Int)
      · have hx2 : Rc E z x ∧ lab0 x ≠ (z : Int) := ⟨hx1.1, fun e => hx1.2 (h.keep z hz x hx1.1 e)⟩
        simp [hx1, hx2]
      · simp [hx1]
    unfold bad
    rw [hsub, List.length_filter_lt_length_iff_exists]
    refine ⟨q, List.mem_filter.2 ⟨List.mem_range.2 (hm p q c2).2, ?_⟩, ?_⟩
    · simp only [decide_eq_true_eq]; exact ⟨c1.step c2, c4⟩
    · simp only [decide_eq_true_eq]; exact fun hh => hh.2 hq
end
end Go.L

