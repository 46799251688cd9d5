/- Plain laws, part 2: what the loops of Go's slices package compute, in the form in which they are printed; signs and bounds. -/
import Derived.Test.YtlajgmapmocpbaaGreatPl1e
set_option linter.unusedVariables false
set_option linter.unusedSimpArgs false
namespace Go.L
open Go Go.Eng

/-- The first place at which p holds, or -1. -/
def idxB {γ : Type} (p : γ → Bool) : List γ → Int
  | [] => -1
  | x :: s => bif p x then 0 else bif decide (idxB p s ≥ 0) then idxB p s + 1 else -1
theorem idxB_ge {γ : Type} (p : γ → Bool) : ∀ s : List γ, decide (idxB p s ≥ 0) = s.any p
  | [] => rfl
  | x :: s => by
    have ih := idxB_ge p s
    rw [List.any_cons, ← ih, idxB]
    cases p x with
    | true => rfl
    | false =>
      by_cases h : idxB p s ≥ 0
      · simp only [decide_eq_true h, cond_true, cond_false, Bool.false_or]; simp; omega
      · simp only [decide_eq_false h, cond_true, cond_false, Bool.false_or]; rfl
theorem idxB_none {γ : Type} [Inhabited γ] (p : γ → Bool) : ∀ s : List γ, (∀ j, j < s.length → p (s.getD j default) = false) → idxB p s = -1
  | [], _ => rfl
  | x :: s, h => by
    have h0 : p x = false := by simpa using h 0 (by simp)
    have ih := idxB_none p s (fun j hj => by simpa using h (j + 1) (by simpa using hj))
    simp only [idxB, h0, ih, cond_false]; rfl
theorem idxB_at {γ : Type} [Inhabited γ] (p : γ → Bool) : ∀ (s : List γ) (k : Nat), k < s.length → (∀ j, j < k → p (s.getD j default) = false) → p (s.getD k default) = true → idxB p s = k
  | [], k, hk, _, _ => by simp at hk
  | x :: s, 0, _, _, h => by
    have h0 : p x = true := by simpa using h
    simp only [idxB, h0, cond_true]; rfl
  | x :: s, k + 1, hk, h, h1 => by
    have h0 : p x = false := by simpa using h 0 (by omega)
    have ih := idxB_at p s k (by simpa using hk) (fun j hj => by simpa using h (j + 1) (by omega)) (by simpa using h1)
    simp only [idxB, h0, ih, cond_false]
    have : decide ((k : Int) ≥ 0) = true := by simp
    rw [this, cond_true]; omega

/-- slices.IndexFunc, as it is printed. -/
theorem loop_indexF {γ : Type} [Inhabited γ] {n : Nat} {s : List γ} {f : γ → Option Bool} {p : γ → Bool} (hf : ∀ x, f x = some (p x)) (hn : s.length < n) (hl : s.length ≤ 9223372036854775806) :
    bdO (loopO (α := Int) (β := Sum (Unit) (Int)) n (fun again x => cdO (decide (x < (s.length : Int))) (gdO (inR x s.length) (bdO (f (gt s x)) fun v => (cdO v (some (Sum.inr (x))) (again (wrapF .i64 (x + 1)))))) (some (Sum.inl ()))) 0) (fun o => match o with | .inl _ => some (-1) | .inr r0 => some r0) = some (idxB p s) := by
  apply Ok.eq
  refine Ok.bd (R := fun o => match o with | .inl _ => idxB p s = -1 | .inr r => r = idxB p s) ?_ ?_
  · refine ok_range (len := s.length) (fun k => ∀ j, j < k → p (s.getD j default) = false) hn hl (by intro j hj; omega) ?_ ?_
    · intro again k hk hP ih
      refine Ok.cd (fun _ => ?_) (fun h => ?_)
      · refine Ok.gd (by rw [inR_nat]; simpa using hk) ?_
        rw [gt_nat, hf]
        refine Ok.cd (fun h => ?_) (fun h => ?_)
        · exact ok_some.2 (idxB_at p s k hk hP h).symm
        · exact ih fun j hj => by
            by_cases hjk : j = k
            · rw [hjk]; exact h
            · exact hP j (by omega)
      · simp at h; omega
    · intro again hP
      refine Ok.cd (fun h => ?_) (fun _ => ?_)
      · simp at h
      · exact ok_some.2 (idxB_none p s hP)
  · rintro (_ | r) h
    · exact ok_some.2 h.symm
    · exact ok_some.2 h
/-- slices.Index, as it is printed. -/
theorem loop_index {γ : Type} [Inhabited γ] {n : Nat} {s : List γ} {p : γ → Bool} (hn : s.length < n) (hl : s.length ≤ 9223372036854775806) :
    bdO (loopO (α := Int) (β := Sum (Unit) (Int)) n (fun again x => cdO (decide (x < (s.length : Int))) (gdO (inR x s.length) (cdO (p (gt s x)) (some (Sum.inr (x))) (again (wrapF .i64 (x + 1))))) (some (Sum.inl ()))) 0) (fun o => match o with | .inl _ => some (-1) | .inr r0 => some r0) = some (idxB p s) :=
  loop_indexF (f := fun x => some (p x)) (fun _ => rfl) hn hl
/-- A loop that stops at the first element that is not such. -/
theorem loop_all {γ : Type} [Inhabited γ] {n : Nat} {s : List γ} {f : γ → Option Bool} {p : γ → Bool} (hf : ∀ x, f x = some (p x)) (hn : s.length < n) (hl : s.length ≤ 9223372036854775806) :
    bdO (loopO (α := Int) (β := Sum (Unit) (Bool)) n (fun again x => cdO (decide (x < (s.length : Int))) (gdO (inR x s.length) (bdO (f (gt s x)) fun v => (cdO (!v) (some (Sum.inr (false))) (again (wrapF .i64 (x + 1)))))) (some (Sum.inl ()))) 0) (fun o => match o with | .inl _ => some true | .inr r0 => some r0) = some (s.all p) := by
  apply Ok.eq
  refine Ok.bd (R := fun o => match o with | .inl _ => s.all p = true | .inr r => r = s.all p) ?_ ?_
  · refine ok_range (len := s.length) (fun k => ∀ j, j < k → p (s.getD j default) = true) hn hl (by intro j hj; omega) ?_ ?_
    · intro again k hk hP ih
      refine Ok.cd (fun _ => ?_) (fun h => ?_)
      · refine Ok.gd (by rw [inR_nat]; simpa using hk) ?_
        rw [gt_nat, hf]
        refine Ok.cd (fun h => ?_) (fun h => ?_)
        · refine ok_some.2 ?_
          show false = s.all p
          symm
          rw [List.all_eq_false]
          refine ⟨s.getD k default, ?_, by simpa using h⟩
          simp only [List.getD, List.getElem?_eq_getElem hk, Option.getD_some]; exact List.getElem_mem hk
        · exact ih fun j hj => by
            by_cases hjk : j = k
            · rw [hjk]; simpa using h
            · exact hP j (by omega)
      · simp at h; omega
    · intro again hP
      refine Ok.cd (fun h => ?_) (fun _ => ?_)
      · simp at h
      · refine ok_some.2 (List.all_eq_true.2 fun x hx => ?_)
        obtain ⟨j, hj, rfl⟩ := List.getElem_of_mem hx
        have := hP j hj
        simpa only [List.getD, List.getElem?_eq_getElem hj, Option.getD_some] using this
  · rintro (_ | r) h
    · exact ok_some.2 h.symm
    · exact ok_some.2 h

/-! Signs, products. -/
def sgn (n : Int) : Int := if n < 0 then -1 else if n > 0 then 1 else 0
theorem sgn_neg (n : Int) : sgn (-n) = -sgn n := by unfold sgn; split <;> split <;> (try split) <;> (try split) <;> omega
theorem sgn_cases (n : Int) : (n < 0 ∧ sgn n = -1) ∨ (n = 0 ∧ sgn n = 0) ∨ (0 < n ∧ sgn n = 1) := by unfold sgn; split <;> (try split) <;> omega
theorem mul_bound {a b A B : Int} (h1 : -A ≤ a) (h2 : a ≤ A) (h3 : -B ≤ b) (h4 : b ≤ B) : -(A * B) ≤ a * b ∧ a * b ≤ A * B := by
  have ha : a.natAbs ≤ A.natAbs := by omega
  have hb : b.natAbs ≤ B.natAbs := by omega
  have hm := Nat.mul_le_mul ha hb
  rw [← Int.natAbs_mul, ← Int.natAbs_mul] at hm
  have h0 : 0 ≤ A * B := Int.mul_nonneg (by omega) (by omega)
  generalize a * b = x at *
  generalize A * B = y at *
  omega
end Go.L
