import Derived.Test.YtlmndpmjbgnmbaaGreatFilL46a
set_option linter.unusedVariables false
set_option linter.unusedSimpArgs false
namespace Go.L
open Go Go.Eng
def bst (p : Nat → Bool) : Nat → Int
  | 0 => -1
  | m + 1 => bif p m then (m : Int) else bst p m
theorem bst_lt (p : Nat → Bool) : ∀ m, -1 ≤ bst p m ∧ bst p m < m
  | 0 => by simp [bst]
  | m + 1 => by
    have ih := bst_lt p m
    unfold bst
    cases p m <;> simp only [cond_true, cond_false] <;> omega
theorem bst_ge {p : Nat → Bool} : ∀ {m d : Nat}, d < m → p d = true → (d : Int) ≤ bst p m
  | m + 1, d, h, hp => by
    unfold bst
    cases hm : p m with
    | true => simp only [cond_true]; omega
    | false =>
      have : d ≠ m := by rintro rfl; rw [hp] at hm; cases hm
      simp only [cond_false]
      exact bst_ge (by omega) hp
theorem bst_at {p : Nat → Bool} : ∀ {m : Nat}, 0 ≤ bst p m → p (bst p m).toNat = true
  | 0, h => by simp [bst] at h
  | m + 1, h => by
    unfold bst at h ⊢
    cases hm : p m with
    | true => simp only [cond_true]; simpa using hm
    | false => rw [hm] at h; simp only [cond_false] at h ⊢; exact bst_at h
def wN (f : api_Field) : Nat := f.Width.toNat
theorem wN_eq {f : api_Field} (hf : OkF f) : ((wN f : Nat) : Int) = f.Width := by have := hf.w; unfold wN; omega
theorem wN_pos {f : api_Field} (hf : OkF f) : 0 < wN f := by have := hf.w; unfold wN; omega
theorem rows {f : api_Field} (hf : OkF f) : f.V.length = wN f * f.Height.toNat := by
  have h1 := hf.len
  have h2 := wN_eq hf
  have h3 : ((f.Height.toNat : Nat) : Int) = f.Height := by have := hf.h; omega
  rw [← h2, ← h3] at h1
  exact_mod_cast h1
theorem list_at {l : List Int} {m : Nat} {g : Nat → Int} (hl : l.length = m) (h : ∀ j, j < m → l.getD j default = g j) : l = (List.range m).map g := by
  apply List.ext_getElem
  · simp [hl]
  · intro i h1 h2
    have := h i (by omega)
    simp only [List.getD, List.getElem?_eq_getElem h1, Option.getD_some] at this
    rw [this]; simp
theorem getD_set {l : List Int} {i j : Nat} {v : Int} (hi : i < l.length) : (l.set i v).getD j default = if j = i then v else l.getD j default := by
  simp only [List.getD, List.getElem?_set]
  by_cases h : i = j
  · subst h; simp [hi]
  · have : ¬ j = i := fun e => h e.symm
    simp [h, this]
end Go.L

