import Derived.Test.YtkhmlbchphhokaaGreatSpeL46a
set_option linter.unusedVariables false
set_option linter.unusedSimpArgs false
namespace Go.L
open Go Go.Eng
def wN (f : api_Field) : Nat := f.Width.toNat
theorem wN_eq {f : api_Field} (hf : OkF f) : ((wN f : Nat) : Int) = f.Width := by have := hf.w; unfold wN; omega
theorem wN_pos {f : api_Field} (hf : OkF f) : 0 < wN f := by have := hf.w; unfold wN; omega
theorem rows {f : api_Field} (hf : OkF f) : f.V.length = wN f * f.Height.toNat := by
  have h1 := hf.len
  have h2 := wN_eq hf
  have h3 : ((f.Height.toNat : Nat) : Int) = f.Height := by have := hf.h; omega
  rw [← h2, ← h3] at h1
  exact_mod_cast h1
theorem list_at {l : List Int} {m : Nat} {g : Nat → Int} (hl : l.length = m) (h : ∀ j, j < m → l.getD j default = g j) : l = (List.range m).map g := by
  apply List.ext_getElem
  · simp [hl]
  · intro i h1 h2
    have := h i (by omega)
    simp only [List.getD, List.getElem?_eq_getElem h1, Option.getD_some] at this
    rw [this]; simp
theorem getD_set {l : List Int} {i j : Nat} {v : Int} (hi : i < l.length) : (l.set i v).getD j default = if j = i then v else l.getD j default := by
  simp only [List.getD, List.getElem?_set]
  by_cases h : i = j
  · subst h; simp [hi]
  · have : ¬ j = i := fun e => h e.symm
    simp [h, this]
theorem getD_rep {m j : Nat} {v : Int} (h : j < m) : (List.replicate m v).getD j default = v := by simp [List.getD, h]
end Go.L

