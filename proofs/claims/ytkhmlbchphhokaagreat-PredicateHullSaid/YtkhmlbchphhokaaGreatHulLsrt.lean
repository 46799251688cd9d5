import Derived.Test.YtkhmlbchphhokaaGreatPl2iahmfabp
import Derived.Test.YtkhmlbchphhokaaGreatScSjolcilbc
set_option linter.all false
namespace Go.L
open Go Go.Eng
section
variable {γ : Type} {κ : γ → Int}
abbrev ltK (κ : γ → Int) : γ → γ → Bool := fun x y => decide (κ x < κ y)
theorem insC_congr {lt lt' : γ → γ → Bool} {x : γ} : ∀ {l : List γ}, (∀ y, y ∈ l → lt y x = lt' y x) → insC lt x l = insC lt' x l
 | [], _ => rfl
 | y :: l, h => by
  unfold insC
  rw [h y (by simp), insC_congr (l := l) fun z hz => h z (List.mem_cons_of_mem _ hz)]
theorem mem_insC {lt : γ → γ → Bool} {x z : γ} : ∀ {l : List γ}, z ∈ insC lt x l ↔ z = x ∨ z ∈ l
 | [] => by simp [insC]
 | y :: l => by
  unfold insC
  split
  · rw [List.mem_cons, mem_insC (l := l), List.mem_cons]
    constructor
    · rintro (h | h | h)
      · exact .inr (.inl h)
      · exact .inl h
      · exact .inr (.inr h)
    · rintro (h | h | h)
      · exact .inr (.inl h)
      · exact .inl h
      · exact .inr (.inr h)
  · rw [List.mem_cons]
theorem mem_isrtC {lt : γ → γ → Bool} {z : γ} : ∀ {l : List γ}, z ∈ isrtC lt l ↔ z ∈ l
 | [] => Iff.rfl
 | x :: l => by unfold isrtC; rw [mem_insC, mem_isrtC (l := l), List.mem_cons]
theorem len_insC {lt : γ → γ → Bool} {x : γ} : ∀ {l : List γ}, (insC lt x l).length = l.length + 1
 | [] => rfl
 | y :: l => by
  unfold insC
  split
  · rw [List.length_cons, len_insC (l := l), List.length_cons]
  · rw [List.length_cons]
theorem len_isrtC {lt : γ → γ → Bool} : ∀ {l : List γ}, (isrtC lt l).length = l.length
 | [] => rfl
 | x :: l => by unfold isrtC; rw [len_insC, len_isrtC (l := l), List.length_cons]
theorem isrtC_congr {lt lt' : γ → γ → Bool} : ∀ {l : List γ}, (∀ x y, x ∈ l → y ∈ l → lt x y = lt' x y) → isrtC lt l = isrtC lt' l
 | [], _ => rfl
 | x :: l, h => by
  unfold isrtC
  rw [isrtC_congr (l := l) fun y z hy hz => h y z (List.mem_cons_of_mem _ hy) (List.mem_cons_of_mem _ hz)]
  exact insC_congr fun y hy => h y x (List.mem_cons_of_mem _ (mem_isrtC.1 hy)) (by simp)
theorem pw_insC {x : γ} : ∀ {l : List γ}, l.Pairwise (fun a b => κ a < κ b) → (∀ y, y ∈ l → κ y ≠ κ x) → (insC (ltK κ) x l).Pairwise (fun a b => κ a < κ b)
 | [], _, _ => by simp [insC]
 | y :: l, h, hx => by
  unfold insC
  rw [List.pairwise_cons] at h
  have hy := hx y (by simp)
  by_cases hlt : κ y < κ x
  · rw [if_pos (decide_eq_true hlt), List.pairwise_cons]
    refine ⟨fun z hz => ?_, pw_insC h.2 fun z hz => hx z (List.mem_cons_of_mem _ hz)⟩
    rcases mem_insC.1 hz with rfl | hz
    · exact hlt
    · exact h.1 z hz
  · rw [if_neg (by simpa [ltK] using hlt), List.pairwise_cons]
    refine ⟨fun z hz => ?_, List.pairwise_cons.2 h⟩
    rcases List.mem_cons.1 hz with rfl | hz
    · omega
    · have := h.1 z hz; omega
theorem pw_isrtC : ∀ {l : List γ}, l.Pairwise (fun a b => κ a ≠ κ b) → (isrtC (ltK κ) l).Pairwise (fun a b => κ a < κ b)
 | [], _ => .nil
 | x :: l, h => by
  rw [List.pairwise_cons] at h
  exact pw_insC (pw_isrtC h.2) fun y hy => (fun e => h.1 y (mem_isrtC.1 hy) e.symm)
theorem sortC_key [DecidableEq γ] {cmp : γ → γ → Option Int} {l : List γ} (hs : ∀ x y, x ∈ l → y ∈ l → ∃ c, cmp x y = some c ∧ (c < 0 ↔ κ x < κ y)) (inj : ∀ x y, x ∈ l → y ∈ l → κ x = κ y → x = y) : sortC cmp l = some (isrtC (ltK κ) l) := by
 have hc : ∀ x y, x ∈ l → y ∈ l → (cfO cmp x y < 0 ↔ κ x < κ y) := fun x y hx hy => by
  obtain ⟨c, h1, h2⟩ := hs x y hx hy
  unfold cfO; rw [h1]; exact h2
 have ok : sortOk cmp l = true := by
  unfold sortOk
  rw [List.all_eq_true]
  intro x hx
  rw [Bool.and_eq_true, List.all_eq_true]
  refine ⟨decide_eq_true (by rw [hc x x hx hx]; omega), fun y hy => ?_⟩
  rw [Bool.and_eq_true]
  refine ⟨by obtain ⟨c, h1, _⟩ := hs x y hx hy; rw [h1]; rfl, ?_⟩
  rw [Bool.and_eq_true, List.all_eq_true]
  refine ⟨decide_eq_true ?_, fun z hz => ?_⟩
  · rw [hc x y hx hy, hc y x hy hx]
    by_cases h : κ x = κ y
    · exact .inr (.inr (inj x y hx hy h))
    · omega
  · rw [Bool.and_eq_true]
    refine ⟨decide_eq_true ?_, decide_eq_true ?_⟩
    · rw [hc x y hx hy, hc y z hy hz, hc x z hx hz]; omega
    · rw [hc x y hx hy, hc y z hy hz, hc x z hx hz]; omega
 unfold sortC
 rw [if_pos ok, isrtC_congr (lt' := ltK κ) fun x y hx hy => by rw [decide_eq_decide]; exact hc x y hx hy]
end
end Go.L

