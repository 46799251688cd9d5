import Derived.Test.YtkhmlbchphhokaaGreatHulL09a
set_option linter.all false
namespace Go.L
open Go Go.Eng
def onB (a b c : api_Pix) : Bool := (crossZ a b c == 0) && decide (dotZ c a b ≤ 0)
theorem mul_le0 {u v : Int} : u * v ≤ 0 ↔ (u ≤ 0 ∧ 0 ≤ v) ∨ (0 ≤ u ∧ v ≤ 0) := by
 constructor
 · intro h
   by_cases hu : u ≤ 0
   · by_cases hv : 0 ≤ v
     · exact .inl ⟨hu, hv⟩
     · by_cases h0 : u = 0
       · right; omega
       · have := Int.mul_pos_of_neg_of_neg (a := u) (b := v) (by omega) (by omega); omega
   · by_cases hv : v ≤ 0
     · right; omega
     · have := Int.mul_pos (a := u) (b := v) (by omega) (by omega); omega
 · rintro (⟨h1, h2⟩ | ⟨h1, h2⟩)
   · exact Int.mul_nonpos_of_nonpos_of_nonneg h1 h2
   · exact Int.mul_nonpos_of_nonneg_of_nonpos h1 h2
theorem on_box {a b c : api_Pix} (h : crossZ a b c = 0) : dotZ c a b ≤ 0 ↔ ((a.X ≤ c.X ∧ c.X ≤ b.X) ∨ (b.X ≤ c.X ∧ c.X ≤ a.X)) ∧ ((a.Y ≤ c.Y ∧ c.Y ≤ b.Y) ∨ (b.Y ≤ c.Y ∧ c.Y ≤ a.Y)) := by
 unfold dotZ
 unfold crossZ at h
 obtain ⟨u, hu⟩ : ∃ u, u = a.X - c.X := ⟨_, rfl⟩
 obtain ⟨v, hv⟩ : ∃ v, v = b.X - c.X := ⟨_, rfl⟩
 obtain ⟨s, hs⟩ : ∃ s, s = a.Y - c.Y := ⟨_, rfl⟩
 obtain ⟨t, ht⟩ : ∃ t, t = b.Y - c.Y := ⟨_, rfl⟩
 have e : u * t = s * v := by
  have : (b.X - a.X) * (c.Y - a.Y) - (b.Y - a.Y) * (c.X - a.X) = u * t - s * v := by subst hu hv hs ht; grind
  omega
 have hpq : 0 ≤ (u * v) * (s * t) := by
  have : (u * v) * (s * t) = (u * t) * (u * t) := by
   have : (u * v) * (s * t) = (u * t) * (s * v) := by grind
   rw [this, ← e]
  rw [this]
  exact (Int.le_total 0 (u * t)).elim (fun h => Int.mul_nonneg h h) (fun h => Int.mul_nonneg_of_nonpos_of_nonpos h h)
 have hx : (u * v ≤ 0) ↔ ((a.X ≤ c.X ∧ c.X ≤ b.X) ∨ (b.X ≤ c.X ∧ c.X ≤ a.X)) := by rw [mul_le0]; omega
 have hy : (s * t ≤ 0) ↔ ((a.Y ≤ c.Y ∧ c.Y ≤ b.Y) ∨ (b.Y ≤ c.Y ∧ c.Y ≤ a.Y)) := by rw [mul_le0]; omega
 rw [← hx, ← hy, ← hu, ← hv, ← hs, ← ht]
 generalize u * v = p at *
 generalize s * t = q at *
 constructor
 · intro hs
   rcases Int.lt_or_le 0 p with hp | hp
   · rcases Int.lt_or_le q 0 with hq | hq
     · have := Int.mul_neg_of_pos_of_neg hp hq; omega
     · omega
   · rcases Int.lt_or_le 0 q with hq | hq
     · rcases Int.lt_or_le p 0 with hp' | hp'
       · have := Int.mul_neg_of_neg_of_pos hp' hq; omega
       · omega
     · exact ⟨hp, hq⟩
 · rintro ⟨h1, h2⟩; omega
end Go.L

