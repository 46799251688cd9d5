import Derived.Test.YtdfhpiaapdbdpaaGreatPl6glgpfmgc
set_option linter.all false
set_option linter.unusedVariables false
namespace Go.L
open Go Go.Eng
def tipQ (p q r : Rat) : Rat := p * (p * p) / (3 * ((p - q) * (p - r)))
def meanQ (a b c : Rat) : Rat := (a + (b + c)) / 3
theorem tip_comm (p q r : Rat) : tipQ p q r = tipQ p r q := by unfold tipQ; grind
theorem tip_zero {p : Rat} (h : 0 < p) : tipQ p 0 0 = p / 3 := by
 have : p ≠ 0 := by grind
 unfold tipQ; grind
structure Sp (a b c x y : Rat) : Prop where
 m : x - y = meanQ a b c
 p : 0 ≤ a → 0 ≤ b → 0 ≤ c → y = 0
 n : a ≤ 0 → b ≤ 0 → c ≤ 0 → x = 0
 u1 : 0 < a → b ≤ 0 → c ≤ 0 → x = tipQ a b c
 u2 : 0 < b → a ≤ 0 → c ≤ 0 → x = tipQ b a c
 u3 : 0 < c → a ≤ 0 → b ≤ 0 → x = tipQ c a b
 d1 : a < 0 → 0 ≤ b → 0 ≤ c → y = tipQ (-a) (-b) (-c)
 d2 : b < 0 → 0 ≤ a → 0 ≤ c → y = tipQ (-b) (-a) (-c)
 d3 : c < 0 → 0 ≤ a → 0 ≤ b → y = tipQ (-c) (-a) (-b)
theorem Sp.s12 {a b c x y : Rat} (h : Sp a b c x y) : Sp b a c x y :=
 ⟨by rw [h.m]; unfold meanQ; grind, fun h1 h2 h3 => h.p h2 h1 h3, fun h1 h2 h3 => h.n h2 h1 h3, fun h1 h2 h3 => h.u2 h1 h2 h3, fun h1 h2 h3 => h.u1 h1 h2 h3, fun h1 h2 h3 => by rw [h.u3 h1 h3 h2, tip_comm], fun h1 h2 h3 => h.d2 h1 h2 h3, fun h1 h2 h3 => h.d1 h1 h2 h3, fun h1 h2 h3 => by rw [h.d3 h1 h3 h2, tip_comm]⟩
theorem Sp.s23 {a b c x y : Rat} (h : Sp a b c x y) : Sp a c b x y :=
 ⟨by rw [h.m]; unfold meanQ; grind, fun h1 h2 h3 => h.p h1 h3 h2, fun h1 h2 h3 => h.n h1 h3 h2, fun h1 h2 h3 => by rw [h.u1 h1 h3 h2, tip_comm], fun h1 h2 h3 => h.u3 h1 h2 h3, fun h1 h2 h3 => h.u2 h1 h2 h3, fun h1 h2 h3 => by rw [h.d1 h1 h3 h2, tip_comm], fun h1 h2 h3 => h.d3 h1 h2 h3, fun h1 h2 h3 => h.d2 h1 h2 h3⟩
theorem Sp.rot {a b c x y : Rat} (h : Sp a b c x y) : Sp b c a x y := h.s12.s23
theorem Sp.neg {a b c x y : Rat} (h : Sp a b c x y) : Sp (-a) (-b) (-c) y x := by
 have e : ∀ z : Rat, - -z = z := fun z => by grind
 refine ⟨?_, fun h1 h2 h3 => h.n (by grind) (by grind) (by grind), fun h1 h2 h3 => h.p (by grind) (by grind) (by grind), fun h1 h2 h3 => h.d1 (by grind) (by grind) (by grind), fun h1 h2 h3 => h.d2 (by grind) (by grind) (by grind), fun h1 h2 h3 => h.d3 (by grind) (by grind) (by grind), fun h1 h2 h3 => ?_, fun h1 h2 h3 => ?_, fun h1 h2 h3 => ?_⟩
 · have := h.m; unfold meanQ at this ⊢; grind
 · rw [e, e, e]; exact h.u1 (by grind) (by grind) (by grind)
 · rw [e, e, e]; exact h.u2 (by grind) (by grind) (by grind)
 · rw [e, e, e]; exact h.u3 (by grind) (by grind) (by grind)
theorem sp_cases (a b c : Rat) : (0 ≤ a ∧ 0 ≤ b ∧ 0 ≤ c) ∨ (a ≤ 0 ∧ b ≤ 0 ∧ c ≤ 0) ∨ (0 < a ∧ b ≤ 0 ∧ c ≤ 0) ∨ (0 < b ∧ a ≤ 0 ∧ c ≤ 0) ∨ (0 < c ∧ a ≤ 0 ∧ b ≤ 0) ∨ (a < 0 ∧ 0 ≤ b ∧ 0 ≤ c) ∨ (b < 0 ∧ 0 ≤ a ∧ 0 ≤ c) ∨ (c < 0 ∧ 0 ≤ a ∧ 0 ≤ b) := by
 by_cases h1 : 0 ≤ a <;> by_cases h2 : 0 ≤ b <;> by_cases h3 : 0 ≤ c <;> by_cases h4 : a ≤ 0 <;> by_cases h5 : b ≤ 0 <;> by_cases h6 : c ≤ 0 <;> grind
theorem Sp.uniq {a b c x y x' y' : Rat} (h : Sp a b c x y) (k : Sp a b c x' y') : x = x' ∧ y = y' := by
 have m1 := h.m; have m2 := k.m
 rcases sp_cases a b c with ⟨h1, h2, h3⟩ | ⟨h1, h2, h3⟩ | ⟨h1, h2, h3⟩ | ⟨h1, h2, h3⟩ | ⟨h1, h2, h3⟩ | ⟨h1, h2, h3⟩ | ⟨h1, h2, h3⟩ | ⟨h1, h2, h3⟩
 · have := h.p h1 h2 h3; have := k.p h1 h2 h3; grind
 · have := h.n h1 h2 h3; have := k.n h1 h2 h3; grind
 · have := h.u1 h1 h2 h3; have := k.u1 h1 h2 h3; grind
 · have := h.u2 h1 h2 h3; have := k.u2 h1 h2 h3; grind
 · have := h.u3 h1 h2 h3; have := k.u3 h1 h2 h3; grind
 · have := h.d1 h1 h2 h3; have := k.d1 h1 h2 h3; grind
 · have := h.d2 h1 h2 h3; have := k.d2 h1 h2 h3; grind
 · have := h.d3 h1 h2 h3; have := k.d3 h1 h2 h3; grind
theorem div_nonneg {a b : Rat} (ha : 0 ≤ a) (hb : 0 < b) : 0 ≤ a / b := by
 rw [Rat.div_def]
 exact Rat.mul_nonneg ha (Rat.le_of_lt (Rat.inv_pos.2 hb))
theorem tip_nonneg {p q r : Rat} (hp : 0 < p) (hq : q ≤ 0) (hr : r ≤ 0) : 0 ≤ tipQ p q r := by
 have h1 : 0 < (p - q) * (p - r) := Rat.mul_pos (by grind) (by grind)
 have h2 := Rat.mul_pos hp (Rat.mul_pos hp hp)
 exact div_nonneg (by grind) (by grind)
theorem tip_mean {p q r : Rat} (hp : 0 < p) (hq : q ≤ 0) (hr : r ≤ 0) : 0 ≤ tipQ p q r - meanQ p q r := by
 have h1 : 0 < (p - q) * (p - r) := Rat.mul_pos (by grind) (by grind)
 obtain ⟨s, hs⟩ : ∃ s, s = -q := ⟨_, rfl⟩
 obtain ⟨t, ht⟩ : ∃ t, t = -r := ⟨_, rfl⟩
 have s0 : 0 ≤ s := by grind
 have t0 : 0 ≤ t := by grind
 have e : tipQ p q r - meanQ p q r = (p * (s * s) + p * (t * t) + p * (s * t) + s * t * (s + t)) / (3 * ((p - q) * (p - r))) := by
  have hne : (p - q) * (p - r) ≠ 0 := by grind
  have hne1 : p - q ≠ 0 := by grind
  have hne2 : p - r ≠ 0 := by grind
  have eq : q = -s := by grind
  have er : r = -t := by grind
  subst eq er
  unfold tipQ meanQ
  grind
 rw [e]
 have hss := Rat.mul_nonneg s0 s0; have htt := Rat.mul_nonneg t0 t0; have hst := Rat.mul_nonneg s0 t0
 have p0 : 0 ≤ p := by grind
 have g1 := Rat.mul_nonneg p0 hss; have g2 := Rat.mul_nonneg p0 htt; have g3 := Rat.mul_nonneg p0 hst
 have g4 := Rat.mul_nonneg hst (show 0 ≤ s + t by grind)
 exact div_nonneg (by grind) (by grind)
theorem Sp.nonneg {a b c x y : Rat} (h : Sp a b c x y) : 0 ≤ x ∧ 0 ≤ y := by
 have key : ∀ {a b c x y : Rat}, Sp a b c x y → 0 < a → b ≤ 0 → c ≤ 0 → 0 ≤ x ∧ 0 ≤ y := by
  intro a b c x y h h1 h2 h3
  have e := h.u1 h1 h2 h3
  have := tip_nonneg h1 h2 h3; have := tip_mean h1 h2 h3; have := h.m
  grind
 have kn : ∀ {a b c x y : Rat}, Sp a b c x y → a < 0 → 0 ≤ b → 0 ≤ c → 0 ≤ x ∧ 0 ≤ y := by
  intro a b c x y h h1 h2 h3
  have := key h.neg (by grind) (by grind) (by grind)
  exact ⟨this.2, this.1⟩
 have m1 := h.m
 rcases sp_cases a b c with ⟨h1, h2, h3⟩ | ⟨h1, h2, h3⟩ | ⟨h1, h2, h3⟩ | ⟨h1, h2, h3⟩ | ⟨h1, h2, h3⟩ | ⟨h1, h2, h3⟩ | ⟨h1, h2, h3⟩ | ⟨h1, h2, h3⟩
 · have := h.p h1 h2 h3; unfold meanQ at m1; grind
 · have := h.n h1 h2 h3; unfold meanQ at m1; grind
 · exact key h h1 h2 h3
 · exact key h.s12 h1 h2 h3
 · exact key h.s23.s12 h1 h2 h3
 · exact kn h h1 h2 h3
 · exact kn h.s12 h1 h2 h3
 · exact kn h.s23.s12 h1 h2 h3
theorem sp_all {a b c : Rat} (h1 : 0 ≤ a) (h2 : 0 ≤ b) (h3 : 0 ≤ c) : Sp a b c (meanQ a b c) 0 := by
 have g : ∀ {p : Rat}, 0 ≤ p → p ≤ 0 → p = 0 := fun h k => by grind
 refine ⟨by grind, fun _ _ _ => rfl, fun k1 k2 k3 => ?_, fun k1 k2 k3 => ?_, fun k1 k2 k3 => ?_, fun k1 k2 k3 => ?_, fun k1 => ?_, fun k1 => ?_, fun k1 => ?_⟩
 · rw [g h1 k1, g h2 k2, g h3 k3]; unfold meanQ; grind
 · rw [g h2 k2, g h3 k3, tip_zero k1]; unfold meanQ; grind
 · rw [g h1 k2, g h3 k3, tip_zero k1]; unfold meanQ; grind
 · rw [g h1 k2, g h2 k3, tip_zero k1]; unfold meanQ; grind
 · grind
 · grind
 · grind
theorem sp_none {a b c : Rat} (h1 : a ≤ 0) (h2 : b ≤ 0) (h3 : c ≤ 0) : Sp a b c 0 (-meanQ a b c) := by
 have h := (sp_all (a := -a) (b := -b) (c := -c) (by grind) (by grind) (by grind)).neg
 have e : ∀ z : Rat, - -z = z := fun z => by grind
 have em : meanQ (-a) (-b) (-c) = -meanQ a b c := by unfold meanQ; grind
 rw [e, e, e, em] at h; exact h
theorem sp_one {a b c : Rat} (h1 : 0 < a) (h2 : b ≤ 0) (h3 : c ≤ 0) : Sp a b c (tipQ a b c) (tipQ a b c - meanQ a b c) := by
 have g : ∀ {p : Rat}, 0 ≤ p → p ≤ 0 → p = 0 := fun h k => by grind
 refine ⟨by grind, fun k1 k2 k3 => ?_, fun k1 => by grind, fun _ _ _ => rfl, fun k1 => by grind, fun k1 => by grind, fun k1 => by grind, fun k1 k2 k3 => ?_, fun k1 k2 k3 => ?_⟩
 · rw [g k2 h2, g k3 h3, tip_zero h1]; unfold meanQ; grind
 · obtain rfl := g k3 h3
   have hb : a - b ≠ 0 := by grind
   unfold tipQ meanQ; grind
 · obtain rfl := g k3 h2
   have hb : a - c ≠ 0 := by grind
   unfold tipQ meanQ; grind
theorem sp_two {a b c : Rat} (h1 : a < 0) (h2 : 0 ≤ b) (h3 : 0 ≤ c) : Sp a b c (tipQ (-a) (-b) (-c) + meanQ a b c) (tipQ (-a) (-b) (-c)) := by
 have h := (sp_one (a := -a) (b := -b) (c := -c) (by grind) (by grind) (by grind)).neg
 have e : ∀ z : Rat, - -z = z := fun z => by grind
 have em : tipQ (-a) (-b) (-c) - meanQ (-a) (-b) (-c) = tipQ (-a) (-b) (-c) + meanQ a b c := by unfold meanQ; grind
 rw [e, e, e, em] at h; exact h
end Go.L

