import Derived.Test.YtcjhlgoicppgnaaGreatPl6glljgkmh
set_option linter.all false
set_option linter.unusedVariables false
namespace Go.L
open Go Go.Eng
def tipQ (p q r : Rat) : Rat := p * (p * p) / (3 * ((p - q) * (p - r)))
def meanQ (a b c : Rat) : Rat := (a + (b + c)) / 3
theorem tip_comm (p q r : Rat) : tipQ p q r = tipQ p r q := by unfold tipQ; grind
theorem tip_zero {p : Rat} (h : 0 < p) : tipQ p 0 0 = p / 3 := by
 have : p ≠ 0 := by grind
 unfold tipQ; grind
structure Sp (a b c x y : Rat) : Prop where
 m : x - y = meanQ a b c
 p : 0 ≤ a → 0 ≤ b → 0 ≤ c → y = 0
 n : a ≤ 0 → b ≤ 0 → c ≤ 0 → x = 0
 u1 : 0 < a → b ≤ 0 → c ≤ 0 → x = tipQ a b c
 u2 : 0 < b → a ≤ 0 → c ≤ 0 → x = tipQ b a c
 u3 : 0 < c → a ≤ 0 → b ≤ 0 → x = tipQ c a b
 d1 : a < 0 → 0 ≤ b → 0 ≤ c → y = tipQ (-a) (-b) (-c)
 d2 : b < 0 → 0 ≤ a → 0 ≤ c → y = tipQ (-b) (-a) (-c)
 d3 : c < 0 → 0 ≤ a → 0 ≤ b → y = tipQ (-c) (-a) (-b)
theorem Sp.s12 {a b c x y : Rat} (h : Sp a b c x y) : Sp b a c x y :=
 ⟨by rw [h.m]; unfold meanQ; grind, fun h1 h2 h3 => h.p h2 h1 h3, fun h1 h2 h3 => h.n h2 h1 h3, fun h1 h2 h3 => h.u2 h1 h2 h3, fun h1 h2 h3 => h.u1 h1 h2 h3, fun h1 h2 h3 => by rw [h.u3 h1 h3 h2, tip_comm], fun h1 h2 h3 => h.d2 h1 h2 h3, fun h1 h2 h3 => h.d1 h1 h2 h3, fun h1 h2 h3 => by rw [h.d3 h1 h3 h2, tip_comm]⟩
theorem Sp.s23 {a b c x y : Rat} (h : Sp a b c x y) : Sp a c b x y :=
 ⟨by rw [h.m]; unfold meanQ; grind, fun h1 h2 h3 => h.p h1 h3 h2, fun h1 h2 h3 => h.n h1 h3 h2, fun h1 h2 h3 => by rw [h.u1 h1 h3 h2, tip_comm], fun h1 h2 h3 => h.u3 h1 h2 h3, fun h1 h2 h3 => h.u2 h1 h2 h3, fun h1 h2 h3 => by rw [h.d1 h1 h3 h2, tip_comm], fun h1 h2 h3 => h.d3 h1 h2 h3, fun h1 h2 h3 => h.d2 h1 h2 h3⟩
theorem Sp.rot {a b c x y : Rat} (h : Sp a b c x y) : Sp b c a x y := h.s12.s23
theorem Sp.neg {a b c x y : Rat} (h : Sp a b c x y) : Sp (-a) (-b) (-c) y x := by
 have e : ∀ z : Rat, - -z = z := fun z => by grind
 refine ⟨?_, fun h1 h2 h3 => h.n (by grind) (by grind) (by grind), fun h1 h2 h3 => h.p (by grind) (by grind) (by grind), fun h1 h2 h3 => h.d1 (by grind) (by grind) (by grind), fun h1 h2 h3 => h.d2 (by grind) (by grind) (by grind), fun h1 h2 h3 => h.d3 (by grind) (by grind) (by grind), fun h1 h2 h3 => ?_, fun h1 h2 h3 => ?_, fun h1 h2 h3 => ?_⟩
 · have := h.m; unfold meanQ at this ⊢; grind
 · rw [e, e, e]; exact h.u1 (by grind) (by grind) (by grind)
 · rw [e, e, e]; exact h.u2 (by grind) (by grind) (by grind)
 · rw [e, e, e]; exact h.u3 (by grind) (by grind) (by grind)
theorem sp_all {a b c : Rat} (h1 : 0 ≤ a) (h2 : 0 ≤ b) (h3 : 0 ≤ c) : Sp a b c (meanQ a b c) 0 := by
 have g : ∀ {p : Rat}, 0 ≤ p → p ≤ 0 → p = 0 := fun h k => by grind
 refine ⟨by grind, fun _ _ _ => rfl, fun k1 k2 k3 => ?_, fun k1 k2 k3 => ?_, fun k1 k2 k3 => ?_, fun k1 k2 k3 => ?_, fun k1 => ?_, fun k1 => ?_, fun k1 => ?_⟩
 · rw [g h1 k1, g h2 k2, g h3 k3]; unfold meanQ; grind
 · rw [g h2 k2, g h3 k3, tip_zero k1]; unfold meanQ; grind
 · rw [g h1 k2, g h3 k3, tip_zero k1]; unfold meanQ; grind
 · rw [g h1 k2, g h2 k3, tip_zero k1]; unfold meanQ; grind
 · grind
 · grind
 · grind
theorem sp_none {a b c : Rat} (h1 : a ≤ 0) (h2 : b ≤ 0) (h3 : c ≤ 0) : Sp a b c 0 (-meanQ a b c) := by
 have h := (sp_all (a := -a) (b := -b) (c := -c) (by grind) (by grind) (by grind)).neg
 have e : ∀ z : Rat, - -z = z := fun z => by grind
 have em : meanQ (-a) (-b) (-c) = -meanQ a b c := by unfold meanQ; grind
 rw [e, e, e, em] at h; exact h
theorem sp_one {a b c : Rat} (h1 : 0 < a) (h2 : b ≤ 0) (h3 : c ≤ 0) : Sp a b c (tipQ a b c) (tipQ a b c - meanQ a b c) := by
 have g : ∀ {p : Rat}, 0 ≤ p → p ≤ 0 → p = 0 := fun h k => by grind
 refine ⟨by grind, fun k1 k2 k3 => ?_, fun k1 => by grind, fun _ _ _ => rfl, fun k1 => by grind, fun k1 => by grind, fun k1 => by grind, fun k1 k2 k3 => ?_, fun k1 k2 k3 => ?_⟩
 · rw [g k2 h2, g k3 h3, tip_zero h1]; unfold meanQ; grind
 · obtain rfl := g k3 h3
   have hb : a - b ≠ 0 := by grind
   unfold tipQ meanQ; grind
 · obtain rfl := g k3 h2
   have hb : a - c ≠ 0 := by grind
   unfold tipQ meanQ; grind
theorem sp_two {a b c : Rat} (h1 : a < 0) (h2 : 0 ≤ b) (h3 : 0 ≤ c) : Sp a b c (tipQ (-a) (-b) (-c) + meanQ a b c) (tipQ (-a) (-b) (-c)) := by
 have h := (sp_one (a := -a) (b := -b) (c := -c) (by grind) (by grind) (by grind)).neg
 have e : ∀ z : Rat, - -z = z := fun z => by grind
 have em : tipQ (-a) (-b) (-c) - meanQ (-a) (-b) (-c) = tipQ (-a) (-b) (-c) + meanQ a b c := by unfold meanQ; grind
 rw [e, e, e, em] at h; exact h
end Go.L

