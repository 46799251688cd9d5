import Derived.Test.YtdfhpiaapdbdpaaGreatParL52m
import Derived.Test.YtdfhpiaapdbdpaaGreatParL02cB
import Derived.KernelRfl
set_option linter.all false
set_option linter.unusedVariables false
namespace Go.L
open Go Go.Eng
def Bd1 (r : Rat) : Prop := ∃ p q : Int, r = Rat.divInt p q ∧ 0 < q ∧ q ≤ 1000000000000000 ∧ -100000000000000000000000 ≤ p ∧ p ≤ 100000000000000000000000
theorem Bd1.neg {r : Rat} (h : Bd1 r) : Bd1 (-r) := by
 obtain ⟨p, q, h1, h2, h3, h4, h5⟩ := h
 exact ⟨-p, q, by rw [h1, Rat.neg_divInt], h2, h3, by omega, by omega⟩
theorem bd1_zero : Bd1 0 := ⟨0, 1, by rw [divInt_cast]; rfl, by omega, by omega, by omega, by omega⟩
theorem bd1_mean {A B C : Int} (hA : -4194304 ≤ A ∧ A ≤ 4194304) (hB : -4194304 ≤ B ∧ B ≤ 4194304) (hC : -4194304 ≤ C ∧ C ≤ 4194304) : Bd1 (meanQ A B C) := by
 refine ⟨A + (B + C), 3, ?_, by omega, by omega, by omega, by omega⟩
 rw [Rat.divInt_eq_div]; unfold meanQ; push_cast; rfl
theorem bd1_tip {A B C : Int} (hA : 0 < A ∧ A ≤ 4194304) (hB : -4194304 ≤ B ∧ B ≤ 0) (hC : -4194304 ≤ C ∧ C ≤ 0) : Bd1 (tipQ A B C) ∧ Bd1 (tipQ A B C - meanQ A B C) := by
 have d1 := Int.mul_le_mul (show A - B ≤ 8388608 by omega) (show A - C ≤ 8388608 by omega) (by omega) (by omega)
 have d0 := Int.mul_pos (show 0 < A - B by omega) (show 0 < A - C by omega)
 have a2 := Int.mul_le_mul hA.2 hA.2 (by omega) (by omega)
 have a20 := Int.mul_pos hA.1 hA.1
 have a3 := Int.mul_le_mul hA.2 a2 (by omega) (by omega)
 have a30 := Int.mul_pos hA.1 a20
 have s1 := Int.mul_le_mul (show A + (B + C) + 8388608 ≤ 12582912 by omega) d1 (by omega) (by omega)
 have s0 := Int.mul_nonneg (show 0 ≤ A + (B + C) + 8388608 by omega) (Int.le_of_lt d0)
 have hb : (A : Rat) - B ≠ 0 := by
  have : ((A - B : Int) : Rat) ≠ 0 := by
   intro h; have := Rat.intCast_inj.1 (h.trans Rat.intCast_zero.symm); omega
  intro h; exact this (by push_cast; exact h)
 have hc : (A : Rat) - C ≠ 0 := by
  have : ((A - C : Int) : Rat) ≠ 0 := by
   intro h; have := Rat.intCast_inj.1 (h.trans Rat.intCast_zero.symm); omega
  intro h; exact this (by push_cast; exact h)
 refine ⟨⟨A * (A * A), 3 * ((A - B) * (A - C)), ?_, by omega, by omega, by omega, by omega⟩, ⟨A * (A * A) - (A + (B + C)) * ((A - B) * (A - C)), 3 * ((A - B) * (A - C)), ?_, by omega, by omega, ?_, ?_⟩⟩
 · rw [Rat.divInt_eq_div]; unfold tipQ; push_cast; rfl
 · rw [Rat.divInt_eq_div]; unfold tipQ meanQ; push_cast; grind
 · rw [Int.add_mul] at s1 s0; omega
 · rw [Int.add_mul] at s1 s0; omega
theorem sp_bd {A B C : Int} {X Y : Rat} (hA : -4194304 ≤ A ∧ A ≤ 4194304) (hB : -4194304 ≤ B ∧ B ≤ 4194304) (hC : -4194304 ≤ C ∧ C ≤ 4194304) (h : Sp A B C X Y) : Bd1 X ∧ Bd1 Y := by
 have key : ∀ {A B C : Int} {X Y : Rat}, -4194304 ≤ A ∧ A ≤ 4194304 → -4194304 ≤ B ∧ B ≤ 4194304 → -4194304 ≤ C ∧ C ≤ 4194304 → Sp A B C X Y → 0 < A → B ≤ 0 → C ≤ 0 → Bd1 X ∧ Bd1 Y := by
  intro A B C X Y hA hB hC h h1 h2 h3
  have e := h.u1 (by exact_mod_cast h1) (by exact_mod_cast h2) (by exact_mod_cast h3)
  have m := h.m
  obtain ⟨b1, b2⟩ := bd1_tip ⟨h1, hA.2⟩ ⟨hB.1, h2⟩ ⟨hC.1, h3⟩
  rw [← e] at b1 b2
  exact ⟨b1, by rw [show Y = X - meanQ A B C by grind]; exact b2⟩
 have kn : ∀ {A B C : Int} {X Y : Rat}, -4194304 ≤ A ∧ A ≤ 4194304 → -4194304 ≤ B ∧ B ≤ 4194304 → -4194304 ≤ C ∧ C ≤ 4194304 → Sp A B C X Y → A < 0 → 0 ≤ B → 0 ≤ C → Bd1 X ∧ Bd1 Y := by
  intro A B C X Y hA hB hC h h1 h2 h3
  have hn := h.neg
  have e : ∀ z : Int, -(z : Rat) = ((-z : Int) : Rat) := fun z => by push_cast; rfl
  rw [e, e, e] at hn
  have := key (A := -A) (B := -B) (C := -C) (by omega) (by omega) (by omega) hn (by omega) (by omega) (by omega)
  exact ⟨this.2, this.1⟩
 have m := h.m
 have bm := bd1_mean hA hB hC
 by_cases a0 : 0 ≤ A <;> by_cases b0 : 0 ≤ B <;> by_cases c0 : 0 ≤ C
 · have e := h.p (by exact_mod_cast a0) (by exact_mod_cast b0) (by exact_mod_cast c0)
   rw [e, show X = meanQ A B C by grind]
   exact ⟨bm, bd1_zero⟩
 · exact kn hC hA hB h.s23.s12 (by omega) a0 b0
 · exact kn hB hA hC h.s12 (by omega) a0 c0
 · by_cases ha : 0 < A
   · exact key hA hB hC h ha (by omega) (by omega)
   · have e := h.n (by exact_mod_cast (show A ≤ 0 by omega)) (by exact_mod_cast (show B ≤ 0 by omega)) (by exact_mod_cast (show C ≤ 0 by omega))
     rw [e, show Y = -meanQ A B C by grind]
     exact ⟨bd1_zero, bm.neg⟩
 · exact kn hA hB hC h (by omega) b0 c0
 · by_cases hb : 0 < B
   · exact key hB hA hC h.s12 hb (by omega) (by omega)
   · have e := h.n (by exact_mod_cast (show A ≤ 0 by omega)) (by exact_mod_cast (show B ≤ 0 by omega)) (by exact_mod_cast (show C ≤ 0 by omega))
     rw [e, show Y = -meanQ A B C by grind]
     exact ⟨bd1_zero, bm.neg⟩
 · by_cases hc : 0 < C
   · exact key hC hA hB h.s23.s12 hc (by omega) (by omega)
   · have e := h.n (by exact_mod_cast (show A ≤ 0 by omega)) (by exact_mod_cast (show B ≤ 0 by omega)) (by exact_mod_cast (show C ≤ 0 by omega))
     rw [e, show Y = -meanQ A B C by grind]
     exact ⟨bd1_zero, bm.neg⟩
 · have e := h.n (by exact_mod_cast (show A ≤ 0 by omega)) (by exact_mod_cast (show B ≤ 0 by omega)) (by exact_mod_cast (show C ≤ 0 by omega))
   rw [e, show Y = -meanQ A B C by grind]
   exact ⟨bd1_zero, bm.neg⟩
def Bd (r : Rat) (i : Nat) : Prop := ∃ p q : Int, r = Rat.divInt p q ∧ 0 < q ∧ q ≤ 1000000000000000 ^ i ∧ -(i * 100000000 * 1000000000000000 ^ i) ≤ p ∧ p ≤ i * 100000000 * 1000000000000000 ^ i
theorem bd_zero : Bd 0 0 := ⟨0, 1, by rw [divInt_cast]; rfl, by omega, by simp, by simp, by simp⟩
theorem Bd.add {r s : Rat} {i : Nat} (h : Bd r i) (k : Bd1 s) : Bd (r + s) (i + 1) := by
 obtain ⟨p, q, h1, h2, h3, h4, h5⟩ := h
 obtain ⟨u, v, k1, k2, k3, k4, k5⟩ := k
 have hB : (0 : Int) < 1000000000000000 ^ i := Int.pow_pos (by omega)
 refine ⟨p * v + u * q, q * v, ?_, Int.mul_pos h2 k2, ?_, ?_, ?_⟩
 · rw [h1, k1, Rat.divInt_add_divInt _ _ (by omega) (by omega)]
 · rw [Int.pow_succ]; exact Int.mul_le_mul h3 k3 (by omega) (by omega)
 all_goals
  rw [Int.pow_succ]
  push_cast
  generalize (1000000000000000 : Int) ^ i = P at *
  generalize hI : (i : Int) * 100000000 = I at *
  have hI0 : 0 ≤ I := by omega
  have e : ((i : Int) + 1) * 100000000 * (P * 1000000000000000) = I * P * 1000000000000000 + 100000000 * (P * 1000000000000000) := by rw [Int.add_mul, hI, Int.add_mul, Int.one_mul, Int.mul_assoc]
  have hIP : 0 ≤ I * P := Int.mul_nonneg hI0 (by omega)
  have m1 : p * v ≤ I * P * v := Int.mul_le_mul_of_nonneg_right h5 (by omega)
  have m2 : I * P * v ≤ I * P * 1000000000000000 := Int.mul_le_mul_of_nonneg_left k3 hIP
  have m3 : u * q ≤ 100000000000000000000000 * q := Int.mul_le_mul_of_nonneg_right k5 (by omega)
  have n1 : -(I * P) * v ≤ p * v := Int.mul_le_mul_of_nonneg_right h4 (by omega)
  rw [Int.neg_mul] at n1
  have n3 : -100000000000000000000000 * q ≤ u * q := Int.mul_le_mul_of_nonneg_right k4 (by omega)
  rw [e]
  generalize I * P * v = T1 at *
  generalize I * P * 1000000000000000 = T2 at *
  generalize p * v = T3 at *
  generalize u * q = T4 at *
  omega
theorem pow_mono {i : Nat} (h : i ≤ 50) : (1000000000000000 : Int) ^ i ≤ 1000000000000000 ^ 50 := by
 obtain ⟨j, hj⟩ : ∃ j, 50 = i + j := ⟨50 - i, by omega⟩
 rw [show (1000000000000000 : Int) ^ 50 = 1000000000000000 ^ i * 1000000000000000 ^ j by rw [← Int.pow_add, ← hj]]
 have h1 : (1 : Int) ≤ 1000000000000000 ^ j := Int.pow_pos (by omega)
 have h2 : (0 : Int) < 1000000000000000 ^ i := Int.pow_pos (by omega)
 have := Int.mul_le_mul_of_nonneg_left h1 (Int.le_of_lt h2)
 omega
theorem pB86 : (5000000000 : Int) * 1000000000000000 ^ 50 < pB 86 := of_decide_eq_true (by kernel_rfl)
theorem Bd.len {nn dn : Bool} {ng dg : List Int} {r : Rat} {i j : Nat} (h : Bd r i) (hi : i ≤ 50) (q : QL nn ng dn dg r j) : QL nn ng dn dg r 86 := by
 obtain ⟨p, d, h1, h2, h3, h4, h5⟩ := h
 have hp := pow_mono hi
 have hb := pB86
 have h0 : (0 : Int) < 1000000000000000 ^ i := Int.pow_pos (by omega)
 have hm : (i : Int) * 100000000 * 1000000000000000 ^ i ≤ 5000000000 * 1000000000000000 ^ 50 := Int.mul_le_mul (by omega) hp (by omega) (by omega)
 generalize (i : Int) * 100000000 * 1000000000000000 ^ i = M at *
 generalize (1000000000000000 : Int) ^ i = P at *
 generalize (1000000000000000 : Int) ^ 50 = R at *
 exact QL.tight q h1 h2 (by omega) (by omega) (by omega)
end Go.L

