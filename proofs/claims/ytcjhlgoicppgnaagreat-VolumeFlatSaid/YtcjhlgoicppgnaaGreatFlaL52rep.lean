import Derived.Test.YtcjhlgoicppgnaaGreatFlaLD
import Derived.Test.YtcjhlgoicppgnaaGreatPl6glljgkmh
set_option linter.all false
namespace Go.L
open Go Go.Eng
theorem and_low {y : Int} (h : 0 ≤ y) (h2 : y < 4294967296) : bitO .and .u64 y 4294967295 = y := by
 unfold bitO
 have e : (BitVec.ofInt IntKind.u64.bits y &&& BitVec.ofInt IntKind.u64.bits 4294967295).toNat = y.toNat := by
  rw [BitVec.toNat_and, BitVec.toNat_ofInt, BitVec.toNat_ofInt]
  have e1 : (y % ((2 ^ IntKind.u64.bits : Nat) : Int)).toNat = y.toNat := by
   have : ((2 ^ IntKind.u64.bits : Nat) : Int) = 18446744073709551616 := rfl
   rw [this]; omega
  have e2 : ((4294967295 : Int) % ((2 ^ IntKind.u64.bits : Nat) : Int)).toNat = 2 ^ 32 - 1 := rfl
  rw [e1, e2, Nat.and_two_pow_sub_one_eq_mod]
  omega
 show IntKind.u64.wrap _ = y
 rw [e, ← wrapF_eq, wrapU64_in (by omega) (by omega)]
 omega
theorem mul64_one {n : Nat} {y : Int} (h : 0 ≤ y) (h2 : y < 4294967296) : math_bits_Mul n 1 y = some (0, y) := by
 unfold math_bits_Mul math_bits_Mul64
 rw [and_low h h2, and_low (y := 1) (by omega) (by omega)]
 have e1 : (1 : Int).fdiv (2 ^ 32) = 0 := by decide
 have e2 : y.fdiv (2 ^ 32) = 0 := by rw [Int.fdiv_eq_ediv_of_nonneg _ (by decide)]; omega
 rw [e1, e2]
 have z : wrapF .u64 0 = 0 := by decide
 simp only [Int.zero_mul, Int.mul_zero, Int.one_mul, z, Int.zero_add, Int.add_zero, bdO]
 rw [wrapU64_in (n := y) (by omega) (by omega), e2, z]
 have e3 : bitO .and .u64 0 4294967295 = 0 := and_low (by omega) (by omega)
 simp only [e3, z, Int.zero_add, Int.add_zero, bdO]
 rfl
theorem overT_pre {l ys : List Int} {a : Nat} {v : Int} (h : a + ys.length ≤ l.length) (h1 : ∀ j, j < a → l.getD j default = v) (h2 : ∀ j, j < ys.length → ys.getD j default = v) : ∀ j, j < a + ys.length → (overT l a ys).getD j default = v := by
 intro j hj
 rw [overT_eq h]
 have hla : (l.take a).length = a := by rw [List.length_take]; omega
 simp only [List.getD] at h1 h2 ⊢
 by_cases hja : j < a
 · rw [List.getElem?_append_left (by rw [List.length_append, hla]; omega), List.getElem?_append_left (by rw [hla]; exact hja), List.getElem?_take, if_pos hja]
   exact h1 j hja
 · rw [List.getElem?_append_left (by rw [List.length_append, hla]; omega), List.getElem?_append_right (by rw [hla]; omega), hla]
   exact h2 (j - a) (by omega)
theorem list_const {l : List Int} {c : Nat} {v : Int} (hl : l.length = c) (h : ∀ j, j < c → l.getD j default = v) : l = List.replicate c v := by
 apply List.ext_getElem
 · simp [hl]
 · intro i h1 h2
   have := h i (by omega)
   simp only [List.getD, List.getElem?_eq_getElem h1, Option.getD_some] at this
   rw [this]; simp
theorem repeat_v {n : Nat} (hn : 4096 < n) {z c : Int} (h : 1 ≤ c) (h2 : c ≤ 4096) : slices_Repeat_int_int n [z] c = some (List.replicate c.toNat z) := by
 apply Ok.eq
 unfold slices_Repeat_int_int
 have e0 : wrapF .u64 (([z] : List Int).length : Int) = 1 := by show wrapF .u64 1 = 1; decide
 rw [e0, wrapU64_in (n := c) (by omega) (by omega)]
 refine Ok.gd (by simp; omega) (Ok.bde (mul64_one (by omega) (by omega)) ?_)
 refine Ok.gd rfl (Ok.gd (by simp; omega) ?_)
 show Ok (gdO (decide (0 ≤ wrapF .i64 c)) _) _
 rw [wrap64_in (by omega) (by omega)]
 refine Ok.gd (by simp; omega) (Ok.gd (by simp; omega) (Ok.gd (by simp; omega) ?_))
 have hm : Nat.min ([z] : List Int).length (List.replicate c.toNat ((0 : Int) : Int)).length = 1 := by
  show Nat.min 1 _ = 1
  rw [List.length_replicate]; exact Nat.min_eq_left (by omega)
 refine Ok.bd (R := fun o => o = List.replicate c.toNat z) ?_ (fun o ho => ok_some.2 ho)
 refine ok_loop (fun s : List Int × Int => ∃ m : Nat, s.2 = (m : Int) ∧ 1 ≤ m ∧ m ≤ c.toNat ∧ s.1.length = c.toNat ∧ ∀ j, j < m → s.1.getD j default = z) (fun s => c.toNat - s.2.toNat) ?_ n _ ?_ ?_
 · rintro again ⟨l, k⟩ ⟨m, hk, h1, hmc, hl, hv⟩ ih
   obtain rfl : k = (m : Int) := hk
   simp only at hl hv
   refine Ok.cd (fun hlt => ?_) (fun hge => ?_)
   · have hlt := of_decide_eq_true hlt
     refine Ok.gd (by rw [inS_iff]; omega) (Ok.gd (by rw [inS_iff]; omega) ?_)
     have et : ((m : Int)).toNat = m := by omega
     rw [et]
     have hyl : ((l.take m).take (Nat.min m (l.length - m))).length = Nat.min m (l.length - m) := by
      rw [List.length_take, List.length_take]
      have : Nat.min m (l.length - m) ≤ m := Nat.min_le_left _ _
      omega
     have hmin1 : Nat.min m (l.length - m) ≤ m := Nat.min_le_left _ _
     have hmin2 : Nat.min m (l.length - m) ≤ l.length - m := Nat.min_le_right _ _
     have hmin3 : 1 ≤ Nat.min m (l.length - m) := Nat.le_min.2 ⟨h1, by omega⟩
     have hp := overT_pre (l := l) (a := m) (v := z) (ys := (l.take m).take (Nat.min m (l.length - m))) (by rw [hyl]; omega) hv (fun j hj => by
      rw [hyl] at hj
      have := hv j (by omega)
      simp only [List.getD, List.getElem?_take] at this ⊢
      rw [if_pos (by omega), if_pos (by omega)]; exact this)
     rw [hyl] at hp
     rw [wrap64_in (by omega) (by omega)]
     refine ih _ ⟨m + Nat.min m (l.length - m), by simp, by omega, by omega, by simp only [overT_len]; exact hl, hp⟩ ?_
     show c.toNat - ((m : Int) + _).toNat < c.toNat - ((m : Int)).toNat
     omega
   · have hge := of_decide_eq_false hge
     obtain rfl : m = c.toNat := by omega
     exact ok_some.2 (list_const hl hv)
 · rw [hm]
   refine ⟨1, rfl, Nat.le_refl _, by omega, by simp only [overT_len]; exact List.length_replicate, ?_⟩
   exact overT_pre (l := List.replicate c.toNat 0) (ys := [z]) (a := 0) (by simp; omega) (fun j hj => by omega) (fun j hj => by
    have : j = 0 := by simpa using hj
    subst this; rfl)
 · simp only; omega
end Go.L

