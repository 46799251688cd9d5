import Derived.Test.YtiicieaabeamoaaGreatPasL55f
import Derived.Test.YtiicieaabeamoaaGreatPasLkp
import Derived.Test.YtiicieaabeamoaaGreatPasL55o
import Derived.Test.YtiicieaabeamoaaGreatSc10mdcfcefd
set_option linter.all false
namespace Go.L
open Go Go.Eng
def maskN (f : Nat → Bool) : Nat → Nat
 | 0 => 0
 | k + 1 => maskN f k + if f k then 2 ^ k else 0
theorem maskN_lt (f : Nat → Bool) : ∀ k, maskN f k < 2 ^ k
 | 0 => by simp [maskN]
 | k + 1 => by
  have := maskN_lt f k
  rw [maskN, Nat.pow_succ]; split <;> omega
theorem maskN_bit (f : Nat → Bool) (j : Nat) : ∀ k, (maskN f k).testBit j = (decide (j < k) && f j)
 | 0 => by simp [maskN]
 | k + 1 => by
  have hlt := maskN_lt f k
  have ih := maskN_bit f j k
  rw [maskN]
  cases hf : f k with
  | false =>
   simp only [Bool.false_eq_true, if_false, Nat.add_zero]
   rw [ih]
   by_cases hjk : j = k
   · subst hjk; simp [hf]
   · have : decide (j < k) = decide (j < k + 1) := by rw [decide_eq_decide]; omega
     rw [this]
  | true =>
   simp only [if_true]
   rw [Nat.add_comm]
   by_cases hjk : j = k
   · subst hjk
     rw [Nat.testBit_two_pow_add_eq, ih]; simp [hf]
   · rcases Nat.lt_or_ge j k with h | h
     · rw [Nat.testBit_two_pow_add_gt h, ih]
       have : decide (j < k) = decide (j < k + 1) := by rw [decide_eq_decide]; omega
       rw [this]
     · have h1 : (2 ^ k + maskN f k).testBit j = false := by
        apply Nat.testBit_lt_two_pow
        have : 2 ^ (k + 1) ≤ 2 ^ j := Nat.pow_le_pow_right (by omega) (by omega)
        rw [Nat.pow_succ] at this; omega
       rw [h1]; simp; intro hh; omega
theorem or_v {k c : Nat} (hk : k < 12) (hc : c < 2 ^ k) : bitO .or .u64 (c : Int) (shlF .u64 1 (k : Int)) = ((c + 2 ^ k : Nat) : Int) := by
 have h := orOk_t
 unfold orOk at h
 rw [List.all_eq_true] at h
 have h := h k (List.mem_range.2 hk)
 rw [List.all_eq_true] at h
 exact beq_iff_eq.1 (h c (List.mem_range.2 hc))
theorem and_v {a b : Nat} (ha : a < 4096) (hb : b < 4096) : bitO .and .u64 (a : Int) (b : Int) = ((a &&& b : Nat) : Int) := by
 have hlt : a &&& b < 4096 := Nat.lt_of_le_of_lt Nat.and_le_left ha
 unfold bitO
 have e : (BitVec.ofInt 64 (a : Int) &&& BitVec.ofInt 64 (b : Int)).toNat = a &&& b := by
  rw [BitVec.toNat_and, BitVec.ofInt_natCast, BitVec.ofInt_natCast, BitVec.toNat_ofNat, BitVec.toNat_ofNat, Nat.mod_eq_of_lt (by omega), Nat.mod_eq_of_lt (by omega)]
 show IntKind.u64.wrap ((BitVec.ofInt 64 (a : Int) &&& BitVec.ofInt 64 (b : Int)).toNat : Int) = _
 rw [e, ← wrapF_eq, wrapU64_in (by omega) (by omega)]
theorem ones_v {n x : Nat} (h : x < 4096) : math_bits_OnesCount64 n (x : Int) = some ((popc x : Nat) : Int) := by
 have k := onesOk_t
 unfold onesOk at k
 rw [List.all_eq_true] at k
 exact beq_iff_eq.1 (k x (List.mem_range.2 h))
theorem a4z (a : Int) {k : Nat} (h0 : k ≠ 0) (hk : k < 4) : A4.get (A4.mk a 0 0 0) (k : Int) = 0 := by
 rcases (by omega : k = 1 ∨ k = 2 ∨ k = 3) with h | h | h <;> subst h <;> rfl
theorem shared_v {n a b : Nat} (hn : 10 < n) (ha : a < 4096) (hb : b < 4096) : plan_shared n (A4.mk (a : Int) 0 0 0) (A4.mk (b : Int) 0 0 0) = some ((popc (a &&& b) : Nat) : Int) := by
 have hlt : a &&& b < 4096 := Nat.lt_of_le_of_lt Nat.and_le_left ha
 have hp : popc (a &&& b) ≤ 12 := Nat.le_trans List.countP_le_length (by simp)
 apply Ok.eq
 unfold plan_shared
 refine Ok.bd (R := fun o => o = ((popc (a &&& b) : Nat) : Int)) ?_ (fun o ho => ok_some.2 ho)
 have z : bitO .and .u64 0 0 = 0 := by kernel_rfl
 have z2 : math_bits_OnesCount64 n 0 = some 0 := ones_v (n := n) (x := 0) (by omega)
 refine ok_rangeR (len := 4) (fun k (c : Int) => c = if k = 0 then 0 else ((popc (a &&& b) : Nat) : Int)) (by omega) (by omega) rfl ?_ ?_
 · rintro again k c hk rfl ih
   refine Ok.cd (fun _ => ?_) (fun h => by simp at h; omega)
   refine Ok.gd (by rw [inR_nat]; simpa using hk) ?_
   by_cases h0 : k = 0
   · subst h0
     have e1 : A4.get (A4.mk (a : Int) 0 0 0) ((0 : Nat) : Int) = (a : Int) := rfl
     have e2 : A4.get (A4.mk (b : Int) 0 0 0) ((0 : Nat) : Int) = (b : Int) := rfl
     rw [e1, e2, and_v ha hb]
     refine Ok.bde (ones_v hlt) ?_
     rw [if_pos rfl, Int.zero_add, wrap64_in (n := ((popc (a &&& b) : Nat) : Int)) (by omega) (by omega)]
     exact ih _ (if_neg (by omega)).symm
   · rw [a4z _ h0 hk, a4z _ h0 hk, z]
     refine Ok.bde z2 ?_
     rw [if_neg h0, Int.add_zero, wrap64_in (n := ((popc (a &&& b) : Nat) : Int)) (by omega) (by omega)]
     exact ih _ (if_neg (by omega)).symm
 · rintro again c rfl
   exact Ok.cd (fun h => by simp at h) (fun _ => ok_some.2 rfl)
theorem pop_both (f g : Nat → Bool) {m : Nat} (hm : m ≤ 12) : popc (maskN f m &&& maskN g m) = (List.range m).countP fun k => f k && g k := by
 unfold popc
 have e : ∀ k, (maskN f m &&& maskN g m).testBit k = (decide (k < m) && (f k && g k)) := fun k => by
  rw [Nat.testBit_and, maskN_bit, maskN_bit]; cases decide (k < m) <;> simp
 rw [List.countP_congr (q := fun k => decide (k < m) && (f k && g k)) (fun k _ => by rw [e])]
 obtain ⟨d, hd⟩ : ∃ d, 12 = m + d := ⟨12 - m, by omega⟩
 rw [hd, List.range_add, List.countP_append]
 have h0 : List.countP (fun k => decide (k < m) && (f k && g k)) ((List.range d).map (m + ·)) = 0 := by
  rw [List.countP_eq_zero]
  intro x hx
  obtain ⟨y, _, rfl⟩ := List.mem_map.1 hx
  have : decide (m + y < m) = false := decide_eq_false (by omega)
  rw [this]; simp
 rw [h0, Nat.add_zero]
 exact List.countP_congr fun k hk => by simp [List.mem_range.1 hk]
end Go.L

