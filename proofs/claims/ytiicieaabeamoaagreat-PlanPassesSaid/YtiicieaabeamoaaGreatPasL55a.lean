import Derived.Test.YtiicieaabeamoaaGreatPasLD
import Derived.Test.YtiicieaabeamoaaGreatPl6giknfhhc
import Derived.KernelRfl
set_option linter.all false
namespace Go.L
open Go Go.Eng
theorem known55_v : fiduciallaw55_known 5000 = some true := by kernel_rfl
structure OkS (s : api_Survey) : Prop where
 w : 1 ≤ s.Width ∧ s.Width ≤ 1048576
 h : 1 ≤ s.Height ∧ s.Height ≤ 1048576
 lo : -1048576 ≤ s.Low ∧ s.Low ≤ 1048576
 hi : -1048576 ≤ s.High ∧ s.High ≤ 1048576
 ac : 1 ≤ s.Across ∧ s.Across ≤ 1048576
 al : 1 ≤ s.Along ∧ s.Along ≤ 1048576
 fo : 1 ≤ s.Focal ∧ s.Focal ≤ 1048576
 ov : 0 ≤ s.Overlap ∧ s.Overlap ≤ 95
 si : 0 ≤ s.Sidelap ∧ s.Sidelap ≤ 95
 vi : 1 ≤ s.Views ∧ s.Views ≤ 16
open Classical in
noncomputable def chk (s : api_Survey) : Int := if OkS s then (if s.Low > s.High then 5 else 0) else 2
theorem chk_bad {s : api_Survey} (h : ¬ OkS s) : chk s = 2 := if_neg h
theorem chk_ord {s : api_Survey} (h : OkS s) (k : s.Low > s.High) : chk s = 5 := by unfold chk; rw [if_pos h, if_pos k]
theorem chk_good {s : api_Survey} (h : OkS s) (k : s.Low ≤ s.High) : chk s = 0 := by unfold chk; rw [if_pos h, if_neg (by omega)]
theorem chk_zero {s : api_Survey} (h : chk s = 0) : OkS s ∧ s.Low ≤ s.High := by
 unfold chk at h
 split at h
 · rename_i k
   split at h
   · cases h
   · exact ⟨k, by omega⟩
 · cases h
theorem check1_v (n : Nat) (a m : Int) : plan_Check_1 n a m = some (decide (1 ≤ a ∧ a ≤ m)) := by
 unfold plan_Check_1
 by_cases h : a ≥ 1
 · have : decide (a ≥ 1) = true := by simpa using h
   rw [this]; show some _ = _; congr 1; apply decide_eq_decide.2; omega
 · have : decide (a ≥ 1) = false := by simpa using h
   rw [this]; show some _ = _; congr 1; symm; rw [decide_eq_false_iff_not]; omega
theorem check2_v (n : Nat) (a : Int) : plan_Check_2 n a = some (decide (0 ≤ a ∧ a ≤ 95)) := by
 unfold plan_Check_2
 by_cases h : a ≥ 0
 · have : decide (a ≥ 0) = true := by simpa using h
   rw [this]; show some _ = _; congr 1; apply decide_eq_decide.2; omega
 · have : decide (a ≥ 0) = false := by simpa using h
   rw [this]; show some _ = _; congr 1; symm; rw [decide_eq_false_iff_not]; omega
def near (a : Int) : Prop := -1048576 ≤ a ∧ a ≤ 1048576
instance (a : Int) : Decidable (near a) := inferInstanceAs (Decidable (_ ∧ _))
theorem within_v (n : Nat) (a : Int) : plan_within n a = some (decide (near a)) := by
 unfold plan_within
 by_cases h : a ≥ -1048576
 · have : decide (a ≥ -1048576) = true := by simpa using h
   rw [this]; show some _ = _; congr 1; apply decide_eq_decide.2; unfold near; omega
 · have : decide (a ≥ -1048576) = false := by simpa using h
   rw [this]; show some _ = _; congr 1; symm; rw [decide_eq_false_iff_not]; unfold near; omega
theorem not_dec {p : Prop} [Decidable p] (h : (!decide p) = true) : ¬ p := by simpa using h
theorem dec_of {p : Prop} [Decidable p] (h : (!decide p) = false) : p := by simpa using h
theorem check_v (n : Nat) (s : api_Survey) : plan_Check n s = some (chk s) := by
 apply Ok.eq
 unfold plan_Check
 refine Ok.bde (check1_v ..) (Ok.cd (fun h => ok_some.2 (chk_bad fun k => not_dec h k.w).symm) (fun h1 => ?_))
 refine Ok.bde (check1_v ..) (Ok.cd (fun h => ok_some.2 (chk_bad fun k => not_dec h k.h).symm) (fun h2 => ?_))
 refine Ok.bde (within_v ..) (Ok.cd (fun h => ok_some.2 (chk_bad fun k => not_dec h k.lo).symm) (fun h3 => ?_))
 refine Ok.bde (within_v ..) (Ok.cd (fun h => ok_some.2 (chk_bad fun k => not_dec h k.hi).symm) (fun h4 => ?_))
 refine Ok.bde (check1_v ..) (Ok.cd (fun h => ok_some.2 (chk_bad fun k => not_dec h k.ac).symm) (fun h5 => ?_))
 refine Ok.bde (check1_v ..) (Ok.cd (fun h => ok_some.2 (chk_bad fun k => not_dec h k.al).symm) (fun h6 => ?_))
 refine Ok.bde (check1_v ..) (Ok.cd (fun h => ok_some.2 (chk_bad fun k => not_dec h k.fo).symm) (fun h7 => ?_))
 refine Ok.bde (check2_v ..) (Ok.cd (fun h => ok_some.2 (chk_bad fun k => not_dec h k.ov).symm) (fun h8 => ?_))
 refine Ok.bde (check2_v ..) (Ok.cd (fun h => ok_some.2 (chk_bad fun k => not_dec h k.si).symm) (fun h9 => ?_))
 refine Ok.bde (check1_v ..) (Ok.cd (fun h => ok_some.2 (chk_bad fun k => not_dec h k.vi).symm) (fun h10 => ?_))
 have ok : OkS s := ⟨dec_of h1, dec_of h2, dec_of h3, dec_of h4, dec_of h5, dec_of h6, dec_of h7, dec_of h8, dec_of h9, dec_of h10⟩
 exact Ok.cd (fun h => ok_some.2 (chk_ord ok (of_decide_eq_true h)).symm) (fun h => ok_some.2 (chk_good ok (by have := of_decide_eq_false h; omega)).symm)
def far (a : Int) : Bool := !decide (near a)
theorem far_t {a : Int} : far a = true ↔ ¬ near a := by unfold far; rw [Bool.not_eq_true', decide_eq_false_iff_not]
theorem far_f {a : Int} : far a = false ↔ near a := by unfold far; rw [Bool.not_eq_false', decide_eq_true_eq]
theorem prod_in {a b : Int} (ha : 0 ≤ a ∧ a ≤ 2097152) (hb : 1 ≤ b ∧ b ≤ 1048576) : 0 ≤ a * b ∧ a * b ≤ 2199023255552 := by
 have h1 := Int.mul_le_mul ha.2 hb.2 (by omega) (by omega)
 have h2 := Int.mul_nonneg ha.1 (by omega : 0 ≤ b)
 omega
end Go.L

