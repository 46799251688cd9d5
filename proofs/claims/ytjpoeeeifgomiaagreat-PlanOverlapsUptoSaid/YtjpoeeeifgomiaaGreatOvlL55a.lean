import Derived.Test.YtjpoeeeifgomiaaGreatOvlLD
import Derived.Test.YtjpoeeeifgomiaaGreatPl6hbbmoobk
import Derived.KernelRfl
set_option linter.all false
namespace Go.L
open Go Go.Eng
theorem known55_v : fiduciallaw55_known 5000 = some true := by kernel_rfl
structure OkS (s : api_Survey) : Prop where
 w : 1 ≤ s.Width ∧ s.Width ≤ 1048576
 h : 1 ≤ s.Height ∧ s.Height ≤ 1048576
 lo : -1048576 ≤ s.Low ∧ s.Low ≤ 1048576
 hi : -1048576 ≤ s.High ∧ s.High ≤ 1048576
 ac : 1 ≤ s.Across ∧ s.Across ≤ 1048576
 al : 1 ≤ s.Along ∧ s.Along ≤ 1048576
 fo : 1 ≤ s.Focal ∧ s.Focal ≤ 1048576
 ov : 0 ≤ s.Overlap ∧ s.Overlap ≤ 95
 si : 0 ≤ s.Sidelap ∧ s.Sidelap ≤ 95
 vi : 1 ≤ s.Views ∧ s.Views ≤ 16
open Classical in
noncomputable def chk (s : api_Survey) : Int := if OkS s then (if s.Low > s.High then 5 else 0) else 2
theorem chk_bad {s : api_Survey} (h : ¬ OkS s) : chk s = 2 := if_neg h
theorem chk_ord {s : api_Survey} (h : OkS s) (k : s.Low > s.High) : chk s = 5 := by unfold chk; rw [if_pos h, if_pos k]
theorem chk_good {s : api_Survey} (h : OkS s) (k : s.Low ≤ s.High) : chk s = 0 := by unfold chk; rw [if_pos h, if_neg (by omega)]
theorem chk_zero {s : api_Survey} (h : chk s = 0) : OkS s ∧ s.Low ≤ s.High := by
 unfold chk at h
 split at h
 · rename_i k
   split at h
   · cases h
   · exact ⟨k, by omega⟩
 · cases h
theorem check1_v (n : Nat) (a m : Int) : plan_Check_1 n a m = some (decide (1 ≤ a ∧ a ≤ m)) := by
 unfold plan_Check_1
 by_cases h : a ≥ 1
 · have : decide (a ≥ 1) = true := by simpa using h
   rw [this]; show some _ = _; congr 1; apply decide_eq_decide.2; omega
 · have : decide (a ≥ 1) = false := by simpa using h
   rw [this]; show some _ = _; congr 1; symm; rw [decide_eq_false_iff_not]; omega
theorem check2_v (n : Nat) (a : Int) : plan_Check_2 n a = some (decide (0 ≤ a ∧ a ≤ 95)) := by
 unfold plan_Check_2
 by_cases h : a ≥ 0
 · have : decide (a ≥ 0) = true := by simpa using h
   rw [this]; show some _ = _; congr 1; apply decide_eq_decide.2; omega
 · have : decide (a ≥ 0) = false := by simpa using h
   rw [this]; show some _ = _; congr 1; symm; rw [decide_eq_false_iff_not]; omega
def near (a : Int) : Prop := -1048576 ≤ a ∧ a ≤ 1048576
instance (a : Int) : Decidable (near a) := inferInstanceAs (Decidable (_ ∧ _))
theorem within_v (n : Nat) (a : Int) : plan_within n a = some (decide (near a)) := by
 unfold plan_within
 by_cases h : a ≥ -1048576
 · have : decide (a ≥ -1048576) = true := by simpa using h
   rw [this]; show some _ = _; congr 1; apply decide_eq_decide.2; unfold near; omega
 · have : decide (a ≥ -1048576) = false := by simpa using h
   rw [this]; show some _ = _; congr 1; symm; rw [decide_eq_false_iff_not]; unfold near; omega
theorem not_dec {p : Prop} [Decidable p] (h : (!decide p) = true) : ¬ p := by simpa using h
theorem dec_of {p : Prop} [Decidable p] (h : (!decide p) = false) : p := by simpa using h
theorem check_v (n : Nat) (s : api_Survey) : plan_Check n s = some (chk s) := by
 apply Ok.eq
 unfold plan_Check
 refine Ok.bde (check1_v ..) (Ok.cd (fun h => ok_some.2 (chk_bad fun k => not_dec h k.w).symm) (fun h1 => ?_))
 refine Ok.bde (check1_v ..) (Ok.cd (fun h => ok_some.2 (chk_bad fun k => not_dec h k.h).symm) (fun h2 => ?_))
 refine Ok.bde (within_v ..) (Ok.cd (fun h => ok_some.2 (chk_bad fun k => not_dec h k.lo).symm) (fun h3 => ?_))
 refine Ok.bde (within_v ..) (Ok.cd (fun h => ok_some.2 (chk_bad fun k => not_dec h k.hi).symm) (fun h4 => ?_))
 refine Ok.bde (check1_v ..) (Ok.cd (fun h => ok_some.2 (chk_bad fun k => not_dec h k.ac).symm) (fun h5 => ?_))
 refine Ok.bde (check1_v ..) (Ok.cd (fun h => ok_some.2 (chk_bad fun k => not_dec h k.al).symm) (fun h6 => ?_))
 refine Ok.bde (check1_v ..) (Ok.cd (fun h => ok_some.2 (chk_bad fun k => not_dec h k.fo).symm) (fun h7 => ?_))
 refine Ok.bde (check2_v ..) (Ok.cd (fun h => ok_some.2 (chk_bad fun k => not_dec h k.ov).symm) (fun h8 => ?_))
 refine Ok.bde (check2_v ..) (Ok.cd (fun h => ok_some.2 (chk_bad fun k => not_dec h k.si).symm) (fun h9 => ?_))
 refine Ok.bde (check1_v ..) (Ok.cd (fun h => ok_some.2 (chk_bad fun k => not_dec h k.vi).symm) (fun h10 => ?_))
 have ok : OkS s := ⟨dec_of h1, dec_of h2, dec_of h3, dec_of h4, dec_of h5, dec_of h6, dec_of h7, dec_of h8, dec_of h9, dec_of h10⟩
 exact Ok.cd (fun h => ok_some.2 (chk_ord ok (of_decide_eq_true h)).symm) (fun h => ok_some.2 (chk_good ok (by have := of_decide_eq_false h; omega)).symm)
def far (a : Int) : Bool := !decide (near a)
theorem far_t {a : Int} : far a = true ↔ ¬ near a := by unfold far; rw [Bool.not_eq_true', decide_eq_false_iff_not]
theorem far_f {a : Int} : far a = false ↔ near a := by unfold far; rw [Bool.not_eq_false', decide_eq_true_eq]
theorem out_v {n : Nat} {l : List Int} (hn : l.length < n) (hl : l.length ≤ 9223372036854775806) : fiduciallaw55_out n l = some (l.any far) := by
 apply Ok.eq
 unfold fiduciallaw55_out
 refine Ok.bd (R := fun o => match o with | .inl _ => l.any far = false | .inr r => r = l.any far) ?_ ?_
 · refine ok_range (len := l.length) (fun k => ∀ j, j < k → far (l.getD j default) = false) hn hl (by intro j hj; omega) ?_ ?_
   · intro again k hk hP ih
     refine Ok.cd (fun _ => Ok.gd (by rw [inR_nat]; simpa using hk) ?_) (fun h => by simp at h; omega)
     rw [gt_nat]
     have bad : far (l.getD k default) = true → (true = l.any far) := fun h => (any_of_at hk h).symm
     refine Ok.cd (fun h => ok_some.2 (bad ?_)) (fun h1 => Ok.cd (fun h => ok_some.2 (bad ?_)) (fun h2 => ih fun j hj => ?_))
     · have := of_decide_eq_true h; rw [far_t]; unfold near; omega
     · have := of_decide_eq_true h; rw [far_t]; unfold near; omega
     · by_cases hjk : j = k
       · subst hjk
         have := of_decide_eq_false h1; have := of_decide_eq_false h2
         rw [far_f]; unfold near; omega
       · exact hP j (by omega)
   · intro again hP
     exact Ok.cd (fun h => by simp at h) (fun _ => ok_some.2 (any_false_iff.2 hP))
 · rintro (_ | r) h
   · exact ok_some.2 h.symm
   · exact ok_some.2 h
theorem rcheck_v {n : Nat} (hn : 100 < n) (s : api_Survey) : fiduciallaw55_check n s = some (chk s) := by
 apply Ok.eq
 unfold fiduciallaw55_check
 refine Ok.cd (fun h => ok_some.2 (chk_bad fun k => by have := of_decide_eq_true h; have := k.w; omega).symm) (fun h1 => ?_)
 refine Ok.cd (fun h => ok_some.2 (chk_bad fun k => by have := of_decide_eq_true h; have := k.h; omega).symm) (fun h2 => ?_)
 refine Ok.bde (out_v (by simp; omega) (by simp)) (Ok.cd (fun h => ok_some.2 (chk_bad fun k => ?_).symm) (fun h3 => ?_))
 · have := k.w; have := k.h; have := k.lo; have := k.hi; have := k.ac; have := k.al
   simp only [List.any_cons, List.any_nil, Bool.or_eq_true, far_t, Bool.false_eq_true, or_false, near] at h
   omega
 simp only [List.any_cons, List.any_nil, Bool.or_eq_false_iff, far_f, and_true, near] at h3
 refine Ok.cd (fun h => ok_some.2 (chk_bad fun k => by have := of_decide_eq_true h; have := k.ac; omega).symm) (fun h4 => ?_)
 refine Ok.cd (fun h => ok_some.2 (chk_bad fun k => by have := of_decide_eq_true h; have := k.al; omega).symm) (fun h5 => ?_)
 refine Ok.cd (fun h => ok_some.2 (chk_bad fun k => by have := of_decide_eq_true h; have := k.fo; omega).symm) (fun h6 => ?_)
 refine Ok.cd (fun h => ok_some.2 (chk_bad fun k => by have := of_decide_eq_true h; have := k.fo; omega).symm) (fun h7 => ?_)
 refine Ok.cd (fun h => ok_some.2 (chk_bad fun k => by have := of_decide_eq_true h; have := k.ov; omega).symm) (fun h8 => ?_)
 refine Ok.cd (fun h => ok_some.2 (chk_bad fun k => by have := of_decide_eq_true h; have := k.ov; omega).symm) (fun h9 => ?_)
 refine Ok.cd (fun h => ok_some.2 (chk_bad fun k => by have := of_decide_eq_true h; have := k.si; omega).symm) (fun h10 => ?_)
 refine Ok.cd (fun h => ok_some.2 (chk_bad fun k => by have := of_decide_eq_true h; have := k.si; omega).symm) (fun h11 => ?_)
 refine Ok.cd (fun h => ok_some.2 (chk_bad fun k => by have := of_decide_eq_true h; have := k.vi; omega).symm) (fun h12 => ?_)
 refine Ok.cd (fun h => ok_some.2 (chk_bad fun k => by have := of_decide_eq_true h; have := k.vi; omega).symm) (fun h13 => ?_)
 have e1 := of_decide_eq_false h1; have e2 := of_decide_eq_false h2; have e4 := of_decide_eq_false h4; have e5 := of_decide_eq_false h5
 have e6 := of_decide_eq_false h6; have e7 := of_decide_eq_false h7; have e8 := of_decide_eq_false h8; have e9 := of_decide_eq_false h9
 have e10 := of_decide_eq_false h10; have e11 := of_decide_eq_false h11; have e12 := of_decide_eq_false h12; have e13 := of_decide_eq_false h13
 clear h1 h2 h4 h5 h6 h7 h8 h9 h10 h11 h12 h13
 have ok : OkS s := ⟨by omega, by omega, by omega, by omega, by omega, by omega, by omega, by omega, by omega, by omega⟩
 exact Ok.cd (fun h => ok_some.2 (chk_ord ok (of_decide_eq_true h)).symm) (fun h => ok_some.2 (chk_good ok (by have := of_decide_eq_false h; omega)).symm)
theorem prod_in {a b : Int} (ha : 0 ≤ a ∧ a ≤ 2097152) (hb : 1 ≤ b ∧ b ≤ 1048576) : 0 ≤ a * b ∧ a * b ≤ 2199023255552 := by
 have h1 := Int.mul_le_mul ha.2 hb.2 (by omega) (by omega)
 have h2 := Int.mul_nonneg ha.1 (by omega : 0 ≤ b)
 omega
end Go.L

