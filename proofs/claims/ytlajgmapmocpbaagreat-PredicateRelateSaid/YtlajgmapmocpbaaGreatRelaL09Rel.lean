/- Layer 9, P9.4: Relate. -/
import Derived.Test.YtlajgmapmocpbaaGreatRelaL09d
set_option linter.unusedVariables false
set_option linter.unusedSimpArgs false
namespace Go.L
open Go Go.Eng

theorem orient_in {a b c : api_Pix} (ha : In a) (hb : In b) (hc : In c) : orientZ a b c = sgn (crossZ a b c) := by
  unfold orientZ; rw [ha, hb, hc]; rfl
theorem betw_in {a b c : api_Pix} (ha : In a) (hb : In b) (hc : In c) : betwB a b c = onB a b c := by
  unfold betwB; rw [ha, hb, hc]; rfl
theorem rrelate_in {n : Nat} (h : 10 < n) {a b c d : api_Pix} (hb : ([a, b, c, d] : List api_Pix).any badP = false) : fiducialref09_Relate n a b c d = some (relP a b c d) := by
  obtain ⟨ha, hb, hc, hd⟩ := in4 hb
  unfold fiducialref09_Relate relP relZ
  rw [rends_v h, betw_in hc hd ha, betw_in hc hd hb, betw_in ha hb hc, betw_in ha hb hd]
  simp only [bdO, rorient_v h, orient_in ha hb hc, orient_in ha hb hd, orient_in hc hd ha, orient_in hc hd hb, wrap_sgn]
  generalize (endsL a b c d (onB c d a) (onB c d b) (onB a b c) (onB a b d)).length = k
  by_cases h0 : k = 0
  · subst h0
    by_cases hp : sgn (crossZ a b c) * sgn (crossZ a b d) < 0 <;> by_cases hq : sgn (crossZ c d a) * sgn (crossZ c d b) < 0 <;> simp [hp, hq, cdO]
  · by_cases h1 : k = 1
    · subst h1; rfl
    · have d0 : decide ((k : Int) > 1) = true := by simp; omega
      have d2 : ¬ (k : Int) = 0 := by omega
      have d3 : ¬ (k : Int) = 1 := by omega
      simp only [d0, d2, d3, if_false, cdO]

/-- How many of four points are kept. -/
def cnt4 (la lb lc ld ab ac ad bc bd cd : Bool) : Nat :=
  (bif la then 1 else 0) + (bif lb && !(la && ab) then 1 else 0) + (bif lc && !((la && ac) || (lb && bc)) then 1 else 0) + (bif ld && !((la && ad) || (lb && bd) || (lc && cd)) then 1 else 0)
theorem addE_any (l : List api_Pix) (p q : api_Pix) (lies : Bool) : (addE l p lies).any (eqP q) = (l.any (eqP q) || (lies && eqP q p)) := by
  unfold addE
  cases lies with
  | false => simp
  | true =>
    cases h : l.any (eqP p) with
    | false => simp [List.any_append]
    | true =>
      simp only [Bool.not_true, Bool.and_false, Bool.false_eq_true, if_false, Bool.true_and]
      cases hq : eqP q p with
      | false => simp
      | true => rw [eqP_iff.1 hq, h]; rfl
theorem addE_length (l : List api_Pix) (p : api_Pix) (lies : Bool) : (addE l p lies).length = l.length + (bif lies && !(l.any (eqP p)) then 1 else 0) := by
  unfold addE; cases lies <;> cases l.any (eqP p) <;> simp
theorem ends_length (a b c d : api_Pix) (la lb lc ld : Bool) : (endsL a b c d la lb lc ld).length = cnt4 la lb lc ld (eqP b a) (eqP c a) (eqP d a) (eqP c b) (eqP d b) (eqP d c) := by
  unfold endsL cnt4
  simp only [addE_length, addE_any, List.any_nil, Bool.false_or, List.length_nil, Bool.not_false, Bool.and_true, Nat.zero_add]
def cnt4bad (la lb lc ld ab ac ad bc bd cd : Bool) : Bool :=
  (ab && bc && !ac) || (ab && ac && !bc) || (ac && bc && !ab) || (ab && bd && !ad) || (ab && ad && !bd) || (ad && bd && !ab) || (ac && cd && !ad) || (ac && ad && !cd) || (ad && cd && !ac) || (bc && cd && !bd) || (bc && bd && !cd) || (bd && cd && !bc) ||
    (ab && (la != lb)) || (cd && (lc != ld)) || (ac && !(la && lc)) || (ad && !(la && ld)) || (bc && !(lb && lc)) || (bd && !(lb && ld))
theorem cnt4_perm : ∀ la lb lc ld ab ac ad bc bd cd : Bool, (cnt4bad la lb lc ld ab ac ad bc bd cd || decide (cnt4 ld lc la lb cd ad bd ac bc ab = cnt4 la lb lc ld ab ac ad bc bd cd)) = true := by decide +kernel
theorem on_end (a b : api_Pix) : onB a b a = true := by
  unfold onB crossZ dotZ
  have e1 : (b.X - a.X) * (a.Y - a.Y) - (b.Y - a.Y) * (a.X - a.X) = 0 := by grind
  have e2 : (a.X - a.X) * (b.X - a.X) + (a.Y - a.Y) * (b.Y - a.Y) = 0 := by grind
  rw [e1, e2]; rfl
theorem on_end2 (a b : api_Pix) : onB a b b = true := by rw [← on_swap]; exact on_end b a
theorem eqP_sub {p q : api_Pix} (h : eqP p q = true) : p = q := eqP_iff.1 h
theorem bF {b : Bool} (h : b = true → False) : b = false := by cases b; rfl; exact (h rfl).elim
theorem ends_turn (a b c d : api_Pix) : (endsL d c a b (onB a b d) (onB a b c) (onB d c a) (onB d c b)).length = (endsL a b c d (onB c d a) (onB c d b) (onB a b c) (onB a b d)).length := by
  rw [ends_length, ends_length, on_swap c d a, on_swap c d b]
  rw [eqP_comm c d, eqP_comm a d, eqP_comm b d, eqP_comm a c, eqP_comm b c]
  have h := cnt4_perm (onB c d a) (onB c d b) (onB a b c) (onB a b d) (eqP b a) (eqP c a) (eqP d a) (eqP c b) (eqP d b) (eqP d c)
  rw [Bool.or_eq_true] at h
  rcases h with h | h
  · exfalso
    unfold cnt4bad at h
    simp only [Bool.or_eq_true, or_assoc, Bool.and_eq_true, Bool.not_eq_true', and_assoc] at h
    rcases h with h | h | h | h | h | h | h | h | h | h | h | h | h | h | h | h | h | h
    · have h1 := eqP_sub h.1; have h2 := eqP_sub h.2.1; subst h1; subst h2; have := h.2.2; first | (rw [h.1] at this; cases this; done) | (rw [h.2.1] at this; cases this; done)
    · have h1 := eqP_sub h.1; have h2 := eqP_sub h.2.1; subst h1; subst h2; have := h.2.2; first | (rw [h.1] at this; cases this; done) | (rw [h.2.1] at this; cases this; done)
    · have h1 := eqP_sub h.1; have h2 := eqP_sub h.2.1; subst h1; subst h2; have := h.2.2; first | (rw [h.1] at this; cases this; done) | (rw [h.2.1] at this; cases this; done)
    · have h1 := eqP_sub h.1; have h2 := eqP_sub h.2.1; subst h1; subst h2; have := h.2.2; first | (rw [h.1] at this; cases this; done) | (rw [h.2.1] at this; cases this; done)
    · have h1 := eqP_sub h.1; have h2 := eqP_sub h.2.1; subst h1; subst h2; have := h.2.2; first | (rw [h.1] at this; cases this; done) | (rw [h.2.1] at this; cases this; done)
    · have h1 := eqP_sub h.1; have h2 := eqP_sub h.2.1; subst h1; subst h2; have := h.2.2; first | (rw [h.1] at this; cases this; done) | (rw [h.2.1] at this; cases this; done)
    · have h1 := eqP_sub h.1; have h2 := eqP_sub h.2.1; subst h1; subst h2; have := h.2.2; first | (rw [h.1] at this; cases this; done) | (rw [h.2.1] at this; cases this; done)
    · have h1 := eqP_sub h.1; have h2 := eqP_sub h.2.1; subst h1; subst h2; have := h.2.2; first | (rw [h.1] at this; cases this; done) | (rw [h.2.1] at this; cases this; done)
    · have h1 := eqP_sub h.1; have h2 := eqP_sub h.2.1; subst h1; subst h2; have := h.2.2; first | (rw [h.1] at this; cases this; done) | (rw [h.2.1] at this; cases this; done)
    · have h1 := eqP_sub h.1; have h2 := eqP_sub h.2.1; subst h1; subst h2; have := h.2.2; first | (rw [h.1] at this; cases this; done) | (rw [h.2.1] at this; cases this; done)
    · have h1 := eqP_sub h.1; have h2 := eqP_sub h.2.1; subst h1; subst h2; have := h.2.2; first | (rw [h.1] at this; cases this; done) | (rw [h.2.1] at this; cases this; done)
    · have h1 := eqP_sub h.1; have h2 := eqP_sub h.2.1; subst h1; subst h2; have := h.2.2; first | (rw [h.1] at this; cases this; done) | (rw [h.2.1] at this; cases this; done)
    · have h1 := eqP_sub h.1; subst h1; simp at h
    · have h1 := eqP_sub h.1; subst h1; simp at h
    · have h1 := eqP_sub h.1; subst h1; have := h.2; rw [on_end, on_end] at this; cases this
    · have h1 := eqP_sub h.1; subst h1; have := h.2; rw [on_end2, on_end] at this; cases this
    · have h1 := eqP_sub h.1; subst h1; have := h.2; rw [on_end, on_end2] at this; cases this
    · have h1 := eqP_sub h.1; subst h1; have := h.2; rw [on_end2, on_end2] at this; cases this
  · exact of_decide_eq_true h
theorem rel_turn (a b c d : api_Pix) : relP d c a b = relP a b c d := by
  unfold relP
  rw [ends_turn]
  have e1 : crossZ d c a = -crossZ c d a := cross_swap c d a
  have e2 : crossZ d c b = -crossZ c d b := cross_swap c d b
  rw [e1, e2, sgn_neg, sgn_neg]
  unfold relZ
  have e3 : -sgn (crossZ c d a) * -sgn (crossZ c d b) = sgn (crossZ c d a) * sgn (crossZ c d b) := by rw [Int.neg_mul_neg]
  have e4 : sgn (crossZ a b d) * sgn (crossZ a b c) = sgn (crossZ a b c) * sgn (crossZ a b d) := Int.mul_comm _ _
  rw [e3, e4]
  split
  · split <;> split <;> first | rfl | (simp_all)
  · rfl
theorem any_turn (a b c d : api_Pix) : ([d, c, a, b] : List api_Pix).any badP = ([a, b, c, d] : List api_Pix).any badP := by
  simp only [List.any_cons, List.any_nil, Bool.or_false]
  cases badP a <;> cases badP b <;> cases badP c <;> cases badP d <;> rfl
theorem relate_law (l : A4 api_Pix) : fiduciallaw09_PredicateRelate 5000 l = some true := by
  unfold fiduciallaw09_PredicateRelate
  rw [known09_v]
  simp only [bdO, all_v (n := 5000) (l := [l.e0, l.e1, l.e2, l.e3]) (by simp) (by simp)]
  cases hb : ([l.e0, l.e1, l.e2, l.e3] : List api_Pix).any badP with
  | true => rw [relate_out (by omega) hb]; rfl
  | false =>
    rw [relate_in (by omega) hb, relate_in (by omega) (by rw [any_turn]; exact hb), rrelate_in (by omega) hb, rel_turn l.e0 l.e1 l.e2 l.e3]
    simp only [Bool.not_true, Bool.not_false, beq_self_eq_true, cdO]
end Go.L
