/- Layer 9, P9.8: InTriangle. -/
import Derived.Test.YtlajgmapmocpbabGreatTriaL09c
set_option linter.unusedVariables false
set_option linter.unusedSimpArgs false
namespace Go.L
open Go Go.Eng

theorem orient_in {a b c : api_Pix} (ha : In a) (hb : In b) (hc : In c) : orientZ a b c = sgn (crossZ a b c) := by
  unfold orientZ; rw [ha, hb, hc]; rfl
def triZ (a b c p : api_Pix) : Int := mn (mn (mn 1 (sgn (crossZ a b c) * sgn (crossZ a b p))) (sgn (crossZ a b c) * sgn (crossZ b c p))) (sgn (crossZ a b c) * sgn (crossZ c a p))
theorem tri_in {n : Nat} (h : 10 < n) {a b c p : api_Pix} (hb : ([a, b, c, p] : List api_Pix).any badP = false) : predicate_InTriangle n a b c p = some (if crossZ a b c = 0 then (0, 13) else (triZ a b c p, 0)) := by
  obtain ⟨ha, hb', hc, hp⟩ := in4 hb
  unfold predicate_InTriangle
  rw [check_v h (by simp; omega) (by simp), hb]
  simp only [bdO, orient_v h, orient_in ha hb' hc, Bool.false_eq_true, if_false]
  have e0 : ((0 : Int) != 0) = false := rfl
  rw [e0]
  by_cases hz : crossZ a b c = 0
  · have hs : sgn (crossZ a b c) = 0 := by rw [hz]; rfl
    rw [if_pos hz, hs]; rfl
  · have hs : (sgn (crossZ a b c) == 0) = false := by
      have := sgn_cases (crossZ a b c)
      rw [beq_eq_false_iff_ne]; omega
    rw [if_neg hz, hs]
    simp only [cdO]
    apply Ok.eq
    refine Ok.bd (R := fun o => o = triZ a b c p) ?_ (fun r hr => by subst hr; exact ok_some.2 rfl)
    refine ok_rangeR (len := 3) (fun k out => out = match k with | 0 => 1 | 1 => mn 1 (sgn (crossZ a b c) * sgn (crossZ a b p)) | 2 => mn (mn 1 (sgn (crossZ a b c) * sgn (crossZ a b p))) (sgn (crossZ a b c) * sgn (crossZ b c p)) | _ => triZ a b c p) (by omega) (by omega) rfl ?_ ?_
    · intro again k out hk hP ih
      match k, hk, hP, ih with
      | 0, _, hP, ih =>
        subst hP
        have e : gt [A2.mk a b, A2.mk b c, A2.mk c a] ((0 : Nat) : Int) = A2.mk a b := rfl
        rw [e]
        simp only [cross_v ha hb' hp, sign_v, wrap_sgn]
        exact ih _ rfl
      | 1, _, hP, ih =>
        subst hP
        have e : gt [A2.mk a b, A2.mk b c, A2.mk c a] ((1 : Nat) : Int) = A2.mk b c := rfl
        rw [e]
        simp only [cross_v hb' hc hp, sign_v, wrap_sgn]
        exact ih _ rfl
      | 2, _, hP, ih =>
        subst hP
        have e : gt [A2.mk a b, A2.mk b c, A2.mk c a] ((2 : Nat) : Int) = A2.mk c a := rfl
        rw [e]
        simp only [cross_v hc ha hp, sign_v, wrap_sgn]
        exact ih _ rfl
      | k + 3, hk, _, _ => omega
    · intro again out hP
      exact ok_some.2 hP
theorem tri_out {n : Nat} (h : 10 < n) {a b c p : api_Pix} (hb : ([a, b, c, p] : List api_Pix).any badP = true) : predicate_InTriangle n a b c p = some (0, 2) := by
  unfold predicate_InTriangle
  rw [check_v h (by simp; omega) (by simp), hb]
  rfl
theorem least_v' (n : Nat) (a b : Int) : fiducialref09_least n a b = some (if a < b then a else b) := by
  unfold fiducialref09_least; by_cases h : a < b <;> simp [h, cdO]
theorem sgn_mul (x y : Int) : -1 ≤ sgn x * sgn y ∧ sgn x * sgn y ≤ 1 := by
  rcases sgn_cases x with ⟨_, h⟩ | ⟨_, h⟩ | ⟨_, h⟩ <;> rcases sgn_cases y with ⟨_, k⟩ | ⟨_, k⟩ | ⟨_, k⟩ <;> rw [h, k] <;> omega
theorem rtri_v {n : Nat} (h : 10 < n) {a b c p : api_Pix} (hb : ([a, b, c, p] : List api_Pix).any badP = false) : fiducialref09_InTriangle n a b c p = some (triZ a b c p) := by
  obtain ⟨ha, hb', hc, hp⟩ := in4 hb
  unfold fiducialref09_InTriangle triZ
  simp only [bdO, rorient_v h, orient_in ha hb' hc, orient_in ha hb' hp, orient_in hb' hc hp, orient_in hc ha hp, wrap_sgn, least_v']
  have h1 := sgn_mul (crossZ a b c) (crossZ a b p)
  have h2 := sgn_mul (crossZ a b c) (crossZ b c p)
  have h3 := sgn_mul (crossZ a b c) (crossZ c a p)
  generalize sgn (crossZ a b c) * sgn (crossZ a b p) = x at *
  generalize sgn (crossZ a b c) * sgn (crossZ b c p) = y at *
  generalize sgn (crossZ a b c) * sgn (crossZ c a p) = z at *
  congr 1
  simp only [mn]
  repeat' split
  all_goals omega
theorem tri_swap (a b c p : api_Pix) : triZ b a c p = triZ a b c p := by
  unfold triZ
  rw [cross_swap a b c, cross_swap a b p, cross_swap c a p, cross_swap b c p]
  simp only [sgn_neg, Int.neg_mul_neg]
  have h1 := sgn_mul (crossZ a b c) (crossZ a b p)
  have h2 := sgn_mul (crossZ a b c) (crossZ b c p)
  have h3 := sgn_mul (crossZ a b c) (crossZ c a p)
  generalize sgn (crossZ a b c) * sgn (crossZ a b p) = x at *
  generalize sgn (crossZ a b c) * sgn (crossZ b c p) = y at *
  generalize sgn (crossZ a b c) * sgn (crossZ c a p) = z at *
  simp only [mn]
  repeat' split
  all_goals omega
theorem tri_law (l : A4 api_Pix) : fiduciallaw09_PredicateTriangle 5000 l = some true := by
  unfold fiduciallaw09_PredicateTriangle
  rw [known09_v]
  simp only [bdO, all_v (n := 5000) (l := [l.e0, l.e1, l.e2, l.e3]) (by simp) (by simp)]
  have hsw : ([l.e1, l.e0, l.e2, l.e3] : List api_Pix).any badP = ([l.e0, l.e1, l.e2, l.e3] : List api_Pix).any badP := by
    simp only [List.any_cons, List.any_nil, Bool.or_false]
    cases badP l.e0 <;> cases badP l.e1 <;> rfl
  cases hb : ([l.e0, l.e1, l.e2, l.e3] : List api_Pix).any badP with
  | true => rw [tri_out (by omega) hb, tri_out (by omega) (hsw.trans hb)]; rfl
  | false =>
    obtain ⟨ha, hb', hc, hp⟩ := in4 hb
    rw [tri_in (by omega) hb, tri_in (by omega) (hsw.trans hb), rtri_v (by omega) hb, tri_swap l.e0 l.e1 l.e2 l.e3, cross_swap l.e0 l.e1 l.e2]
    simp only [rorient_v (n := 5000) (by omega), orient_in ha hb' hc, Bool.not_false, Bool.not_true]
    by_cases hz : crossZ l.e0 l.e1 l.e2 = 0
    · rw [hz]; rfl
    · have hs : (sgn (crossZ l.e0 l.e1 l.e2) == 0) = false := by
        have := sgn_cases (crossZ l.e0 l.e1 l.e2)
        rw [beq_eq_false_iff_ne]; omega
      rw [if_neg hz, if_neg (by omega), hs]
      simp only [beq_self_eq_true, cdO]
end Go.L
