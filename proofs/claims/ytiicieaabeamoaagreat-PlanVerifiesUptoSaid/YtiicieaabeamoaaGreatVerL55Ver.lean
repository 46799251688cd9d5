import Derived.Test.YtiicieaabeamoaaGreatVerL55v
set_option linter.all false
namespace Go.L
open Go Go.Eng
theorem u16_of {a : Int} (h : (Lit.int .u16 a).wf = true) : 0 ≤ a ∧ a ≤ 65535 := by
 simp [Lit.wf, IntKind.min, IntKind.max, IntKind.signed, IntKind.bits] at h
 exact h
theorem verifies_v (s : api_Survey) (f : api_Flight) (at' : A3 Int) (hb : fsz f ≤ 1048576) (u0 : 0 ≤ at'.e0 ∧ at'.e0 ≤ 65535) (u1 : 0 ≤ at'.e1 ∧ at'.e1 ≤ 65535) (u2 : 0 ≤ at'.e2 ∧ at'.e2 ≤ 65535) : fiduciallaw55_PlanVerifies 5000 s f at' = some true := by
 apply Ok.eq
 unfold fiduciallaw55_PlanVerifies
 refine Ok.bde known55_v (Ok.cd (fun h => by cases h) (fun _ => Ok.bde (few_v (by omega) hb 8) (Ok.cd (fun _ => ok_some.2 rfl) (fun hfew => ?_))))
 obtain ⟨f1, f2⟩ := dec_of hfew
 have f2 : (pts f).length ≤ 12 := by omega
 by_cases hr : rcode s f s.High = 0
 · obtain ⟨hc, hh, hp, hg, hlow⟩ := rcode_zero hr
   obtain ⟨ok, hord⟩ := chk_zero hc
   have hfo := ok.fo; have hlo := ok.lo; have hhi := ok.hi; have hw := ok.w; have hhe := ok.h
   obtain ⟨axx, axy⟩ := axes ok f2 hp hh hg hlow
   have hcv : Ok (plan_Verify 5000 s f) fun v => v = if (bst s f s.High).1 < s.Views then 12 else 0 := by
    unfold plan_Verify
    refine Ok.bde (askedT_v (by omega) f1 (by omega) s.High) ?_
    rw [hr]
    refine Ok.cd (fun h => by cases h) (fun _ => Ok.bd (cover_ok (by omega) ok f1 f2 hp hh hg hlow) fun v hv => ?_)
    have e1 : v.1 = (bst s f s.High).1 := hv.1
    rw [e1]
    exact Ok.cd (fun h => ok_some.2 (by rw [if_pos (of_decide_eq_true h)])) (fun h => ok_some.2 (by rw [if_neg (of_decide_eq_false h)]))
   refine Ok.bd hcv fun v hv => Ok.bde (rasked_v (by omega) f1 (by omega) s.High) ?_
   rw [hr]
   refine Ok.bd (R := fun o => o = if (bst s f s.High).1 < s.Views then 12 else 0) ?_ ?_
   · refine Ok.cd (fun _ => Ok.bde (rcover_ok (by omega) ok hb f1 f2 hp hh hg hlow) ?_) (fun h => by cases h)
     exact Ok.cd (fun h => ok_some.2 (by rw [if_pos (of_decide_eq_true h)])) (fun h => ok_some.2 (by rw [if_neg (of_decide_eq_false h)]))
   · rintro o rfl
     subst hv
     refine Ok.cd (fun h => by simp at h) (fun _ => Ok.cd (fun _ => ok_some.2 rfl) (fun hv => ?_))
     have hviews : s.Views ≤ (bst s f s.High).1 := by
      by_cases k : (bst s f s.High).1 < s.Views
      · rw [if_pos k] at hv; cases hv
      · omega
     unfold near at hh hg
     have m0 := mul_bound (a := s.Width) (b := at'.e0) (A := 1048576) (B := 65535) (by omega) (by omega) (by omega) (by omega)
     have m1 := mul_bound (a := s.Height) (b := at'.e1) (A := 1048576) (B := 65535) (by omega) (by omega) (by omega) (by omega)
     have m2 := mul_bound (a := s.High - s.Low) (b := at'.e2) (A := 2097152) (B := 65535) (by omega) (by omega) (by omega) (by omega)
     have p0 : 0 ≤ s.Width * at'.e0 := Int.mul_nonneg (by omega) u0.1
     have p1 : 0 ≤ s.Height * at'.e1 := Int.mul_nonneg (by omega) u1.1
     have p2 : 0 ≤ (s.High - s.Low) * at'.e2 := Int.mul_nonneg (by omega) u2.1
     have t0 : s.Width * at'.e0 ≤ s.Width * 65535 := Int.mul_le_mul_of_nonneg_left u0.2 (by omega)
     have t1 : s.Height * at'.e1 ≤ s.Height * 65535 := Int.mul_le_mul_of_nonneg_left u1.2 (by omega)
     have t2 : (s.High - s.Low) * at'.e2 ≤ (s.High - s.Low) * 65535 := Int.mul_le_mul_of_nonneg_left u2.2 (by omega)
     rw [wrap64_in (n := at'.e0) (by omega) (by omega), wrap64_in (n := at'.e1) (by omega) (by omega), wrap64_in (n := at'.e2) (by omega) (by omega), wrap64_in (n := s.Width * at'.e0) (by omega) (by omega), wrap64_in (n := s.Height * at'.e1) (by omega) (by omega), wrap64_in (n := s.High - s.Low) (by omega) (by omega), wrap64_in (n := (s.High - s.Low) * at'.e2) (by omega) (by omega), Int.tdiv_eq_ediv_of_nonneg p2]
     generalize (s.High - s.Low) * at'.e2 = q at *
     have d1 : 0 ≤ q / 65535 ∧ q / 65535 ≤ s.High - s.Low := by omega
     rw [wrap64_in (n := q / 65535) (by omega) (by omega), wrap64_in (n := s.Low + q / 65535) (by omega) (by omega)]
     generalize q / 65535 = d at *
     obtain ⟨g, hgd⟩ : ∃ g, g = s.Low + d := ⟨_, rfl⟩
     rw [← hgd]
     generalize s.Width * at'.e0 = X at *
     generalize s.Height * at'.e1 = Y at *
     refine Ok.bd (R.qOf_ok (by omega) (by omega) (by omega) (by omega) (by omega) (by omega)) fun x hx => Ok.bd (R.qOf_ok (by omega) (by omega) (by omega) (by omega) (by omega) (by omega)) fun y hy => ?_
     refine Ok.bde (seen_ok (by omega) ok hb f1 f2 hp (by unfold near; omega) (by unfold near; omega) (by omega) hx.1 hy.1 (by omega) (by omega) (by omega)) (ok_some.2 ?_)
     obtain ⟨m, hm, hmx⟩ := mark_of axx (p := X) (q := 65535) (by omega) p0 t0
     obtain ⟨m', hm', hmy⟩ := mark_of axy (p := Y) (q := 65535) (by omega) p1 t1
     have hle := (bestA_le (cnt := cntP (pts f) (4 * s.Focal) (s.Along * (f.Height - s.High)) (s.Across * (f.Height - s.High))) (L' := axM s.Height (4 * s.Focal) (s.Across * (f.Height - s.High)) ((pts f).map (·.Y))) (axM s.Width (4 * s.Focal) (s.Along * (f.Height - s.High)) ((pts f).map (·.X))) (257, 0, 0)).2 m hm m' hm'
     have hal := ok.al; have hac := ok.ac
     have z1 : s.Along * (f.Height - s.High) ≤ s.Along * (f.Height - g) := Int.mul_le_mul_of_nonneg_left (by omega) (by omega)
     have z2 : s.Across * (f.Height - s.High) ≤ s.Across * (f.Height - g) := Int.mul_le_mul_of_nonneg_left (by omega) (by omega)
     have hcg := cntP_le_G (P := pts f) (m := m) (m' := m') (fun a ha => hmx _ z1 a ha) (fun b hb => hmy _ z2 b hb)
     refine decide_eq_true ?_
     unfold bst at hviews
     exact Int.le_trans hviews (Int.le_trans hle hcg)
 · have hcv : plan_Verify 5000 s f = some (rcode s f s.High) := by
    apply Ok.eq
    unfold plan_Verify
    refine Ok.bde (askedT_v (by omega) f1 (by omega) s.High) ?_
    exact Ok.cd (fun _ => ok_some.2 rfl) (fun h => absurd (by simpa using h) hr)
   refine Ok.bde hcv (Ok.bde (rasked_v (by omega) f1 (by omega) s.High) ?_)
   refine Ok.bd (R := fun o => o = rcode s f s.High) (Ok.cd (fun h => absurd (by simpa using h) hr) (fun _ => ok_some.2 rfl)) ?_
   rintro o rfl
   refine Ok.cd (fun h => by simp at h) (fun _ => Ok.cd (fun _ => ok_some.2 rfl) (fun h => absurd (by simpa using h) hr))
end Go.L

