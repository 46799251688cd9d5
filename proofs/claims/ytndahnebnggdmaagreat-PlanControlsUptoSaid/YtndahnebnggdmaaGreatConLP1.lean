/- The program's functions compute what the plain Lean programs compute, part 1; printed by a program. -/
import Derived.Test.YtndahnebnggdmaaGreatConLD
import Derived.Test.YtndahnebnggdmaaGreatL0dpbdclmj
import Derived.Test.YtndahnebnggdmaaGreatSortlkejhobd
import Derived.Test.YtndahnebnggdmaaGreatChecked
import Derived.KernelRfl
set_option linter.all false
set_option maxRecDepth 100000
set_option maxHeartbeats 4000000
namespace Go.L
open Go Go.Eng Go.Proofs
theorem fiduciallaw55_example_ok (n : Nat) (r : api_Survey) (hr : fiduciallaw55_example n = some r) : FnOk Tryz.prog 14 [] (.agg (api_Survey.c r)) := by
 unfold fiduciallaw55_example at hr
 refine FnOk.bd G Tryz.func14 [.cell 0 23] ?_
 unfold Tryz.f14
 simp only [Option.getD_some]
 refine .seq (.r2 G 2 [(0, .hp 0 0)] [.own [aI64 0, aI64 0, aI64 0, aI64 0, aI64 0, aI64 0, aI64 0, aI64 0, aI64 0, aI64 0]] (.seq (.r5 G [0] [] [.own [aI64 100, aI64 30, aI64 0, aI64 0, aI64 40, aI64 64, aI64 64, aI64 60, aI64 20, aI64 1]] (.ret ?_))))
 obtain rfl := oi hr
 exact FinQ.r1 [.agg [aI64 100, aI64 30, aI64 0, aI64 0, aI64 40, aI64 64, aI64 64, aI64 60, aI64 20, aI64 1]]

theorem plan_Check_1_inj {n' : Int} {most : Int} {n'_ : Int} {most_ : Int} (h : ([.at (.int .i64 n'), .at (.int .i64 most)] : List AV) = [.at (.int .i64 n'_), .at (.int .i64 most_)]) : n' = n'_ ∧ most = most_ := by
 simp only [List.cons.injEq, AV.agg.injEq, AV.at.injEq, Value.int.injEq, Value.bool.injEq, AV.fn.injEq, AV.pp.injEq, true_and, and_true] at h
 simp_all
theorem plan_Check_1_cg (n : Nat) {n' : Int} {most : Int} {n'_ : Int} {most_ : Int} (h : ([.at (.int .i64 n'), .at (.int .i64 most)] : List AV) = [.at (.int .i64 n'_), .at (.int .i64 most_)]) : plan_Check_1 n n' most = plan_Check_1 n n'_ most_ := by
 obtain ⟨rfl, rfl⟩ := plan_Check_1_inj h
 rfl
theorem plan_Check_1_ok (n : Nat) (n' : Int) (most : Int) (r : Bool) (hr : plan_Check_1 n n' most = some r) : FnOk Tryz.prog 53 [aI64 n', aI64 most] (aB r) := by
 unfold plan_Check_1 at hr
 refine FnOk.bd G Tryz.func53 [.tmp 4] ?_
 unfold Tryz.f53
 simp only [Option.getD_some]
 refine .seq (.r4 G [0, 1] [] (.seq ?_))
 rcases Bool.eq_false_or_eq_true (decide (n' ≥ 1)) with hb1 | hb1
 ·replace hr := cd_t hb1 hr
  refine .r0 G (.mu 1 (.p0 (v := aB true) (eB hb1) (.mu 6 (.done (.ret ?_)))))
  obtain rfl := oi hr
  exact FinQ.r1 [aB (decide (n' ≤ most))]
 ·replace hr := cd_f hb1 hr
  refine .r0 G (.mu 1 (.p0 (v := aB false) (eB hb1) (.mu 6 (.done (.ret ?_)))))
  obtain rfl := oi hr
  exact FinQ.r1 [aB false]

theorem plan_within_inj {n' : Int} {n'_ : Int} (h : ([.at (.int .i64 n')] : List AV) = [.at (.int .i64 n'_)]) : n' = n'_ := by
 simp only [List.cons.injEq, AV.agg.injEq, AV.at.injEq, Value.int.injEq, Value.bool.injEq, AV.fn.injEq, AV.pp.injEq, true_and, and_true] at h
 simp_all
theorem plan_within_cg (n : Nat) {n' : Int} {n'_ : Int} (h : ([.at (.int .i64 n')] : List AV) = [.at (.int .i64 n'_)]) : plan_within n n' = plan_within n n'_ := by
 obtain rfl := plan_within_inj h
 rfl
theorem plan_within_ok (n : Nat) (n' : Int) (r : Bool) (hr : plan_within n n' = some r) : FnOk Tryz.prog 23 [aI64 n'] (aB r) := by
 unfold plan_within at hr
 refine FnOk.bd G Tryz.func23 [.tmp 2] ?_
 unfold Tryz.f23
 simp only [Option.getD_some]
 refine .seq (.r4 G [0] [] (.seq ?_))
 rcases Bool.eq_false_or_eq_true (decide (n' ≥ (-1048576))) with hb1 | hb1
 ·replace hr := cd_t hb1 hr
  refine .r0 G (.mu 1 (.p0 (v := aB true) (eB hb1) (.mu 5 (.done (.ret ?_)))))
  obtain rfl := oi hr
  exact FinQ.r1 [aB (decide (n' ≤ 1048576))]
 ·replace hr := cd_f hb1 hr
  refine .r0 G (.mu 1 (.p0 (v := aB false) (eB hb1) (.mu 5 (.done (.ret ?_)))))
  obtain rfl := oi hr
  exact FinQ.r1 [aB false]

theorem plan_Check_2_cg (n : Nat) {n' : Int} {n'_ : Int} (h : ([.at (.int .i64 n')] : List AV) = [.at (.int .i64 n'_)]) : plan_Check_2 n n' = plan_Check_2 n n'_ := by
 obtain rfl := plan_within_inj h
 rfl
theorem plan_Check_2_ok (n : Nat) (n' : Int) (r : Bool) (hr : plan_Check_2 n n' = some r) : FnOk Tryz.prog 54 [aI64 n'] (aB r) := by
 unfold plan_Check_2 at hr
 refine FnOk.bd G Tryz.func54 [.tmp 2] ?_
 unfold Tryz.f54
 simp only [Option.getD_some]
 refine .seq (.r4 G [0] [] (.seq ?_))
 rcases Bool.eq_false_or_eq_true (decide (n' ≥ 0)) with hb1 | hb1
 ·replace hr := cd_t hb1 hr
  refine .r0 G (.mu 1 (.p0 (v := aB true) (eB hb1) (.mu 5 (.done (.ret ?_)))))
  obtain rfl := oi hr
  exact FinQ.r1 [aB (decide (n' ≤ 95))]
 ·replace hr := cd_f hb1 hr
  refine .r0 G (.mu 1 (.p0 (v := aB false) (eB hb1) (.mu 5 (.done (.ret ?_)))))
  obtain rfl := oi hr
  exact FinQ.r1 [aB false]

theorem plan_Check_ok (n : Nat) (s : api_Survey) (r : Int) (hr : plan_Check n s = some r) : FnOk Tryz.prog 33 [.agg (api_Survey.c s)] (aI64 r) := by
 unfold plan_Check at hr
 refine FnOk.bd G Tryz.func33 [.tmp 2] ?_
 unfold Tryz.f33
 simp only [Option.getD_some]
 refine .seq (.r2 G 76 [(1, .hp 0 0)] [.own (api_Survey.c s)] (.seq (.r4 G [1] [(3, .fn 53 [] [])] (.seq (.r4 G [1, 3] [(4, .fn 54 [] [])] (.seq (.seq ?_)))))))
 obtain ⟨v1, hc2, hr⟩ := bd hr
 rcases Bool.eq_false_or_eq_true (!v1) with hb3 | hb3
 ·replace hr := cd_t hb3 hr
  refine .g1 G (ok0 (plan_Check_1_ok n s.Width 1048576 v1 hc2)) (.mu 3 (.ca cf0 (.p0 (v := aB true) (eB hb3) (.mu 61 (.done (.nh [1, 70] [.own (api_Survey.c s)] (.cT (by kernel_rfl) (.seq (.ru G (.ret ?_))))))))))
  obtain rfl := oi hr
  exact FinQ.r1 [aI64 2]
 ·replace hr := cd_f hb3 hr
  obtain ⟨v4, hc5, hr⟩ := bd hr
  rcases Bool.eq_false_or_eq_true (!v4) with hb6 | hb6
  ·replace hr := cd_t hb6 hr
   refine .gn G (ca1 (ok0 (plan_Check_1_ok n s.Width 1048576 v1 hc2)) (ca3 (ok0 (plan_Check_1_ok n s.Height 1048576 v4 hc5)))) (.mu 3 (.ca cf0 (.p0 (v := aB false) (eB hb3) (.mu 4 (.ca (cfA (fun h => by rw [sv hc5 hc2 (plan_Check_1_cg n h)]) cf0) (.pure (v := aB true) (by kernel_rfl) (eB hb6) (.mu 55 (.done (.nh [1, 70] [.own (api_Survey.c s)] (.cT (by kernel_rfl) (.seq (.ru G (.ret ?_)))))))))))))
   obtain rfl := oi hr
   exact FinQ.r1 [aI64 2]
  ·replace hr := cd_f hb6 hr
   obtain ⟨v7, hc8, hr⟩ := bd hr
   rcases Bool.eq_false_or_eq_true (!v7) with hb9 | hb9
   ·replace hr := cd_t hb9 hr
    refine .gn G (ca1 (ok0 (plan_Check_1_ok n s.Width 1048576 v1 hc2)) (ca1 (ok0 (plan_Check_1_ok n s.Height 1048576 v4 hc5)) (ca3 (ok0 (plan_within_ok n s.Low v7 hc8))))) (.mu 3 (.ca cf0 (.p0 (v := aB false) (eB hb3) (.mu 4 (.ca (cfA (fun h => by rw [sv hc5 hc2 (plan_Check_1_cg n h)]) cf0) (.pure (v := aB false) (by kernel_rfl) (eB hb6) (.mu 4 (.ca (cfF (cfF cf0)) (.pure (v := aB true) (by kernel_rfl) (eB hb9) (.mu 49 (.done (.nh [1, 70] [.own (api_Survey.c s)] (.cT (by kernel_rfl) (.seq (.ru G (.ret ?_))))))))))))))))
    obtain rfl := oi hr
    exact FinQ.r1 [aI64 2]
   ·replace hr := cd_f hb9 hr
    obtain ⟨v10, hc11, hr⟩ := bd hr
    rcases Bool.eq_false_or_eq_true (!v10) with hb12 | hb12
    ·replace hr := cd_t hb12 hr
     refine .gn G (ca1 (ok0 (plan_Check_1_ok n s.Width 1048576 v1 hc2)) (ca1 (ok0 (plan_Check_1_ok n s.Height 1048576 v4 hc5)) (ca1 (ok0 (plan_within_ok n s.Low v7 hc8)) (ca3 (ok0 (plan_within_ok n s.High v10 hc11)))))) (.mu 3 (.ca cf0 (.p0 (v := aB false) (eB hb3) (.mu 4 (.ca (cfA (fun h => by rw [sv hc5 hc2 (plan_Check_1_cg n h)]) cf0) (.pure (v := aB false) (by kernel_rfl) (eB hb6) (.mu 4 (.ca (cfF (cfF cf0)) (.pure (v := aB false) (by kernel_rfl) (eB hb9) (.mu 4 (.ca (cfF (cfF (cfA (fun h => by rw [sv hc11 hc8 (plan_within_cg n h)]) cf0))) (.pure (v := aB true) (by kernel_rfl) (eB hb12) (.mu 43 (.done (.nh [1, 70] [.own (api_Survey.c s)] (.cT (by kernel_rfl) (.seq (.ru G (.ret ?_)))))))))))))))))))
     obtain rfl := oi hr
     exact FinQ.r1 [aI64 2]
    ·replace hr := cd_f hb12 hr
     obtain ⟨v13, hc14, hr⟩ := bd hr
     rcases Bool.eq_false_or_eq_true (!v13) with hb15 | hb15
     ·replace hr := cd_t hb15 hr
      refine .gn G (ca1 (ok0 (plan_Check_1_ok n s.Width 1048576 v1 hc2)) (ca1 (ok0 (plan_Check_1_ok n s.Height 1048576 v4 hc5)) (ca1 (ok0 (plan_within_ok n s.Low v7 hc8)) (ca1 (ok0 (plan_within_ok n s.High v10 hc11)) (ca3 (ok0 (plan_Check_1_ok n s.Across 1048576 v13 hc14))))))) (.mu 3 (.ca cf0 (.p0 (v := aB false) (eB hb3) (.mu 4 (.ca (cfA (fun h => by rw [sv hc5 hc2 (plan_Check_1_cg n h)]) cf0) (.pure (v := aB false) (by kernel_rfl) (eB hb6) (.mu 4 (.ca (cfF (cfF cf0)) (.pure (v := aB false) (by kernel_rfl) (eB hb9) (.mu 4 (.ca (cfF (cfF (cfA (fun h => by rw [sv hc11 hc8 (plan_within_cg n h)]) cf0))) (.pure (v := aB false) (by kernel_rfl) (eB hb12) (.mu 5 (.ca (cfA (fun h => by rw [sv hc14 hc2 (plan_Check_1_cg n h)]) (cfA (fun h => by rw [sv hc14 hc5 (plan_Check_1_cg n h)]) (cfF (cfF cf0)))) (.pure (v := aB true) (by kernel_rfl) (eB hb15) (.mu 36 (.done (.nh [1, 70] [.own (api_Survey.c s)] (.cT (by kernel_rfl) (.seq (.ru G (.ret ?_))))))))))))))))))))))
      obtain rfl := oi hr
      exact FinQ.r1 [aI64 2]
     ·replace hr := cd_f hb15 hr
      obtain ⟨v16, hc17, hr⟩ := bd hr
      rcases Bool.eq_false_or_eq_true (!v16) with hb18 | hb18
      ·replace hr := cd_t hb18 hr
       refine .gn G (ca1 (ok0 (plan_Check_1_ok n s.Width 1048576 v1 hc2)) (ca1 (ok0 (plan_Check_1_ok n s.Height 1048576 v4 hc5)) (ca1 (ok0 (plan_within_ok n s.Low v7 hc8)) (ca1 (ok0 (plan_within_ok n s.High v10 hc11)) (ca1 (ok0 (plan_Check_1_ok n s.Across 1048576 v13 hc14)) (ca3 (ok0 (plan_Check_1_ok n s.Along 1048576 v16 hc17)))))))) (.mu 3 (.ca cf0 (.p0 (v := aB false) (eB hb3) (.mu 4 (.ca (cfA (fun h => by rw [sv hc5 hc2 (plan_Check_1_cg n h)]) cf0) (.pure (v := aB false) (by kernel_rfl) (eB hb6) (.mu 4 (.ca (cfF (cfF cf0)) (.pure (v := aB false) (by kernel_rfl) (eB hb9) (.mu 4 (.ca (cfF (cfF (cfA (fun h => by rw [sv hc11 hc8 (plan_within_cg n h)]) cf0))) (.pure (v := aB false) (by kernel_rfl) (eB hb12) (.mu 5 (.ca (cfA (fun h => by rw [sv hc14 hc2 (plan_Check_1_cg n h)]) (cfA (fun h => by rw [sv hc14 hc5 (plan_Check_1_cg n h)]) (cfF (cfF cf0)))) (.pure (v := aB false) (by kernel_rfl) (eB hb15) (.mu 5 (.ca (cfA (fun h => by rw [sv hc17 hc2 (plan_Check_1_cg n h)]) (cfA (fun h => by rw [sv hc17 hc5 (plan_Check_1_cg n h)]) (cfF (cfF (cfA (fun h => by rw [sv hc17 hc14 (plan_Check_1_cg n h)]) cf0))))) (.pure (v := aB true) (by kernel_rfl) (eB hb18) (.mu 29 (.done (.nh [1, 70] [.own (api_Survey.c s)] (.cT (by kernel_rfl) (.seq (.ru G (.ret ?_)))))))))))))))))))))))))
       obtain rfl := oi hr
       exact FinQ.r1 [aI64 2]
      ·replace hr := cd_f hb18 hr
       obtain ⟨v19, hc20, hr⟩ := bd hr
       rcases Bool.eq_false_or_eq_true (!v19) with hb21 | hb21
       ·replace hr := cd_t hb21 hr
        refine .gn G (ca1 (ok0 (plan_Check_1_ok n s.Width 1048576 v1 hc2)) (ca1 (ok0 (plan_Check_1_ok n s.Height 1048576 v4 hc5)) (ca1 (ok0 (plan_within_ok n s.Low v7 hc8)) (ca1 (ok0 (plan_within_ok n s.High v10 hc11)) (ca1 (ok0 (plan_Check_1_ok n s.Across 1048576 v13 hc14)) (ca1 (ok0 (plan_Check_1_ok n s.Along 1048576 v16 hc17)) (ca3 (ok0 (plan_Check_1_ok n s.Focal 1048576 v19 hc20))))))))) (.mu 3 (.ca cf0 (.p0 (v := aB false) (eB hb3) (.mu 4 (.ca (cfA (fun h => by rw [sv hc5 hc2 (plan_Check_1_cg n h)]) cf0) (.pure (v := aB false) (by kernel_rfl) (eB hb6) (.mu 4 (.ca (cfF (cfF cf0)) (.pure (v := aB false) (by kernel_rfl) (eB hb9) (.mu 4 (.ca (cfF (cfF (cfA (fun h => by rw [sv hc11 hc8 (plan_within_cg n h)]) cf0))) (.pure (v := aB false) (by kernel_rfl) (eB hb12) (.mu 5 (.ca (cfA (fun h => by rw [sv hc14 hc2 (plan_Check_1_cg n h)]) (cfA (fun h => by rw [sv hc14 hc5 (plan_Check_1_cg n h)]) (cfF (cfF cf0)))) (.pure (v := aB false) (by kernel_rfl) (eB hb15) (.mu 5 (.ca (cfA (fun h => by rw [sv hc17 hc2 (plan_Check_1_cg n h)]) (cfA (fun h => by rw [sv hc17 hc5 (plan_Check_1_cg n h)]) (cfF (cfF (cfA (fun h => by rw [sv hc17 hc14 (plan_Check_1_cg n h)]) cf0))))) (.pure (v := aB false) (by kernel_rfl) (eB hb18) (.mu 5 (.ca (cfA (fun h => by rw [sv hc20 hc2 (plan_Check_1_cg n h)]) (cfA (fun h => by rw [sv hc20 hc5 (plan_Check_1_cg n h)]) (cfF (cfF (cfA (fun h => by rw [sv hc20 hc14 (plan_Check_1_cg n h)]) (cfA (fun h => by rw [sv hc20 hc17 (plan_Check_1_cg n h)]) cf0)))))) (.pure (v := aB true) (by kernel_rfl) (eB hb21) (.mu 22 (.done (.nh [1, 70] [.own (api_Survey.c s)] (.cT (by kernel_rfl) (.seq (.ru G (.ret ?_))))))))))))))))))))))))))))
        obtain rfl := oi hr
        exact FinQ.r1 [aI64 2]
       ·replace hr := cd_f hb21 hr
        obtain ⟨v22, hc23, hr⟩ := bd hr
        rcases Bool.eq_false_or_eq_true (!v22) with hb24 | hb24
        ·replace hr := cd_t hb24 hr
         refine .gn G (ca1 (ok0 (plan_Check_1_ok n s.Width 1048576 v1 hc2)) (ca1 (ok0 (plan_Check_1_ok n s.Height 1048576 v4 hc5)) (ca1 (ok0 (plan_within_ok n s.Low v7 hc8)) (ca1 (ok0 (plan_within_ok n s.High v10 hc11)) (ca1 (ok0 (plan_Check_1_ok n s.Across 1048576 v13 hc14)) (ca1 (ok0 (plan_Check_1_ok n s.Along 1048576 v16 hc17)) (ca1 (ok0 (plan_Check_1_ok n s.Focal 1048576 v19 hc20)) (ca3 (ok0 (plan_Check_2_ok n s.Overlap v22 hc23)))))))))) (.mu 3 (.ca cf0 (.p0 (v := aB false) (eB hb3) (.mu 4 (.ca (cfA (fun h => by rw [sv hc5 hc2 (plan_Check_1_cg n h)]) cf0) (.pure (v := aB false) (by kernel_rfl) (eB hb6) (.mu 4 (.ca (cfF (cfF cf0)) (.pure (v := aB false) (by kernel_rfl) (eB hb9) (.mu 4 (.ca (cfF (cfF (cfA (fun h => by rw [sv hc11 hc8 (plan_within_cg n h)]) cf0))) (.pure (v := aB false) (by kernel_rfl) (eB hb12) (.mu 5 (.ca (cfA (fun h => by rw [sv hc14 hc2 (plan_Check_1_cg n h)]) (cfA (fun h => by rw [sv hc14 hc5 (plan_Check_1_cg n h)]) (cfF (cfF cf0)))) (.pure (v := aB false) (by kernel_rfl) (eB hb15) (.mu 5 (.ca (cfA (fun h => by rw [sv hc17 hc2 (plan_Check_1_cg n h)]) (cfA (fun h => by rw [sv hc17 hc5 (plan_Check_1_cg n h)]) (cfF (cfF (cfA (fun h => by rw [sv hc17 hc14 (plan_Check_1_cg n h)]) cf0))))) (.pure (v := aB false) (by kernel_rfl) (eB hb18) (.mu 5 (.ca (cfA (fun h => by rw [sv hc20 hc2 (plan_Check_1_cg n h)]) (cfA (fun h => by rw [sv hc20 hc5 (plan_Check_1_cg n h)]) (cfF (cfF (cfA (fun h => by rw [sv hc20 hc14 (plan_Check_1_cg n h)]) (cfA (fun h => by rw [sv hc20 hc17 (plan_Check_1_cg n h)]) cf0)))))) (.pure (v := aB false) (by kernel_rfl) (eB hb21) (.mu 5 (.ca (cfF (cfF (cfF (cfF (cfF (cfF (cfF cf0))))))) (.pure (v := aB true) (by kernel_rfl) (eB hb24) (.mu 15 (.done (.nh [1, 70] [.own (api_Survey.c s)] (.cT (by kernel_rfl) (.seq (.ru G (.ret ?_)))))))))))))))))))))))))))))))
         obtain rfl := oi hr
         exact FinQ.r1 [aI64 2]
        ·replace hr := cd_f hb24 hr
         obtain ⟨v25, hc26, hr⟩ := bd hr
         rcases Bool.eq_false_or_eq_true (!v25) with hb27 | hb27
         ·replace hr := cd_t hb27 hr
          refine .gn G (ca1 (ok0 (plan_Check_1_ok n s.Width 1048576 v1 hc2)) (ca1 (ok0 (plan_Check_1_ok n s.Height 1048576 v4 hc5)) (ca1 (ok0 (plan_within_ok n s.Low v7 hc8)) (ca1 (ok0 (plan_within_ok n s.High v10 hc11)) (ca1 (ok0 (plan_Check_1_ok n s.Across 1048576 v13 hc14)) (ca1 (ok0 (plan_Check_1_ok n s.Along 1048576 v16 hc17)) (ca1 (ok0 (plan_Check_1_ok n s.Focal 1048576 v19 hc20)) (ca1 (ok0 (plan_Check_2_ok n s.Overlap v22 hc23)) (ca3 (ok0 (plan_Check_2_ok n s.Sidelap v25 hc26))))))))))) (.mu 3 (.ca cf0 (.p0 (v := aB false) (eB hb3) (.mu 4 (.ca (cfA (fun h => by rw [sv hc5 hc2 (plan_Check_1_cg n h)]) cf0) (.pure (v := aB false) (by kernel_rfl) (eB hb6) (.mu 4 (.ca (cfF (cfF cf0)) (.pure (v := aB false) (by kernel_rfl) (eB hb9) (.mu 4 (.ca (cfF (cfF (cfA (fun h => by rw [sv hc11 hc8 (plan_within_cg n h)]) cf0))) (.pure (v := aB false) (by kernel_rfl) (eB hb12) (.mu 5 (.ca (cfA (fun h => by rw [sv hc14 hc2 (plan_Check_1_cg n h)]) (cfA (fun h => by rw [sv hc14 hc5 (plan_Check_1_cg n h)]) (cfF (cfF cf0)))) (.pure (v := aB false) (by kernel_rfl) (eB hb15) (.mu 5 (.ca (cfA (fun h => by rw [sv hc17 hc2 (plan_Check_1_cg n h)]) (cfA (fun h => by rw [sv hc17 hc5 (plan_Check_1_cg n h)]) (cfF (cfF (cfA (fun h => by rw [sv hc17 hc14 (plan_Check_1_cg n h)]) cf0))))) (.pure (v := aB false) (by kernel_rfl) (eB hb18) (.mu 5 (.ca (cfA (fun h => by rw [sv hc20 hc2 (plan_Check_1_cg n h)]) (cfA (fun h => by rw [sv hc20 hc5 (plan_Check_1_cg n h)]) (cfF (cfF (cfA (fun h => by rw [sv hc20 hc14 (plan_Check_1_cg n h)]) (cfA (fun h => by rw [sv hc20 hc17 (plan_Check_1_cg n h)]) cf0)))))) (.pure (v := aB false) (by kernel_rfl) (eB hb21) (.mu 5 (.ca (cfF (cfF (cfF (cfF (cfF (cfF (cfF cf0))))))) (.pure (v := aB false) (by kernel_rfl) (eB hb24) (.mu 5 (.ca (cfF (cfF (cfF (cfF (cfF (cfF (cfF (cfA (fun h => by rw [sv hc26 hc23 (plan_Check_2_cg n h)]) cf0)))))))) (.pure (v := aB true) (by kernel_rfl) (eB hb27) (.mu 8 (.done (.nh [1, 70] [.own (api_Survey.c s)] (.cT (by kernel_rfl) (.seq (.ru G (.ret ?_))))))))))))))))))))))))))))))))))
          obtain rfl := oi hr
          exact FinQ.r1 [aI64 2]
         ·replace hr := cd_f hb27 hr
          obtain ⟨v28, hc29, hr⟩ := bd hr
          refine .gn G (ca1 (ok0 (plan_Check_1_ok n s.Width 1048576 v1 hc2)) (ca1 (ok0 (plan_Check_1_ok n s.Height 1048576 v4 hc5)) (ca1 (ok0 (plan_within_ok n s.Low v7 hc8)) (ca1 (ok0 (plan_within_ok n s.High v10 hc11)) (ca1 (ok0 (plan_Check_1_ok n s.Across 1048576 v13 hc14)) (ca1 (ok0 (plan_Check_1_ok n s.Along 1048576 v16 hc17)) (ca1 (ok0 (plan_Check_1_ok n s.Focal 1048576 v19 hc20)) (ca1 (ok0 (plan_Check_2_ok n s.Overlap v22 hc23)) (ca1 (ok0 (plan_Check_2_ok n s.Sidelap v25 hc26)) (ca3 (ok0 (plan_Check_1_ok n s.Views 16 v28 hc29)))))))))))) (.mu 3 (.ca cf0 (.p0 (v := aB false) (eB hb3) (.mu 4 (.ca (cfA (fun h => by rw [sv hc5 hc2 (plan_Check_1_cg n h)]) cf0) (.pure (v := aB false) (by kernel_rfl) (eB hb6) (.mu 4 (.ca (cfF (cfF cf0)) (.pure (v := aB false) (by kernel_rfl) (eB hb9) (.mu 4 (.ca (cfF (cfF (cfA (fun h => by rw [sv hc11 hc8 (plan_within_cg n h)]) cf0))) (.pure (v := aB false) (by kernel_rfl) (eB hb12) (.mu 5 (.ca (cfA (fun h => by rw [sv hc14 hc2 (plan_Check_1_cg n h)]) (cfA (fun h => by rw [sv hc14 hc5 (plan_Check_1_cg n h)]) (cfF (cfF cf0)))) (.pure (v := aB false) (by kernel_rfl) (eB hb15) (.mu 5 (.ca (cfA (fun h => by rw [sv hc17 hc2 (plan_Check_1_cg n h)]) (cfA (fun h => by rw [sv hc17 hc5 (plan_Check_1_cg n h)]) (cfF (cfF (cfA (fun h => by rw [sv hc17 hc14 (plan_Check_1_cg n h)]) cf0))))) (.pure (v := aB false) (by kernel_rfl) (eB hb18) (.mu 5 (.ca (cfA (fun h => by rw [sv hc20 hc2 (plan_Check_1_cg n h)]) (cfA (fun h => by rw [sv hc20 hc5 (plan_Check_1_cg n h)]) (cfF (cfF (cfA (fun h => by rw [sv hc20 hc14 (plan_Check_1_cg n h)]) (cfA (fun h => by rw [sv hc20 hc17 (plan_Check_1_cg n h)]) cf0)))))) (.pure (v := aB false) (by kernel_rfl) (eB hb21) (.mu 5 (.ca (cfF (cfF (cfF (cfF (cfF (cfF (cfF cf0))))))) (.pure (v := aB false) (by kernel_rfl) (eB hb24) (.mu 5 (.ca (cfF (cfF (cfF (cfF (cfF (cfF (cfF (cfA (fun h => by rw [sv hc26 hc23 (plan_Check_2_cg n h)]) cf0)))))))) (.pure (v := aB false) (by kernel_rfl) (eB hb27) (.mu 5 (.ca (cfA (fun h => by rw [sv hc29 hc2 (plan_Check_1_cg n h)]) (cfA (fun h => by rw [sv hc29 hc5 (plan_Check_1_cg n h)]) (cfF (cfF (cfA (fun h => by rw [sv hc29 hc14 (plan_Check_1_cg n h)]) (cfA (fun h => by rw [sv hc29 hc17 (plan_Check_1_cg n h)]) (cfA (fun h => by rw [sv hc29 hc20 (plan_Check_1_cg n h)]) (cfF (cfF cf0))))))))) (.mu 2 (.done (.nh [1, 70] [.own (api_Survey.c s)] ?_))))))))))))))))))))))))))))))))
          refine .cd hr (fun hb30 hr => ?_) (fun hb30 hr => ?_)
          ·refine .seq (.ru G (.ret ?_))
           obtain rfl := oi hr
           exact FinQ.r1 [aI64 2]
          ·refine .skip (.seq (.seq (.r3 G 76 [(75, aB (decide (s.Low > s.High)))] ?_)))
           refine .cd hr (fun hb31 hr => ?_) (fun hb31 hr => ?_)
           ·refine .seq (.ru G (.ret ?_))
            obtain rfl := oi hr
            exact FinQ.r1 [aI64 5]
           ·refine .skip (.seq (.ru G (.ret ?_)))
            obtain rfl := oi hr
            exact FinQ.r1 [aI64 0]

theorem plan_newRow_ok (n : Nat) (n' : Int) (size : Int) (focal : Int) (percent : Int) (r : plan_row) (hr : plan_newRow n n' size focal percent = some r) : FnOk Tryz.prog 34 [aI64 n', aI64 size, aI64 focal, aI64 percent] (.agg (plan_row.c r)) := by
 unfold plan_newRow at hr
 refine FnOk.bd G Tryz.func34 [.cell 8 74] ?_
 unfold Tryz.f34
 simp only [Option.getD_some]
 refine .seq (.r5 G [0, 1, 2, 3] [(8, .hp 0 0)] [.own [aI64 0, aI64 0, aI64 0]] (.seq ?_))
 obtain ⟨hg1, hr⟩ := gd hr
 refine .r0 G (.mu 3 (.p0 (v := aI64 (wrapF .i64 (size.tdiv (wrapF .i64 (2 * focal))))) (op_quo (x := size) (y := wrapF .i64 (2 * focal)) (by kernel_rfl) (by kernel_rfl) hg1) (.mu 1 (.done (.nh [0, 1, 2, 3, 8, 9] [.own [aI64 0, aI64 0, aI64 0]] (.seq ?_))))))
 obtain ⟨hg2, hr⟩ := gd hr
 refine .r0 G (.mu 10 (.p0 (v := aI64 (wrapF .i64 ((wrapF .i64 ((wrapF .i64 (100 - percent)) * size)).tdiv (wrapF .i64 (100 * focal))))) (op_quo (x := wrapF .i64 ((wrapF .i64 (100 - percent)) * size)) (y := wrapF .i64 (100 * focal)) (by kernel_rfl) (by kernel_rfl) hg2) (.mu 2 (.done (.nh [8] [.own [aI64 (wrapF .i64 (size.tdiv (wrapF .i64 (2 * focal)))), aI64 (wrapF .i64 (n' - (wrapF .i64 (size.tdiv (wrapF .i64 (2 * focal)))))), aI64 (wrapF .i64 ((wrapF .i64 ((wrapF .i64 (100 - percent)) * size)).tdiv (wrapF .i64 (100 * focal))))]] (.ret ?_))))))
 obtain rfl := oi hr
 exact FinQ.r1 [.agg [aI64 (wrapF .i64 (size.tdiv (wrapF .i64 (2 * focal)))), aI64 (wrapF .i64 (n' - (wrapF .i64 (size.tdiv (wrapF .i64 (2 * focal)))))), aI64 (wrapF .i64 ((wrapF .i64 ((wrapF .i64 (100 - percent)) * size)).tdiv (wrapF .i64 (100 * focal))))]]

theorem fiducial_plan_row_count_inj {r' : plan_row} {r'_ : plan_row} (h : ([.agg [.at (.int .i64 r'.f_a), .at (.int .i64 r'.f_b), .at (.int .i64 r'.f_d)]] : List AV) = [.agg [.at (.int .i64 r'_.f_a), .at (.int .i64 r'_.f_b), .at (.int .i64 r'_.f_d)]]) : r' = r'_ := by
 obtain ⟨_, _, _⟩ := r'
 obtain ⟨_, _, _⟩ := r'_
 simp only [List.cons.injEq, AV.agg.injEq, AV.at.injEq, Value.int.injEq, Value.bool.injEq, AV.fn.injEq, AV.pp.injEq, true_and, and_true] at h
 simp_all
theorem fiducial_plan_row_count_cg (n : Nat) {r' : plan_row} {r'_ : plan_row} (h : ([.agg [.at (.int .i64 r'.f_a), .at (.int .i64 r'.f_b), .at (.int .i64 r'.f_d)]] : List AV) = [.agg [.at (.int .i64 r'_.f_a), .at (.int .i64 r'_.f_b), .at (.int .i64 r'_.f_d)]]) : fiducial_plan_row_count n r' = fiducial_plan_row_count n r'_ := by
 obtain rfl := fiducial_plan_row_count_inj h
 rfl
theorem fiducial_plan_row_count_ok (n : Nat) (r' : plan_row) (r : Int) (hr : fiducial_plan_row_count n r' = some r) : FnOk Tryz.prog 35 [.agg (plan_row.c r')] (aI64 r) := by
 unfold fiducial_plan_row_count at hr
 refine FnOk.bd G Tryz.func35 [.tmp 2] ?_
 unfold Tryz.f35
 simp only [Option.getD_some]
 refine .seq (.r2 G 24 [(1, .hp 0 0)] [.own (plan_row.c r')] (.seq (.seq (.r4 G [1] [(7, aB (decide (r'.f_b ≤ r'.f_a)))] ?_))))
 refine .cd hr (fun hb1 hr => ?_) (fun hb1 hr => ?_)
 ·refine .seq (.ru G (.ret ?_))
  obtain rfl := oi hr
  exact FinQ.r1 [aI64 1]
 ·refine .skip (.seq (.seq (.r4 G [1] [(10, aB ((r'.f_d : Int) == 0))] ?_)))
  refine .cd hr (fun hb2 hr => ?_) (fun hb2 hr => ?_)
  ·refine .seq (.ru G (.ret ?_))
   obtain rfl := oi hr
   exact FinQ.r1 [aI64 0]
  ·refine .skip (.seq ?_)
   obtain ⟨hg3, hr⟩ := gd hr
   refine .r0 G (.mu 11 (.p0 (v := aI64 (wrapF .i64 ((wrapF .i64 ((wrapF .i64 ((wrapF .i64 (r'.f_b - r'.f_a)) + r'.f_d)) - 1)).tdiv r'.f_d))) (op_quo (x := wrapF .i64 ((wrapF .i64 ((wrapF .i64 (r'.f_b - r'.f_a)) + r'.f_d)) - 1)) (y := r'.f_d) (by kernel_rfl) (by kernel_rfl) hg3) (.mu 2 (.done (.ret ?_)))))
   obtain rfl := oi hr
   exact FinQ.r1 [aI64 (wrapF .i64 ((wrapF .i64 ((wrapF .i64 ((wrapF .i64 ((wrapF .i64 (r'.f_b - r'.f_a)) + r'.f_d)) - 1)).tdiv r'.f_d)) + 1))]

theorem fiducial_plan_row_list_ok (n : Nat) (r' : plan_row) (n' : Int) (r : List Int) (hr : fiducial_plan_row_list n r' n' = some r) : FnOk Tryz.prog 36 [.agg (plan_row.c r'), aI64 n'] (sI64 r) := by
 unfold fiducial_plan_row_list at hr
 refine FnOk.bd G Tryz.func36 [.tmp 4] ?_
 unfold Tryz.f36
 simp only [Option.getD_some]
 refine .seq (.r5 G [1] [(2, .hp 0 0)] [.own (plan_row.c r')] (.seq (.seq (.r4 G [1, 2] [(11, aB (decide (r'.f_b ≤ r'.f_a)))] ?_))))
 refine .cd hr (fun hb1 hr => ?_) (fun hb1 hr => ?_)
 ·refine .seq (.r2 G 40 [(4, .hs 1 0 1 1)] [.own (plan_row.c r'), .own [aI64 (mn (mx (wrapF .i64 (n'.tdiv 2)) r'.f_b) r'.f_a)]] (.ret ?_))
  obtain rfl := oi hr
  exact FinQ.ret (vs := [.hs 1 0 1 1]) (by kernel_rfl) (Sn.hs rfl (.inl rfl) (SnC.cons (Sn.pure rfl) SnC.nil) (fun h => nomatch h))
 ·refine .skip (.seq (.r4 G [2] [(5, nS)] (.seq (.seq (.r4 G [2, 5] [(6, aI64 r'.f_a)] (.block ?_))))))
  replace hr := bd hr; obtain ⟨out_7, hL13, hr⟩ := hr
  refine .loopO (σ := fun z0 => match z0 with | (out_2, x_3) => ⟨mkS 40 0 [(2, .hp 0 0), (5, .hs 1 0 out_2.length 1), (6, aI64 x_3)], [.own (plan_row.c r'), .own (out_2.flatMap (iC .i64))]⟩) (Q := fun x st' => x = .exit 0 ∧ Wk 0 st' ⟨mkS 40 0 [(2, .hp 0 0), (5, .hs 1 0 out_7.length 1)], [.own (plan_row.c r'), .own (out_7.flatMap (iC .i64))]⟩) hL13 ((Wk.nil 5 1 (by kernel_rfl)).trans ((Wk.gc [2, 5, 6] [(0, true), (1, false)] rfl (pKt (pKc trivial))).to)) ?_ ?_
  ·clear hr
   rintro m ⟨out_2, x_3⟩ hr
   show CQ _ _ _ _ _ ⟨_, _⟩
   refine .seq (.seq (.r4 G [2, 5, 6] [(26, aB (decide (x_3 < r'.f_b)))] ?_))
   refine .cd hr (fun hb9 hr => ?_) (fun hb9 hr => ?_)
   ·refine .skip (.seq (.block ?_))
    obtain ⟨hg10, hg11, hr⟩ := gd2 hr
    refine .r0 G (.mu 3 (.e0 (v := .hs 3 0 (out_2 ++ [x_3]).length 1) (ws := [(1, .dead), (3, .own ((out_2 ++ [x_3]).flatMap (iC .i64)))]) (tr (app_own (new := [aI64 x_3]) (l := out_2) (xs := [x_3]) (iC_len .i64) rfl rfl (by kernel_rfl) hg10 hg11)) (.mu 1 (.done (.pop (.ru G ?_))))))
    exact loopF_back (out_2 ++ [x_3], wrapF .i64 (x_3 + r'.f_d)) hr ((Wk.gc [2, 5, 6] [(0, true), (3, false)] rfl (pKt (pKo (iC .i64) (iC_pure _) (out_2 ++ [x_3]) trivial))).to)
   ·refine .leave rfl ?_
    obtain rfl := oi hr
    exact ⟨rfl, ((Wk.gc [2, 5] [(0, true), (1, false)] rfl (pKt (pKo (iC .i64) (iC_pure _) out_2 trivial))).to)⟩
  ·rintro x st' hq14
   clear hL13
   obtain ⟨rfl, hq14⟩ := hq14
   refine CQ_exit _ rfl (.wk hq14 (.seq ?_))
   obtain ⟨hg15, hg16, hr⟩ := gd2 hr
   refine .r0 G (.mu 4 (.e0 (v := .hs 3 0 (out_7 ++ [r'.f_b]).length 1) (ws := [(1, .dead), (3, .own ((out_7 ++ [r'.f_b]).flatMap (iC .i64)))]) (tr (app_own (new := [aI64 r'.f_b]) (l := out_7) (xs := [r'.f_b]) (iC_len .i64) rfl rfl (by kernel_rfl) hg15 hg16)) (.mu 1 (.done (.nh [4] [.own (plan_row.c r'), .dead, .own [aI64 r'.f_b], .own ((out_7 ++ [r'.f_b]).flatMap (iC .i64))] (.ret ?_))))))
   obtain rfl := oi hr
   exact FinQ.ret (vs := [.hs 3 0 (out_7 ++ [r'.f_b]).length 1]) (by kernel_rfl) (Sn.hs rfl (.inl rfl) (SnC.pure (ids_flat (iC_pure _) _)) (fun h => flat_nil0 h))

theorem plan_Make_ok (n : Nat) (s : api_Survey) (height : Int) (r : api_Flight × Int) (hr : plan_Make n s height = some r) : FnOk Tryz.prog 13 [.agg (api_Survey.c s), aI64 height] (.tup [.agg (api_Flight.c r.1), aI64 r.2]) := by
 unfold plan_Make at hr
 refine FnOk.bd G Tryz.func13 [.cell 4 26, .tmp 5] ?_
 unfold Tryz.f13
 simp only [Option.getD_some]
 refine .seq (.r5 G [1] [(2, .hp 0 0), (4, .hp 1 0)] [.own (api_Survey.c s), .own [aI64 0, nS]] (.seq (.seq ?_)))
 obtain ⟨v1, hc2, hr⟩ := bd hr
 refine .g1 G (ok0 (plan_Check_ok n s v1 hc2)) (.mu 1 (.ca cf0 (.mu 1 (.done (.nh [1, 2, 4, 6] [.own (api_Survey.c s), .own [aI64 0, nS]] (.seq (.r4 G [1, 2, 4, 6] [(20, aB ((v1 : Int) != 0))] ?_)))))))
 refine .cd hr (fun hb4 hr => ?_) (fun hb4 hr => ?_)
 ·refine .seq (.r4 G [4] [(5, aI64 v1)] (.ret ?_))
  obtain rfl := oi hr
  exact FinQ.ret (vs := [.agg [aI64 0, nS], aI64 v1]) (by kernel_rfl) (Sn.tup (SnL.cons (Sn.agg (SnL.cons (Sn.pure rfl) (SnL.cons Sn.nilsl SnL.nil))) (SnL.cons (Sn.pure rfl) SnL.nil)))
 ·refine .skip (.seq (.seq ?_))
  obtain ⟨v5, hc6, hr⟩ := bd hr
  refine .g1 G (ok0 (plan_within_ok n height v5 hc6)) (.mu 1 (.ca cf0 (.mu 1 (.done (.nh [1, 2, 4, 25] [.own (api_Survey.c s), .own [aI64 0, nS]] ?_)))))
  refine .cd hr (fun hb8 hr => ?_) (fun hb8 hr => ?_)
  ·refine .seq (.r4 G [4] [(5, aI64 2)] (.ret ?_))
   obtain rfl := oi hr
   exact FinQ.ret (vs := [.agg [aI64 0, nS], aI64 2]) (by kernel_rfl) (Sn.tup (SnL.cons (Sn.agg (SnL.cons (Sn.pure rfl) (SnL.cons Sn.nilsl SnL.nil))) (SnL.cons (Sn.pure rfl) SnL.nil)))
  ·refine .skip (.seq (.seq (.r4 G [1, 2, 4] [(30, aB (decide (height ≤ s.High)))] ?_)))
   refine .cd hr (fun hb10 hr => ?_) (fun hb10 hr => ?_)
   ·refine .seq (.r4 G [4] [(5, aI64 20)] (.ret ?_))
    obtain rfl := oi hr
    exact FinQ.ret (vs := [.agg [aI64 0, nS], aI64 20]) (by kernel_rfl) (Sn.tup (SnL.cons (Sn.agg (SnL.cons (Sn.pure rfl) (SnL.cons Sn.nilsl SnL.nil))) (SnL.cons (Sn.pure rfl) SnL.nil)))
   ·refine .skip (.seq ?_)
    obtain ⟨v11, hc12, hr⟩ := bd hr
    refine .g1 G (ok0 (plan_newRow_ok n s.Width (wrapF .i64 (s.Along * (wrapF .i64 (height - s.High)))) s.Focal s.Overlap v11 hc12)) (.mu 13 (.ca cf0 (.mu 2 (.done (.nh [1, 2, 4, 7] [.own (api_Survey.c s), .own [aI64 0, nS], .own (plan_row.c v11)] (.seq ?_))))))
    obtain ⟨v13, hc14, hr⟩ := bd hr
    refine .g1 G (ok0 (plan_newRow_ok n s.Height (wrapF .i64 (s.Across * (wrapF .i64 (height - s.High)))) s.Focal s.Sidelap v13 hc14)) (.mu 13 (.ca cf0 (.mu 2 (.done (.nh [1, 2, 4, 7, 8] [.own (api_Survey.c s), .own [aI64 0, nS], .own (plan_row.c v11), .own (plan_row.c v13)] (.seq ?_))))))
    obtain ⟨v15, hc16, v17, hc18, hr⟩ := bd2 hr
    refine .tn G (ca1 (ok0 (fiducial_plan_row_count_ok n v11 v15 hc16)) (ca3 (ok0 (fiducial_plan_row_count_ok n v13 v17 hc18)))) (.mu 1 (.ca cf0 (.mu 1 (.ca (cfA (fun h => by rw [sv hc18 hc16 (fiducial_plan_row_count_cg n h)]) cf0) (.mu 2 ?_)))))
    refine .done ⟨by kernel_rfl, ?_⟩
    refine .nh [1, 2, 4, 7, 8, 9, 10] [.own (api_Survey.c s), .own [aI64 0, nS], .own (plan_row.c v11), .own (plan_row.c v13)] (.seq (.seq ?_))
    rcases Bool.eq_false_or_eq_true ((v15 : Int) == 0) with hb19 | hb19
    ·replace hr := cd_t hb19 hr
     refine .r0 G (.mu 1 (.p0 (v := aB true) (eB hb19) (.mu 4 (.done (.nh [1, 2, 4, 7, 8, 9, 10, 69] [.own (api_Survey.c s), .own [aI64 0, nS], .own (plan_row.c v11), .own (plan_row.c v13)] (.cT (by kernel_rfl) (.seq (.r4 G [4] [(5, aI64 13)] (.ret ?_)))))))))
     obtain rfl := oi hr
     exact FinQ.ret (vs := [.agg [aI64 0, nS], aI64 13]) (by kernel_rfl) (Sn.tup (SnL.cons (Sn.agg (SnL.cons (Sn.pure rfl) (SnL.cons Sn.nilsl SnL.nil))) (SnL.cons (Sn.pure rfl) SnL.nil)))
    ·replace hr := cd_f hb19 hr
     refine .r0 G (.mu 1 (.p0 (v := aB false) (eB hb19) (.mu 4 (.done (.nh [1, 2, 4, 7, 8, 9, 10, 69] [.own (api_Survey.c s), .own [aI64 0, nS], .own (plan_row.c v11), .own (plan_row.c v13)] ?_)))))
     refine .cd hr (fun hb21 hr => ?_) (fun hb21 hr => ?_)
     ·refine .seq (.r4 G [4] [(5, aI64 13)] (.ret ?_))
      obtain rfl := oi hr
      exact FinQ.ret (vs := [.agg [aI64 0, nS], aI64 13]) (by kernel_rfl) (Sn.tup (SnL.cons (Sn.agg (SnL.cons (Sn.pure rfl) (SnL.cons Sn.nilsl SnL.nil))) (SnL.cons (Sn.pure rfl) SnL.nil)))
     ·refine .skip (.seq (.seq ?_))
      rcases Bool.eq_false_or_eq_true (decide (v15 > 256)) with hb22 | hb22
      ·replace hr := cd_t hb22 hr
       refine .r0 G (.mu 1 (.p0 (v := aB true) (eB hb22) (.mu 10 (.done (.nh [1, 2, 4, 7, 8, 82] [.own (api_Survey.c s), .own [aI64 0, nS], .own (plan_row.c v11), .own (plan_row.c v13)] (.cT (by kernel_rfl) (.seq (.r4 G [4] [(5, aI64 3)] (.ret ?_)))))))))
       obtain rfl := oi hr
       exact FinQ.ret (vs := [.agg [aI64 0, nS], aI64 3]) (by kernel_rfl) (Sn.tup (SnL.cons (Sn.agg (SnL.cons (Sn.pure rfl) (SnL.cons Sn.nilsl SnL.nil))) (SnL.cons (Sn.pure rfl) SnL.nil)))
      ·replace hr := cd_f hb22 hr
       rcases Bool.eq_false_or_eq_true (decide (v17 > 256)) with hb23 | hb23
       ·replace hr := cd_t hb23 hr
        refine .r0 G (.mu 1 (.p0 (v := aB false) (eB hb22) (.mu 2 (.pure (v := aB true) (by kernel_rfl) (eB hb23) (.mu 7 (.done (.nh [1, 2, 4, 7, 8, 82] [.own (api_Survey.c s), .own [aI64 0, nS], .own (plan_row.c v11), .own (plan_row.c v13)] (.cT (by kernel_rfl) (.seq (.r4 G [4] [(5, aI64 3)] (.ret ?_)))))))))))
        obtain rfl := oi hr
        exact FinQ.ret (vs := [.agg [aI64 0, nS], aI64 3]) (by kernel_rfl) (Sn.tup (SnL.cons (Sn.agg (SnL.cons (Sn.pure rfl) (SnL.cons Sn.nilsl SnL.nil))) (SnL.cons (Sn.pure rfl) SnL.nil)))
       ·replace hr := cd_f hb23 hr
        refine .r0 G (.mu 1 (.p0 (v := aB false) (eB hb22) (.mu 2 (.pure (v := aB false) (by kernel_rfl) (eB hb23) (.mu 7 (.done (.nh [1, 2, 4, 7, 8, 82] [.own (api_Survey.c s), .own [aI64 0, nS], .own (plan_row.c v11), .own (plan_row.c v13)] ?_)))))))
        refine .cd hr (fun hb25 hr => ?_) (fun hb25 hr => ?_)
        ·refine .seq (.r4 G [4] [(5, aI64 3)] (.ret ?_))
         obtain rfl := oi hr
         exact FinQ.ret (vs := [.agg [aI64 0, nS], aI64 3]) (by kernel_rfl) (Sn.tup (SnL.cons (Sn.agg (SnL.cons (Sn.pure rfl) (SnL.cons Sn.nilsl SnL.nil))) (SnL.cons (Sn.pure rfl) SnL.nil)))
        ·refine .skip (.seq (.r5 G [2, 4, 7, 8] [(11, .hp 4 0)] [.own (api_Survey.c s), .own [aI64 0, nS], .own (plan_row.c v11), .own (plan_row.c v13), .own [aI64 height, nS]] (.seq (.seq ?_))))
         obtain ⟨v26, hc27, hr⟩ := bd hr
         refine .g1 G (ok0 (fiducial_plan_row_list_ok n v13 s.Height v26 hc27)) (.mu 3 (.ca cf0 (.mu 2 (.done (.nh [2, 4, 7, 11, 89, 90, 91] [.own (api_Survey.c s), .own [aI64 0, nS], .own (plan_row.c v11), .own (plan_row.c v13), .own [aI64 height, nS]] (.block ?_))))))
         replace hr := bd hr; obtain ⟨f_54, hL81, hr⟩ := hr
         refine .loopO (σ := fun z0 => match z0 with | (f_28, x_29) => ⟨mkS 119 0 [(2, .hp 0 0), (4, .hp 1 0), (7, .hp 2 0), (11, .hp 3 0), (89, sI64 v26), (90, aI64 (v26.length : Int)), (91, aI64 x_29)], [.own (api_Survey.c s), .own [aI64 0, nS], .own (plan_row.c v11), .own [aI64 height, .hs 4 0 f_28.length 1], .own (f_28.flatMap (slC api_Pix.c))]⟩) (Q := fun x st' => x = .exit 0 ∧ Wk 0 st' ⟨mkS 119 0 [(4, .hp 0 0), (11, .hp 1 0)], [.own [aI64 0, nS], .own [aI64 height, .hs 2 0 f_54.length 1], .own (f_54.flatMap (slC api_Pix.c))]⟩) hL81 ((Wk.nilcell 4 1 1 (cs := [aI64 height, nS]) (by kernel_rfl) (by kernel_rfl)).trans ((Wk.gc [2, 4, 7, 11, 89, 90, 91] [(0, true), (1, true), (2, true), (4, true), (5, false)] rfl (pKt (pKt (pKt (pKt (pKc trivial)))))).to)) ?_ ?_
         ·clear hr
          rintro m ⟨f_28, x_29⟩ hr
          show CQ _ _ _ _ _ ⟨_, _⟩
          refine .seq (.r4 G [2, 4, 7, 11, 89, 90, 91] [(92, aB (decide (x_29 < (v26.length : Int))))] (.seq ?_))
          refine .cd hr (fun hb57 hr => ?_) (fun hb57 hr => ?_)
          ·refine .skip (.seq (.block (.seq ?_)))
           obtain ⟨hg58, hr⟩ := gd hr
           refine .r0 G (.p0 (v := .pp (v26.flatMap (iC .i64)) (x_29.toNat * 1)) (tr (ofP_guard hg58)) (.p0 (v := aI64 (gt v26 x_29)) (tr (ofP_some (flat_get (iC_len .i64) (inR_lt hg58) (by decide : 0 < 1) (by omega : x_29.toNat * 1 = x_29.toNat * 1 + 0) (by kernel_rfl)))) (.mu 1 (.done (.nh [2, 4, 7, 11, 13, 89, 90, 91] [.own (api_Survey.c s), .own [aI64 0, nS], .own (plan_row.c v11), .own [aI64 height, .hs 4 0 f_28.length 1], .own (f_28.flatMap (slC api_Pix.c))] (.seq (.r4 G [2, 4, 7, 11, 13, 89, 90, 91] [(14, nS)] (.seq (.seq ?_)))))))))
           obtain ⟨v59, hc60, hr⟩ := bd hr
           refine .g1 G (ok0 (fiducial_plan_row_list_ok n v11 s.Width v59 hc60)) (.mu 3 (.ca cf0 (.mu 2 (.done (.nh [2, 4, 7, 11, 13, 14, 89, 90, 91, 98, 99, 100] [.own (api_Survey.c s), .own [aI64 0, nS], .own (plan_row.c v11), .own [aI64 height, .hs 4 0 f_28.length 1], .own (f_28.flatMap (slC api_Pix.c))] (.block ?_))))))
           replace hr := bd hr; obtain ⟨strip_68, hL76, hr⟩ := hr
           refine .loopO (σ := fun z0 => match z0 with | (strip_61, x_62) => ⟨mkS 119 0 [(2, .hp 0 0), (4, .hp 1 0), (7, .hp 2 0), (11, .hp 3 0), (13, aI64 (gt v26 x_29)), (14, .hs 5 0 strip_61.length 2), (89, sI64 v26), (90, aI64 (v26.length : Int)), (91, aI64 x_29), (98, sI64 v59), (99, aI64 (v59.length : Int)), (100, aI64 x_62)], [.own (api_Survey.c s), .own [aI64 0, nS], .own (plan_row.c v11), .own [aI64 height, .hs 4 0 f_28.length 1], .own (f_28.flatMap (slC api_Pix.c)), .own (strip_61.flatMap api_Pix.c)]⟩) (Q := fun x st' => x = .exit 2 ∧ Wk 0 st' ⟨mkS 119 0 [(2, .hp 0 0), (4, .hp 1 0), (7, .hp 2 0), (11, .hp 3 0), (14, .hs 5 0 strip_68.length 2), (89, sI64 v26), (90, aI64 (v26.length : Int)), (91, aI64 x_29)], [.own (api_Survey.c s), .own [aI64 0, nS], .own (plan_row.c v11), .own [aI64 height, .hs 4 0 f_28.length 1], .own (f_28.flatMap (slC api_Pix.c)), .own (strip_68.flatMap api_Pix.c)]⟩) hL76 ((Wk.nil 14 2 (by kernel_rfl)).trans ((Wk.gc [2, 4, 7, 11, 13, 14, 89, 90, 91, 98, 99, 100] [(0, true), (1, true), (2, true), (3, true), (4, false), (5, false)] rfl (pKt (pKt (pKt (pKt (pKo (slC api_Pix.c) (slC_pure _) f_28 (pKc trivial))))))).to)) ?_ ?_
           ·clear hr
            rintro m ⟨strip_61, x_62⟩ hr
            show CQ _ _ _ _ _ ⟨_, _⟩
            refine .seq (.r4 G [2, 4, 7, 11, 13, 14, 89, 90, 91, 98, 99, 100] [(101, aB (decide (x_62 < (v59.length : Int))))] (.seq ?_))
            refine .cd hr (fun hb71 hr => ?_) (fun hb71 hr => ?_)
            ·refine .skip (.seq (.block (.seq ?_)))
             obtain ⟨hg72, hr⟩ := gd hr
             refine .r0 G (.p0 (v := .pp (v59.flatMap (iC .i64)) (x_62.toNat * 1)) (tr (ofP_guard hg72)) (.p0 (v := aI64 (gt v59 x_62)) (tr (ofP_some (flat_get (iC_len .i64) (inR_lt hg72) (by decide : 0 < 1) (by omega : x_62.toNat * 1 = x_62.toNat * 1 + 0) (by kernel_rfl)))) (.mu 1 (.done (.nh [2, 4, 7, 11, 13, 14, 16, 89, 90, 91, 98, 99, 100] [.own (api_Survey.c s), .own [aI64 0, nS], .own (plan_row.c v11), .own [aI64 height, .hs 4 0 f_28.length 1], .own (f_28.flatMap (slC api_Pix.c)), .own (strip_61.flatMap api_Pix.c)] ?_)))))
             obtain ⟨hg73, hg74, hr⟩ := gd2 hr
             refine .r0 G (.mu 5 (.e0 (v := .hs 7 0 (strip_61 ++ [api_Pix.mk (gt v59 x_62) (gt v26 x_29)]).length 2) (ws := [(5, .dead), (7, .own ((strip_61 ++ [api_Pix.mk (gt v59 x_62) (gt v26 x_29)]).flatMap api_Pix.c))]) (tr (app_own (new := [aI64 (gt v59 x_62), aI64 (gt v26 x_29)]) (l := strip_61) (xs := [api_Pix.mk (gt v59 x_62) (gt v26 x_29)]) api_Pix.len rfl rfl (by kernel_rfl) hg73 hg74)) (.mu 1 (.done (.pop (.ru G ?_))))))
             exact loopF_back (strip_61 ++ [api_Pix.mk (gt v59 x_62) (gt v26 x_29)], wrapF .i64 (x_62 + 1)) hr ((Wk.gc [2, 4, 7, 11, 13, 14, 89, 90, 91, 98, 99, 100] [(0, true), (1, true), (2, true), (3, true), (4, false), (7, false)] rfl (pKt (pKt (pKt (pKt (pKo (slC api_Pix.c) (slC_pure _) f_28 (pKo api_Pix.c api_Pix.pure (strip_61 ++ [api_Pix.mk (gt v59 x_62) (gt v26 x_29)]) trivial))))))).to)
            ·refine .leave rfl ?_
             obtain rfl := oi hr
             exact ⟨rfl, ((Wk.gc [2, 4, 7, 11, 14, 89, 90, 91] [(0, true), (1, true), (2, true), (3, true), (4, false), (5, false)] rfl (pKt (pKt (pKt (pKt (pKo (slC api_Pix.c) (slC_pure _) f_28 (pKo api_Pix.c api_Pix.pure strip_61 trivial))))))).to)⟩
           ·rintro x st' hq77
            clear hL76
            obtain ⟨rfl, hq77⟩ := hq77
            refine CQ_exit _ rfl (.wk hq77 (.wk (((Wk.fix 5 (cs := (strip_68.flatMap api_Pix.c)) (by kernel_rfl)).trans (Wk.purify 14 (b := 5) (len := strip_68.length) (es := 2) (cs := (strip_68.flatMap api_Pix.c)) (by kernel_rfl) (by kernel_rfl) (ids_flat api_Pix.pure _) (fun h => flat_nil0 h))).to (c := ⟨mkS 119 0 [(2, .hp 0 0), (4, .hp 1 0), (7, .hp 2 0), (11, .hp 3 0), (14, slT api_Pix.c strip_68), (89, sI64 v26), (90, aI64 (v26.length : Int)), (91, aI64 x_29)], [.own (api_Survey.c s), .own [aI64 0, nS], .own (plan_row.c v11), .own [aI64 height, .hs 4 0 f_28.length 1], .own (f_28.flatMap (slC api_Pix.c)), .fix (strip_68.flatMap api_Pix.c)]⟩) (by kernel_rfl)) ?_))
            obtain ⟨hg78, hg79, hr⟩ := gd2 hr
            refine .r0 G (.mu 4 (.e0 (v := .hs 7 0 (f_28 ++ [strip_68]).length 1) (ws := [(4, .dead), (7, .own ((f_28 ++ [strip_68]).flatMap (slC api_Pix.c)))]) (tr (app_own (new := [slT api_Pix.c strip_68]) (l := f_28) (xs := [strip_68]) (slC_len api_Pix.c) rfl rfl (by kernel_rfl) hg78 hg79)) (.mu 2 (.done (.pop (.ru G ?_))))))
            exact loopF_back (f_28 ++ [strip_68], wrapF .i64 (x_29 + 1)) hr ((Wk.gc [2, 4, 7, 11, 89, 90, 91] [(0, true), (1, true), (2, true), (3, true), (7, false)] rfl (pKt (pKt (pKt (pKt (pKo (slC api_Pix.c) (slC_pure _) (f_28 ++ [strip_68]) trivial)))))).to)
          ·refine .leave rfl ?_
           obtain rfl := oi hr
           exact ⟨rfl, ((Wk.gc [4, 11] [(1, true), (3, true), (4, false)] rfl (pKt (pKt (pKo (slC api_Pix.c) (slC_pure _) f_28 trivial)))).to)⟩
         ·rintro x st' hq82
          clear hL81
          obtain ⟨rfl, hq82⟩ := hq82
          refine CQ_exit _ rfl (.wk hq82 (.seq (.r5 G [4] [(5, aI64 0)] [.own [aI64 height, .hs 2 0 f_54.length 1], .own [aI64 height, .hs 2 0 f_54.length 1], .own (f_54.flatMap (slC api_Pix.c))] (.ret ?_))))
          obtain rfl := oi hr
          exact FinQ.ret (vs := [.agg [aI64 height, .hs 2 0 f_54.length 1], aI64 0]) (by kernel_rfl) (Sn.tup (SnL.cons (Sn.agg (SnL.cons (Sn.pure rfl) (SnL.cons (Sn.hs rfl (.inl rfl) (SnC.pure (ids_flat (slC_pure _) _)) (fun h => flat_nil0 h)) SnL.nil))) (SnL.cons (Sn.pure rfl) SnL.nil)))

theorem slices_Equal_fiducial_api_Pix_fiducial_api_Pix_ok (n : Nat) (s1 : List api_Pix) (s2 : List api_Pix) (r : Bool) (hr : slices_Equal_fiducial_api_Pix_fiducial_api_Pix n s1 s2 = some r) : FnOk Tryz.prog 15 [slT api_Pix.c s1, slT api_Pix.c s2] (aB r) := by
 unfold slices_Equal_fiducial_api_Pix_fiducial_api_Pix at hr
 refine FnOk.bd G Tryz.func15 [.tmp 4] ?_
 unfold Tryz.f15
 simp only [Option.getD_some]
 refine .seq (.r4 G [0, 1] [] (.seq (.seq (.r4 G [0, 1] [(10, aB (((s1.length : Int) : Int) != (s2.length : Int)))] ?_))))
 refine .cd hr (fun hb1 hr => ?_) (fun hb1 hr => ?_)
 ·refine .seq (.ru G (.ret ?_))
  obtain rfl := oi hr
  exact FinQ.r1 [aB false]
 ·refine .skip (.seq (.seq (.r4 G [0, 1] [(12, aI64 (s1.length : Int)), (13, aI64 0)] (.block ?_))))
  replace hr := bd hr; obtain ⟨o12, hL13, hr⟩ := hr
  refine .loopO (σ := fun z0 => match z0 with | x_2 => ⟨mkS 26 0 [(0, slT api_Pix.c s1), (1, slT api_Pix.c s2), (12, aI64 (s1.length : Int)), (13, aI64 x_2)], []⟩) (Q := fun x st' => match (generalizing := false) o12 with | .inl _ => x = .exit 0 ∧ Wk 0 st' ⟨mkS 26 0 [], []⟩ | .inr (r0) => x = .ret ∧ FinQ Tryz.prog [.tmp 4] (aB r0) .ret st') hL13 ((Wk.gc [0, 1, 12, 13] [] rfl pK0).to) ?_ ?_
  ·clear hr
   rintro m x_2 hr
   show CQ _ _ _ _ _ ⟨_, _⟩
   refine .seq (.r4 G [0, 1, 12, 13] [(14, aB (decide (x_2 < (s1.length : Int))))] (.seq ?_))
   refine .cd hr (fun hb8 hr => ?_) (fun hb8 hr => ?_)
   ·refine .skip (.seq (.block (.seq (.r4 G [0, 1, 12, 13] [(5, aI64 x_2)] (.seq ?_)))))
    obtain ⟨hg9, hg10, hr⟩ := gd2 hr
    refine .regionT G callOf_nil (.mu 2 (.pure (v := .pp (s1.flatMap api_Pix.c) (x_2.toNat * 2)) (by kernel_rfl) (tr (ofP_guard hg9)) (by kernel_rfl) (.pure (v := .agg (api_Pix.c (gt s1 x_2))) (by kernel_rfl) (Eq.trans (b := ORes.ofP (guardV (decide (2 ≤ ((s1.flatMap api_Pix.c).drop (x_2.toNat * 2)).length)) (.agg (((s1.flatMap api_Pix.c).drop (x_2.toNat * 2)).take 2)))) (by kernel_rfl) (flat_load api_Pix.len (inR_lt hg9) (by decide) (by omega : x_2.toNat * 2 = x_2.toNat * 2 + 0) (by kernel_rfl))) (by kernel_rfl) (.mu 2 (.pure (v := .pp (s2.flatMap api_Pix.c) (x_2.toNat * 2)) (by kernel_rfl) (tr (ofP_guard hg10)) (by kernel_rfl) (.pure (v := .agg (api_Pix.c (gt s2 x_2))) (by kernel_rfl) (Eq.trans (b := ORes.ofP (guardV (decide (2 ≤ ((s2.flatMap api_Pix.c).drop (x_2.toNat * 2)).length)) (.agg (((s2.flatMap api_Pix.c).drop (x_2.toNat * 2)).take 2)))) (by kernel_rfl) (flat_load api_Pix.len (inR_lt hg10) (by decide) (by omega : x_2.toNat * 2 = x_2.toNat * 2 + 0) (by kernel_rfl))) (by kernel_rfl) (.mu 1 ?_)))))))
    refine .done ⟨by kernel_rfl, ?_⟩
    refine .nh [0, 1, 12, 13, 24] [] ?_
    refine .cd hr (fun hb11 hr => ?_) (fun hb11 hr => ?_)
    ·refine .seq (.ru G (.ret ?_))
     obtain rfl := oi hr
     exact ⟨rfl, FinQ.ret (vs := [aB false]) (by kernel_rfl) (Sn.pure rfl)⟩
    ·refine .skip (.pop (.ru G ?_))
     exact loopF_back (wrapF .i64 (x_2 + 1)) hr ((Wk.gc [0, 1, 12, 13] [] rfl pK0).to)
   ·refine .leave rfl ?_
    obtain rfl := oi hr
    exact ⟨rfl, ((Wk.gc [] [] rfl pK0).to)⟩
  ·rcases o12 with ⟨⟩ | r0
   ·rintro x st' hq14
    clear hL13
    obtain ⟨rfl, hq14⟩ := hq14
    refine CQ_exit _ rfl (.wk hq14 (.seq (.ru G (.ret ?_))))
    obtain rfl := oi hr
    exact FinQ.r1 [aB true]
   ·rintro x st' hq14
    clear hL13
    obtain ⟨rfl, hq14⟩ := hq14
    obtain rfl := oi hr
    exact CQ_ret _ hq14

theorem plan_checkFlight_ok (n : Nat) (f : api_Flight) (r : Int) (hr : plan_checkFlight n f = some r) : FnOk Tryz.prog 44 [.agg (api_Flight.c f)] (aI64 r) := by
 unfold plan_checkFlight at hr
 refine FnOk.bd G Tryz.func44 [.tmp 2] ?_
 unfold Tryz.f44
 simp only [Option.getD_some]
 refine .seq (.r2 G 41 [(1, .hp 0 0)] [.own (api_Flight.c f)] (.seq (.seq ?_)))
 obtain ⟨v1, hc2, hr⟩ := bd hr
 refine .g1 G (ok0 (plan_within_ok n f.Height v1 hc2)) (.mu 2 (.ca cf0 (.mu 1 (.done (.nh [1, 11] [.own (api_Flight.c f)] ?_)))))
 refine .cd hr (fun hb4 hr => ?_) (fun hb4 hr => ?_)
 ·refine .seq (.ru G (.ret ?_))
  obtain rfl := oi hr
  exact FinQ.r1 [aI64 2]
 ·refine .skip (.seq (.r4 G [1] [(3, aI64 0)] (.seq (.seq (.r4 G [3] [(13, slT (slC api_Pix.c) f.Strips), (14, aI64 (f.Strips.length : Int)), (15, aI64 0)] (.block ?_))))))
  replace hr := bd hr; obtain ⟨o65, hL66, hr⟩ := hr
  refine .loopO (σ := fun z0 => match z0 with | (n_5, x_6) => ⟨mkS 41 0 [(3, aI64 n_5), (13, slT (slC api_Pix.c) f.Strips), (14, aI64 (f.Strips.length : Int)), (15, aI64 x_6)], []⟩) (Q := fun x st' => match (generalizing := false) o65 with | .inl n_35 => x = .exit 0 ∧ Wk 0 st' ⟨mkS 41 0 [(3, aI64 n_35)], []⟩ | .inr (r0) => x = .ret ∧ FinQ Tryz.prog [.tmp 2] (aI64 r0) .ret st') hL66 ((Wk.gc [3, 13, 14, 15] [] rfl pK0).to) ?_ ?_
  ·clear hr
   rintro m ⟨n_5, x_6⟩ hr
   show CQ _ _ _ _ _ ⟨_, _⟩
   refine .seq (.r4 G [3, 13, 14, 15] [(16, aB (decide (x_6 < (f.Strips.length : Int))))] (.seq ?_))
   refine .cd hr (fun hb38 hr => ?_) (fun hb38 hr => ?_)
   ·refine .skip (.seq (.block (.seq ?_)))
    obtain ⟨hg39, hr⟩ := gd hr
    refine .r0 G (.p0 (v := .pp (f.Strips.flatMap (slC api_Pix.c)) (x_6.toNat * 1)) (tr (ofP_guard hg39)) (.p0 (v := slT api_Pix.c (gt f.Strips x_6)) (tr (ofP_some (flat_get (slC_len api_Pix.c) (inR_lt hg39) (by decide : 0 < 1) (by omega : x_6.toNat * 1 = x_6.toNat * 1 + 0) (by kernel_rfl)))) (.mu 1 (.done (.nh [3, 5, 13, 14, 15] [] (.seq (.r4 G [3, 13, 14, 15] [(19, slT api_Pix.c (gt f.Strips x_6)), (20, aI64 ((gt f.Strips x_6).length : Int)), (21, aI64 0)] (.block ?_))))))))
    replace hr := bd hr; obtain ⟨o62, hL63, hr⟩ := hr
    refine .loopO (σ := fun z0 => match z0 with | (n_40, x_41) => ⟨mkS 41 0 [(3, aI64 n_40), (13, slT (slC api_Pix.c) f.Strips), (14, aI64 (f.Strips.length : Int)), (15, aI64 x_6), (19, slT api_Pix.c (gt f.Strips x_6)), (20, aI64 ((gt f.Strips x_6).length : Int)), (21, aI64 x_41)], []⟩) (Q := fun x st' => match (generalizing := false) o62 with | .inl n_51 => x = .exit 2 ∧ Wk 0 st' ⟨mkS 41 0 [(3, aI64 n_51), (13, slT (slC api_Pix.c) f.Strips), (14, aI64 (f.Strips.length : Int)), (15, aI64 x_6)], []⟩ | .inr (r0) => x = .ret ∧ FinQ Tryz.prog [.tmp 2] (aI64 r0) .ret st') hL63 ((Wk.gc [3, 13, 14, 15, 19, 20, 21] [] rfl pK0).to) ?_ ?_
    ·clear hr
     rintro m ⟨n_40, x_41⟩ hr
     show CQ _ _ _ _ _ ⟨_, _⟩
     refine .seq (.r4 G [3, 13, 14, 15, 19, 20, 21] [(22, aB (decide (x_41 < ((gt f.Strips x_6).length : Int))))] (.seq ?_))
     refine .cd hr (fun hb54 hr => ?_) (fun hb54 hr => ?_)
     ·refine .skip (.seq (.block (.seq ?_)))
      obtain ⟨hg55, hr⟩ := gd hr
      refine .r0 G (.p0 (v := .pp ((gt f.Strips x_6).flatMap api_Pix.c) (x_41.toNat * 2)) (tr (ofP_guard hg55)) (.p0 (v := .agg (api_Pix.c (gt (gt f.Strips x_6) x_41))) (Eq.trans (b := ORes.ofP (guardV (decide (2 ≤ (((gt f.Strips x_6).flatMap api_Pix.c).drop (x_41.toNat * 2)).length)) (.agg ((((gt f.Strips x_6).flatMap api_Pix.c).drop (x_41.toNat * 2)).take 2)))) (by kernel_rfl) (flat_load api_Pix.len (inR_lt hg55) (by decide) (by omega : x_41.toNat * 2 = x_41.toNat * 2 + 0) (by kernel_rfl))) (.mu 2 (.done (.nh [3, 7, 13, 14, 15, 19, 20, 21] [.own (api_Pix.c (gt (gt f.Strips x_6) x_41))] (.seq (.seq ?_)))))))
      obtain ⟨v56, hc57, hr⟩ := bd hr
      rcases Bool.eq_false_or_eq_true (!v56) with hb58 | hb58
      ·replace hr := cd_t hb58 hr
       refine .g1 G (ok0 (plan_within_ok n (gt (gt f.Strips x_6) x_41).X v56 hc57)) (.mu 2 (.ca cf0 (.p0 (v := aB true) (eB hb58) (.mu 6 (.done (.nh [3, 13, 14, 15, 19, 20, 21, 34] [.own (api_Pix.c (gt (gt f.Strips x_6) x_41))] (.cT (by kernel_rfl) (.seq (.ru G (.ret ?_))))))))))
       obtain rfl := oi hr
       exact ⟨rfl, FinQ.ret (vs := [aI64 2]) (by kernel_rfl) (Sn.pure rfl)⟩
      ·replace hr := cd_f hb58 hr
       obtain ⟨v59, hc60, hr⟩ := bd hr
       refine .gn G (ca1 (ok0 (plan_within_ok n (gt (gt f.Strips x_6) x_41).X v56 hc57)) (ca3 (ok0 (plan_within_ok n (gt (gt f.Strips x_6) x_41).Y v59 hc60)))) (.mu 2 (.ca cf0 (.p0 (v := aB false) (eB hb58) (.mu 3 (.ca (cfA (fun h => by rw [sv hc60 hc57 (plan_within_cg n h)]) cf0) (.mu 2 (.done (.nh [3, 13, 14, 15, 19, 20, 21, 34] [.own (api_Pix.c (gt (gt f.Strips x_6) x_41))] ?_))))))))
       refine .cd hr (fun hb61 hr => ?_) (fun hb61 hr => ?_)
       ·refine .seq (.ru G (.ret ?_))
        obtain rfl := oi hr
        exact ⟨rfl, FinQ.ret (vs := [aI64 2]) (by kernel_rfl) (Sn.pure rfl)⟩
       ·refine .skip (.ru G (.pop (.ru G ?_)))
        exact loopF_back (wrapF .i64 (n_40 + 1), wrapF .i64 (x_41 + 1)) hr ((Wk.gc [3, 13, 14, 15, 19, 20, 21] [] rfl pK0).to)
     ·refine .leave rfl ?_
      obtain rfl := oi hr
      exact ⟨rfl, ((Wk.gc [3, 13, 14, 15] [] rfl pK0).to)⟩
    ·rcases o62 with n_51 | r0
     ·rintro x st' hq64
      clear hL63
      obtain ⟨rfl, hq64⟩ := hq64
      refine CQ_exit _ rfl (.pop (.wk hq64 (.ru G ?_)))
      exact loopF_back (n_51, wrapF .i64 (x_6 + 1)) hr ((Wk.gc [3, 13, 14, 15] [] rfl pK0).to)
     ·rintro x st' hq64
      clear hL63
      obtain ⟨rfl, hq64⟩ := hq64
      obtain rfl := oi hr
      exact CQ_ret _ ⟨rfl, hq64⟩
   ·refine .leave rfl ?_
    obtain rfl := oi hr
    exact ⟨rfl, ((Wk.gc [3] [] rfl pK0).to)⟩
  ·rcases o65 with n_35 | r0
   ·rintro x st' hq67
    clear hL66
    obtain ⟨rfl, hq67⟩ := hq67
    refine CQ_exit _ rfl (.wk hq67 (.seq (.seq (.r3 G 41 [(40, aB (decide (n_35 > 256)))] ?_))))
    refine .cd hr (fun hb68 hr => ?_) (fun hb68 hr => ?_)
    ·refine .seq (.ru G (.ret ?_))
     obtain rfl := oi hr
     exact FinQ.r1 [aI64 3]
    ·refine .skip (.seq (.ru G (.ret ?_)))
     obtain rfl := oi hr
     exact FinQ.r1 [aI64 0]
   ·rintro x st' hq67
    clear hL66
    obtain ⟨rfl, hq67⟩ := hq67
    obtain rfl := oi hr
    exact CQ_ret _ hq67

theorem plan_asked_1_ok (n : Nat) (l : List api_Pix) (r : Bool) (hr : plan_asked_1 n l = some r) : FnOk Tryz.prog 46 [slT api_Pix.c l] (aB r) := by
 unfold plan_asked_1 at hr
 refine FnOk.bd G Tryz.func46 [.tmp 2] ?_
 unfold Tryz.f46
 simp only [Option.getD_some]
 refine .seq (.r4 G [0] [] (.seq (.ru G (.ret ?_))))
 obtain rfl := oi hr
 exact FinQ.r1 [aB (((l.length : Int) : Int) == 0)]

theorem slices_IndexFunc_fiducial_api_Pix_fiducial_api_Pix_of_plan_asked_1_ok (n : Nat) (s : List (List api_Pix)) (r : Int) (hr : slices_IndexFunc_fiducial_api_Pix_fiducial_api_Pix_of_plan_asked_1 n s = some r) : FnOk Tryz.prog 64 [slT (slC api_Pix.c) s, .fn 46 [] []] (aI64 r) := by
 unfold slices_IndexFunc_fiducial_api_Pix_fiducial_api_Pix_of_plan_asked_1 at hr
 refine FnOk.bd G Tryz.func64 [.tmp 4] ?_
 unfold Tryz.f64
 simp only [Option.getD_some]
 refine .seq (.r4 G [0, 1] [] (.seq (.seq (.r4 G [0, 1] [(7, aI64 (s.length : Int)), (8, aI64 0)] (.block ?_)))))
 replace hr := bd hr; obtain ⟨o13, hL14, hr⟩ := hr
 refine .loopO (σ := fun z0 => match z0 with | x_1 => ⟨mkS 19 0 [(0, slT (slC api_Pix.c) s), (1, .fn 46 [] []), (7, aI64 (s.length : Int)), (8, aI64 x_1)], []⟩) (Q := fun x st' => match (generalizing := false) o13 with | .inl _ => x = .exit 0 ∧ Wk 0 st' ⟨mkS 19 0 [], []⟩ | .inr (r0) => x = .ret ∧ FinQ Tryz.prog [.tmp 4] (aI64 r0) .ret st') hL14 ((Wk.gc [0, 1, 7, 8] [] rfl pK0).to) ?_ ?_
 ·clear hr
  rintro m x_1 hr
  show CQ _ _ _ _ _ ⟨_, _⟩
  refine .seq (.r4 G [0, 1, 7, 8] [(9, aB (decide (x_1 < (s.length : Int))))] (.seq ?_))
  refine .cd hr (fun hb8 hr => ?_) (fun hb8 hr => ?_)
  ·refine .skip (.seq (.block (.seq (.r4 G [0, 1, 7, 8] [(5, aI64 x_1)] (.seq ?_)))))
   obtain ⟨hg9, hr⟩ := gd hr
   obtain ⟨v10, hc11, hr⟩ := bd hr
   refine .g1 G (ok0 (plan_asked_1_ok n (gt s x_1) v10 hc11)) (.mu 3 (.p0 (v := .pp (s.flatMap (slC api_Pix.c)) (x_1.toNat * 1)) (tr (ofP_guard hg9)) (.p0 (v := slT api_Pix.c (gt s x_1)) (tr (ofP_some (flat_get (slC_len api_Pix.c) (inR_lt hg9) (by decide : 0 < 1) (by omega : x_1.toNat * 1 = x_1.toNat * 1 + 0) (by kernel_rfl)))) (.ca cf0 (.done (.nh [0, 1, 5, 7, 8, 16] [] ?_))))))
   refine .cd hr (fun hb12 hr => ?_) (fun hb12 hr => ?_)
   ·refine .seq (.ru G (.ret ?_))
    obtain rfl := oi hr
    exact ⟨rfl, FinQ.ret (vs := [aI64 x_1]) (by kernel_rfl) (Sn.pure rfl)⟩
   ·refine .skip (.pop (.ru G ?_))
    exact loopF_back (wrapF .i64 (x_1 + 1)) hr ((Wk.gc [0, 1, 7, 8] [] rfl pK0).to)
  ·refine .leave rfl ?_
   obtain rfl := oi hr
   exact ⟨rfl, ((Wk.gc [] [] rfl pK0).to)⟩
 ·rcases o13 with ⟨⟩ | r0
  ·rintro x st' hq15
   clear hL14
   obtain ⟨rfl, hq15⟩ := hq15
   refine CQ_exit _ rfl (.wk hq15 (.seq (.ru G (.ret ?_))))
   obtain rfl := oi hr
   exact FinQ.r1 [aI64 (-1)]
  ·rintro x st' hq15
   clear hL14
   obtain ⟨rfl, hq15⟩ := hq15
   obtain rfl := oi hr
   exact CQ_ret _ hq15

theorem slices_ContainsFunc_fiducial_api_Pix_fiducial_api_Pix_of_plan_asked_1_ok (n : Nat) (s : List (List api_Pix)) (r : Bool) (hr : slices_ContainsFunc_fiducial_api_Pix_fiducial_api_Pix_of_plan_asked_1 n s = some r) : FnOk Tryz.prog 45 [slT (slC api_Pix.c) s, .fn 46 [] []] (aB r) := by
 unfold slices_ContainsFunc_fiducial_api_Pix_fiducial_api_Pix_of_plan_asked_1 at hr
 refine FnOk.bd G Tryz.func45 [.tmp 4] ?_
 unfold Tryz.f45
 simp only [Option.getD_some]
 refine .seq (.r4 G [0, 1] [] (.seq ?_))
 obtain ⟨v1, hc2, hr⟩ := bd hr
 refine .g1 G (ok0 (slices_IndexFunc_fiducial_api_Pix_fiducial_api_Pix_of_plan_asked_1_ok n s v1 hc2)) (.mu 2 (.ca cf0 (.mu 2 (.done (.ret ?_)))))
 obtain rfl := oi hr
 exact FinQ.r1 [aB (decide (v1 ≥ 0))]

theorem plan_asked_ok (n : Nat) (s : api_Survey) (f : api_Flight) (ground : Int) (empty : Bool) (r : Int) (hr : plan_asked n s f ground empty = some r) : FnOk Tryz.prog 22 [.agg (api_Survey.c s), .agg (api_Flight.c f), aI64 ground, aB empty] (aI64 r) := by
 unfold plan_asked at hr
 refine FnOk.bd G Tryz.func22 [.tmp 8] ?_
 unfold Tryz.f22
 simp only [Option.getD_some]
 refine .seq (.r5 G [2, 3] [(4, .hp 0 0), (5, .hp 1 0)] [.own (api_Survey.c s), .own (api_Flight.c f)] (.seq (.seq ?_)))
 obtain ⟨v1, hc2, hr⟩ := bd hr
 refine .g1 G (ok0 (plan_Check_ok n s v1 hc2)) (.mu 1 (.ca cf0 (.mu 1 (.done (.nh [2, 3, 5, 9] [.own (api_Survey.c s), .own (api_Flight.c f)] (.seq (.r4 G [2, 3, 5, 9] [(14, aB ((v1 : Int) != 0))] ?_)))))))
 refine .cd hr (fun hb4 hr => ?_) (fun hb4 hr => ?_)
 ·refine .seq (.ru G (.ret ?_))
  obtain rfl := oi hr
  exact FinQ.r1 [aI64 v1]
 ·refine .skip (.seq (.seq ?_))
  obtain ⟨v5, hc6, hr⟩ := bd hr
  refine .g1 G (ok0 (plan_checkFlight_ok n f v5 hc6)) (.mu 1 (.ca cf0 (.mu 1 (.done (.nh [2, 3, 5, 10] [.own (api_Survey.c s), .own (api_Flight.c f)] (.seq (.r4 G [2, 3, 5, 10] [(19, aB ((v5 : Int) != 0))] ?_)))))))
  refine .cd hr (fun hb8 hr => ?_) (fun hb8 hr => ?_)
  ·refine .seq (.ru G (.ret ?_))
   obtain rfl := oi hr
   exact FinQ.r1 [aI64 v5]
  ·refine .skip (.seq (.seq ?_))
   obtain ⟨v9, hc10, hr⟩ := bd hr
   refine .g1 G (ok0 (plan_within_ok n ground v9 hc10)) (.mu 1 (.ca cf0 (.mu 1 (.done (.nh [2, 3, 5, 23] [.own (api_Survey.c s), .own (api_Flight.c f)] ?_)))))
   refine .cd hr (fun hb12 hr => ?_) (fun hb12 hr => ?_)
   ·refine .seq (.ru G (.ret ?_))
    obtain rfl := oi hr
    exact FinQ.r1 [aI64 2]
   ·refine .skip (.seq (.seq ?_))
    rcases Bool.eq_false_or_eq_true (!empty) with hb13 | hb13
    ·replace hr := cd_t hb13 hr
     rcases Bool.eq_false_or_eq_true (((f.Strips.length : Int) : Int) == 0) with hb14 | hb14
     ·replace hr := cd_t hb14 hr
      refine .r0 G (.mu 1 (.p0 (v := aB true) (eB hb13) (.mu 4 (.pure (v := aB true) (by kernel_rfl) (eB hb14) (.mu 6 (.done (.nh [2, 5, 36] [.own (api_Survey.c s), .own (api_Flight.c f)] (.cT (by kernel_rfl) (.seq (.ru G (.ret ?_)))))))))))
      obtain rfl := oi hr
      exact FinQ.r1 [aI64 6]
     ·replace hr := cd_f hb14 hr
      obtain ⟨v15, hc16, hr⟩ := bd hr
      refine .g1 G (ok0 (slices_ContainsFunc_fiducial_api_Pix_fiducial_api_Pix_of_plan_asked_1_ok n f.Strips v15 hc16)) (.mu 1 (.p0 (v := aB true) (eB hb13) (.mu 4 (.pure (v := aB false) (by kernel_rfl) (eB hb14) (.mu 3 (.ca cf0 (.mu 2 (.done (.nh [2, 5, 36] [.own (api_Survey.c s), .own (api_Flight.c f)] ?_)))))))))
      refine .cd hr (fun hb17 hr => ?_) (fun hb17 hr => ?_)
      ·refine .seq (.ru G (.ret ?_))
       obtain rfl := oi hr
       exact FinQ.r1 [aI64 6]
      ·refine .skip (.seq (.seq (.r3 G 41 [(40, aB (decide (f.Height ≤ ground)))] ?_)))
       refine .cd hr (fun hb18 hr => ?_) (fun hb18 hr => ?_)
       ·refine .seq (.ru G (.ret ?_))
        obtain rfl := oi hr
        exact FinQ.r1 [aI64 20]
       ·refine .skip (.seq (.ru G (.ret ?_)))
        obtain rfl := oi hr
        exact FinQ.r1 [aI64 0]
    ·replace hr := cd_f hb13 hr
     refine .r0 G (.mu 1 (.p0 (v := aB false) (eB hb13) (.mu 11 (.done (.nh [2, 5, 36] [.own (api_Survey.c s), .own (api_Flight.c f)] (.cF (by kernel_rfl) (.skip (.seq (.seq (.r3 G 41 [(40, aB (decide (f.Height ≤ ground)))] ?_))))))))))
     refine .cd hr (fun hb19 hr => ?_) (fun hb19 hr => ?_)
     ·refine .seq (.ru G (.ret ?_))
      obtain rfl := oi hr
      exact FinQ.r1 [aI64 20]
     ·refine .skip (.seq (.ru G (.ret ?_)))
      obtain rfl := oi hr
      exact FinQ.r1 [aI64 0]

theorem slices_Grow_fiducial_api_Pix_fiducial_api_Pix_w_ok (n : Nat) (n' : Int) (r : List api_Pix) (hr : slices_Grow_fiducial_api_Pix_fiducial_api_Pix_w n n' = some r) : FnMut 0 Tryz.prog 47 [nS, aI64 n'] [] (.hs 0 0 r.length 2) [.own (r.flatMap api_Pix.c)] := by
 unfold slices_Grow_fiducial_api_Pix_fiducial_api_Pix_w at hr
 refine FnMut.bodyW G Tryz.func47 (c := (Tryz.f47.body).getD .skip) rfl (us := [.hs 0 0 r.length 2]) (s := mkS 27 0 [(0, nS), (1, aI64 n')]) (by kernel_rfl) (rs := [.tmp 4]) rfl ?_
 unfold Tryz.f47
 simp only [Option.getD_some]
 refine .seq (.r4 G [0, 1] [] (.seq (.seq (.r4 G [0, 1] [(6, aB (decide (n' < 0)))] ?_))))
 obtain ⟨hp8, hr⟩ := gdn hr
 refine .cN hp8 (.skip (.seq (.seq (.r4 G [0] [(1, aI64 (wrapF .i64 (n' - 0)))] (.seq (.r4 G [0, 1] [(16, aB (decide ((wrapF .i64 (n' - 0)) > 0)))] ?_))))))
 refine .cd hr (fun hb9 hr => ?_) (fun hb9 hr => ?_)
 ·obtain ⟨hg10, hg11, hg12, hr⟩ := gd3 hr
  obtain ⟨hg13, hr⟩ := gd hr
  refine .r0 G (.mu 5 (.e0 (v := .hs 0 0 (List.replicate (wrapF .i64 (n' - 0)).toNat (api_Pix.mk 0 0)).length 2) (ws := [(0, .own ((List.replicate (wrapF .i64 (n' - 0)).toNat (api_Pix.mk 0 0)).flatMap api_Pix.c))]) (tr (app_zero (c := api_Pix.c) (z := api_Pix.mk 0 0) (n := (wrapF .i64 (n' - 0))) (by_ := 16) rfl hg10 hg11 hg12)) (.mu 2 (.p0 (v := .hs 0 0 (0 : Int).toNat 2) (Eq.trans (b := slH (inS 0 0 (List.replicate (wrapF .i64 (n' - 0)).toNat (api_Pix.mk 0 0)).length) true ((0 : Int).toNat) ((0 : Int).toNat) (fun z1 z2 => .hs 0 (0 + z1 * 2) (z2 - z1) 2)) (by kernel_rfl) (slH_t hg13 (by kernel_rfl))) (.mu 1 (.done (.nh [0] [.own ((List.replicate (wrapF .i64 (n' - 0)).toNat (api_Pix.mk 0 0)).flatMap api_Pix.c)] (.wk ((Wk.cutS (c := api_Pix.c) (es := 2) 0 0 api_Pix.len (List.replicate (wrapF .i64 (n' - 0)).toNat (api_Pix.mk 0 0)) (0 : Int).toNat (inS_le hg13) (by kernel_rfl) (by kernel_rfl)).to (c := ⟨mkS 27 0 [(0, .hs 0 0 ((List.replicate (wrapF .i64 (n' - 0)).toNat (api_Pix.mk 0 0)).take (0 : Int).toNat).length 2)], [.own (((List.replicate (wrapF .i64 (n' - 0)).toNat (api_Pix.mk 0 0)).take (0 : Int).toNat).flatMap api_Pix.c)]⟩) (by kernel_rfl)) (.seq (.r3 G 27 [(4, .hs 0 0 ((List.replicate (wrapF .i64 (n' - 0)).toNat (api_Pix.mk 0 0)).take (0 : Int).toNat).length 2)] (.ret ?_)))))))))))
  obtain rfl := oi hr
  exact FinMW.ret [.hs 0 0 ((List.replicate (wrapF .i64 (n' - 0)).toNat (api_Pix.mk 0 0)).take (0 : Int).toNat).length 2] ((Wk.gc [0] [(0, false)] rfl (pKo api_Pix.c api_Pix.pure ((List.replicate (wrapF .i64 (n' - 0)).toNat (api_Pix.mk 0 0)).take (0 : Int).toNat) trivial)).to)
 ·refine .skip (.seq (.r3 G 27 [(4, nS)] (.ret ?_)))
  obtain rfl := oi hr
  exact FinMW.ret [nS] ((Wk.nil 0 2 (by kernel_rfl)).trans ((Wk.gc [0] [(0, false)] rfl (pKc trivial)).to))

theorem slices_Concat_fiducial_api_Pix_fiducial_api_Pix_ok (n : Nat) (slices : List (List api_Pix)) (r : List api_Pix) (hr : slices_Concat_fiducial_api_Pix_fiducial_api_Pix n slices = some r) : FnOk Tryz.prog 24 [slT (slC api_Pix.c) slices] (slT api_Pix.c r) := by
 unfold slices_Concat_fiducial_api_Pix_fiducial_api_Pix at hr
 refine FnOk.bd G Tryz.func24 [.tmp 2] ?_
 unfold Tryz.f24
 simp only [Option.getD_some]
 refine .seq (.r4 G [0] [] (.seq (.r4 G [0] [(3, aI64 0)] (.seq (.seq (.r4 G [0, 3] [(9, slT (slC api_Pix.c) slices), (10, aI64 (slices.length : Int)), (11, aI64 0)] (.block ?_)))))))
 replace hr := bd hr; obtain ⟨size_6, hL12, hr⟩ := hr
 refine .loopO (σ := fun z0 => match z0 with | (size_1, x_2) => ⟨mkS 36 0 [(0, slT (slC api_Pix.c) slices), (3, aI64 size_1), (9, slT (slC api_Pix.c) slices), (10, aI64 (slices.length : Int)), (11, aI64 x_2)], []⟩) (Q := fun x st' => x = .exit 0 ∧ Wk 0 st' ⟨mkS 36 0 [(0, slT (slC api_Pix.c) slices), (3, aI64 size_6)], []⟩) hL12 ((Wk.gc [0, 3, 9, 10, 11] [] rfl pK0).to) ?_ ?_
 ·clear hr
  rintro m ⟨size_1, x_2⟩ hr
  show CQ _ _ _ _ _ ⟨_, _⟩
  refine .seq (.r4 G [0, 3, 9, 10, 11] [(12, aB (decide (x_2 < (slices.length : Int))))] (.seq ?_))
  refine .cd hr (fun hb8 hr => ?_) (fun hb8 hr => ?_)
  ·refine .skip (.seq (.block (.seq ?_)))
   obtain ⟨hg9, hr⟩ := gd hr
   refine .r0 G (.p0 (v := .pp (slices.flatMap (slC api_Pix.c)) (x_2.toNat * 1)) (tr (ofP_guard hg9)) (.p0 (v := slT api_Pix.c (gt slices x_2)) (tr (ofP_some (flat_get (slC_len api_Pix.c) (inR_lt hg9) (by decide : 0 < 1) (by omega : x_2.toNat * 1 = x_2.toNat * 1 + 0) (by kernel_rfl)))) (.mu 1 (.done (.nh [0, 3, 5, 9, 10, 11] [] (.seq (.r4 G [0, 9, 10, 11] [(3, aI64 (wrapF .i64 (size_1 + ((gt slices x_2).length : Int))))] (.seq (.r4 G [0, 3, 9, 10, 11] [(20, aB (decide ((wrapF .i64 (size_1 + ((gt slices x_2).length : Int))) < 0)))] ?_)))))))))
   obtain ⟨hp10, hr⟩ := gdn hr
   refine .cN hp10 (.skip (.pop (.ru G ?_)))
   exact loopF_back (wrapF .i64 (size_1 + ((gt slices x_2).length : Int)), wrapF .i64 (x_2 + 1)) hr ((Wk.gc [0, 3, 9, 10, 11] [] rfl pK0).to)
  ·refine .leave rfl ?_
   obtain rfl := oi hr
   exact ⟨rfl, ((Wk.gc [0, 3] [] rfl pK0).to)⟩
 ·rintro x st' hq13
  clear hL12
  obtain ⟨rfl, hq13⟩ := hq13
  refine CQ_exit _ rfl (.wk hq13 (.seq ?_))
  obtain ⟨v14, hc15, hr⟩ := bd hr
  refine .g1 G (callOk_mutU (args := [nS, aI64 size_6]) 0 1 [] [false] (slices_Grow_fiducial_api_Pix_fiducial_api_Pix_w_ok n size_6 v14 hc15) trivial (by exact ⟨ids_flat api_Pix.pure _, trivial⟩) rfl rfl (by kernel_rfl) (by kernel_rfl)) (.mu 1 (.ca cf0 (.mu 1 (.done (.nh [0, 6] [.own (v14.flatMap api_Pix.c)] (.seq (.seq (.r4 G [6] [(25, slT (slC api_Pix.c) slices), (26, aI64 (slices.length : Int)), (27, aI64 0)] (.block ?_)))))))))
  replace hr := bd hr; obtain ⟨newslice_22, hL29, hr⟩ := hr
  refine .loopO (σ := fun z0 => match z0 with | (newslice_16, x_17) => ⟨mkS 36 0 [(6, .hs 0 0 newslice_16.length 2), (25, slT (slC api_Pix.c) slices), (26, aI64 (slices.length : Int)), (27, aI64 x_17)], [.own (newslice_16.flatMap api_Pix.c)]⟩) (Q := fun x st' => x = .exit 2 ∧ Wk 0 st' ⟨mkS 36 0 [(6, .hs 0 0 newslice_22.length 2)], [.own (newslice_22.flatMap api_Pix.c)]⟩) hL29 ((Wk.gc [6, 25, 26, 27] [(0, false)] rfl (pKo api_Pix.c api_Pix.pure v14 trivial)).to) ?_ ?_
  ·clear hr
   rintro m ⟨newslice_16, x_17⟩ hr
   show CQ _ _ _ _ _ ⟨_, _⟩
   refine .seq (.r4 G [6, 25, 26, 27] [(28, aB (decide (x_17 < (slices.length : Int))))] (.seq ?_))
   refine .cd hr (fun hb24 hr => ?_) (fun hb24 hr => ?_)
   ·refine .skip (.seq (.block (.seq ?_)))
    obtain ⟨hg25, hr⟩ := gd hr
    refine .r0 G (.p0 (v := .pp (slices.flatMap (slC api_Pix.c)) (x_17.toNat * 1)) (tr (ofP_guard hg25)) (.p0 (v := slT api_Pix.c (gt slices x_17)) (tr (ofP_some (flat_get (slC_len api_Pix.c) (inR_lt hg25) (by decide : 0 < 1) (by omega : x_17.toNat * 1 = x_17.toNat * 1 + 0) (by kernel_rfl)))) (.mu 1 (.done (.nh [6, 8, 25, 26, 27] [.own (newslice_16.flatMap api_Pix.c)] ?_)))))
    obtain ⟨hg26, hg27, hr⟩ := gd2 hr
    refine .r0 G (.mu 2 (.e0 (v := .hs 1 0 (newslice_16 ++ (gt slices x_17)).length 2) (ws := [(0, .dead), (1, .own ((newslice_16 ++ (gt slices x_17)).flatMap api_Pix.c))]) (Eq.trans (b := appS (decide ((((gt slices x_17).flatMap api_Pix.c)).length = (gt slices x_17).length * 2)) ((gt slices x_17).flatMap api_Pix.c) (gt slices x_17).length (fun z1 z2 => guardO (decide (0 + newslice_16.length * 2 ≤ (newslice_16.flatMap api_Pix.c).length) && decide ((newslice_16.length + z2) * 16 ≤ 140737488355328) && decide (newslice_16.length + z2 ≤ 4611686018427387904)) (some (.eff (.hs 1 0 (newslice_16.length + z2) 2) [(0, .dead), (1, .own (((newslice_16.flatMap api_Pix.c).drop 0).take (newslice_16.length * 2) ++ z1))])))) (by kernel_rfl) (appS_t (flat_lenB api_Pix.len) rfl (app_own (l := newslice_16) (xs := (gt slices x_17)) api_Pix.len rfl rfl rfl hg26 hg27))) (.mu 1 (.done (.pop (.ru G ?_))))))
    exact loopF_back (newslice_16 ++ (gt slices x_17), wrapF .i64 (x_17 + 1)) hr ((Wk.gc [6, 25, 26, 27] [(1, false)] rfl (pKo api_Pix.c api_Pix.pure (newslice_16 ++ (gt slices x_17)) trivial)).to)
   ·refine .leave rfl ?_
    obtain rfl := oi hr
    exact ⟨rfl, ((Wk.gc [6] [(0, false)] rfl (pKo api_Pix.c api_Pix.pure newslice_16 trivial)).to)⟩
  ·rintro x st' hq30
   clear hL29
   obtain ⟨rfl, hq30⟩ := hq30
   refine CQ_exit _ rfl (.wk hq30 (.seq (.r3 G 36 [(2, .hs 0 0 newslice_22.length 2)] (.ret ?_))))
   obtain rfl := oi hr
   exact FinQ.ret (vs := [.hs 0 0 newslice_22.length 2]) (by kernel_rfl) (Sn.hs rfl (.inl rfl) (SnC.pure (ids_flat api_Pix.pure _)) (fun h => flat_nil0 h))

theorem cmp_isNaN_int_cg (n : Nat) {x' : Int} {x'_ : Int} (h : ([.at (.int .i64 x')] : List AV) = [.at (.int .i64 x'_)]) : cmp_isNaN_int n x' = cmp_isNaN_int n x'_ := by
 obtain rfl := plan_within_inj h
 rfl
theorem cmp_isNaN_int_ok (n : Nat) (x' : Int) (r : Bool) (hr : cmp_isNaN_int n x' = some r) : FnOk Tryz.prog 65 [aI64 x'] (aB r) := by
 unfold cmp_isNaN_int at hr
 refine FnOk.bd G Tryz.func65 [.tmp 2] ?_
 unfold Tryz.f65
 simp only [Option.getD_some]
 refine .seq (.r4 G [0] [] (.seq (.ru G (.ret ?_))))
 obtain rfl := oi hr
 exact FinQ.r1 [aB ((x' : Int) != x')]

theorem slices_Sort_int_int_w_ok (n : Nat) (x' : List Int) (r : List Int) (hr : slices_Sort_int_int_w n x' = some r) : FnMut 1 Tryz.prog 71 [.hs 0 0 x'.length 1] [.own (x'.flatMap (iC .i64))] (.tup []) [.own (r.flatMap (iC .i64))] := by
 unfold slices_Sort_int_int_w at hr
 obtain ⟨h1, hr⟩ := gd hr
 obtain rfl := oi hr
 exact Go.Proofs.YtndahnebnggdmaaGreat.sort_fn h1

theorem slices_Compact_int_int_w_ok (n : Nat) (s : List Int) (r : List Int) (hr : slices_Compact_int_int_w n s = some r) : FnMut 1 Tryz.prog 72 [.hs 0 0 s.length 1] [.own (s.flatMap (iC .i64))] (.hs 0 0 r.length 1) [.own (r.flatMap (iC .i64))] := by
 unfold slices_Compact_int_int_w at hr
 refine FnMut.bodyW G Tryz.func72 (c := (Tryz.f72.body).getD .skip) rfl (us := [.hs 0 0 r.length 1]) (s := mkS 61 0 [(0, .hs 0 0 s.length 1)]) (by kernel_rfl) (rs := [.tmp 2]) rfl ?_
 unfold Tryz.f72
 simp only [Option.getD_some]
 refine .seq (.r4 G [0] [] (.seq (.seq (.r4 G [0] [(8, aB (decide ((s.length : Int) < 2)))] ?_))))
 refine .cd hr (fun hb68 hr => ?_) (fun hb68 hr => ?_)
 ·refine .seq (.r3 G 61 [(2, .hs 0 0 s.length 1)] (.ret ?_))
  obtain rfl := oi hr
  exact FinMW.ret [.hs 0 0 s.length 1] ((Wk.gc [0] [(0, false)] rfl (pKo (iC .i64) (iC_pure _) s trivial)).to)
 ·refine .skip (.seq (.seq (.r4 G [0] [(3, aI64 1)] (.block ?_))))
  replace hr := bd hr; obtain ⟨o131, hL132, hr⟩ := hr
  refine .loopO (σ := fun z0 => match z0 with | k_69 => ⟨mkS 61 0 [(0, .hs 0 0 s.length 1), (3, aI64 k_69)], [.own (s.flatMap (iC .i64))]⟩) (Q := fun x st' => match (generalizing := false) o131 with | .inl _ => x = .exit 0 ∧ Wk 1 st' ⟨mkS 61 0 [(0, .hs 0 0 s.length 1)], [.own (s.flatMap (iC .i64))]⟩ | .inr (r0) => x = .ret ∧ FinMW 1 Tryz.prog [.tmp 2] [.hs 0 0 r0.length 1] [.own (r0.flatMap (iC .i64))] .ret st') hL132 ((Wk.gc [0, 3] [(0, false)] rfl (pKo (iC .i64) (iC_pure _) s trivial)).to) ?_ ?_
  ·clear hr
   rintro m k_69 hr
   show CQ _ _ _ _ _ ⟨_, _⟩
   refine .seq (.seq (.r4 G [0, 3] [(13, aB (decide (k_69 < (s.length : Int))))] ?_))
   refine .cd hr (fun hb101 hr => ?_) (fun hb101 hr => ?_)
   ·refine .skip (.seq (.block (.seq ?_)))
    obtain ⟨hg102, hg103, hr⟩ := gd2 hr
    refine .regionT G callOf_nil (.mu 2 (.pure (v := .hp 0 (0 + k_69.toNat * 1)) (by kernel_rfl) (tr (ofP_guard hg102)) (by kernel_rfl) (.pure (v := aI64 (gt s k_69)) (by kernel_rfl) (tr (ofP_some (flat_get (iC_len .i64) (inR_lt hg102) (by decide : 0 < 1) (by omega : 0 + k_69.toNat * 1 = k_69.toNat * 1 + 0) (by kernel_rfl)))) (by kernel_rfl) (.mu 3 (.pure (v := .hp 0 (0 + (wrapF .i64 (k_69 - 1)).toNat * 1)) (by kernel_rfl) (tr (ofP_guard hg103)) (by kernel_rfl) (.pure (v := aI64 (gt s (wrapF .i64 (k_69 - 1)))) (by kernel_rfl) (tr (ofP_some (flat_get (iC_len .i64) (inR_lt hg103) (by decide : 0 < 1) (by omega : 0 + (wrapF .i64 (k_69 - 1)).toNat * 1 = (wrapF .i64 (k_69 - 1)).toNat * 1 + 0) (by kernel_rfl)))) (by kernel_rfl) (.mu 1 ?_)))))))
    refine .done ⟨by kernel_rfl, ?_⟩
    refine .nh [0, 3, 25] [.own (s.flatMap (iC .i64))] ?_
    refine .cd hr (fun hb104 hr => ?_) (fun hb104 hr => ?_)
    ·refine .seq ?_
     obtain ⟨hg105, hr⟩ := gd hr
     refine .r0 G (.mu 2 (.p0 (v := .hs 0 (0 + k_69.toNat * 1) (s.length - k_69.toNat) 1) (Eq.trans (b := slH (inS k_69 (s.length : Int) s.length) true (k_69.toNat) ((s.length : Int).toNat) (fun z1 z2 => .hs 0 (0 + z1 * 1) (z2 - z1) 1)) (by kernel_rfl) (slH_t hg105 (by kernel_rfl))) (.mu 1 (.done (.nh [0, 3, 4] [.own (s.flatMap (iC .i64))] (.seq (.seq (.r4 G [0, 3, 4] [(5, aI64 1)] (.block ?_)))))))))
     replace hr := bd hr; obtain ⟨o126, hL127, hr⟩ := hr
     refine .loopO (σ := fun z0 => match z0 with | (s_106, k_107, k2_108) => ⟨mkS 61 0 [(0, .hs 0 0 s_106.length 1), (3, aI64 k_107), (4, .hs 0 (0 + k_69.toNat * 1) (s.length - k_69.toNat) 1), (5, aI64 k2_108)], [.own (s_106.flatMap (iC .i64))]⟩) (Q := fun x st' => match (generalizing := false) o126 with | (s_116, k_117) => x = .exit 2 ∧ Wk 1 st' ⟨mkS 61 0 [(0, .hs 0 0 s_116.length 1), (3, aI64 k_117)], [.own (s_116.flatMap (iC .i64))]⟩) hL127 ((Wk.gc [0, 3, 4, 5] [(0, false)] rfl (pKo (iC .i64) (iC_pure _) s trivial)).to) ?_ ?_
     ·clear hr
      rintro m ⟨s_106, k_107, k2_108⟩ hr
      show CQ _ _ _ _ _ ⟨_, _⟩
      refine .seq (.seq (.r4 G [0, 3, 4, 5] [(32, aB (decide (k2_108 < ((s.length - k_69.toNat : Nat) : Int))))] ?_))
      refine .cd hr (fun hb119 hr => ?_) (fun hb119 hr => ?_)
      ·refine .skip (.seq (.block (.seq ?_)))
       obtain ⟨hg120, hg121, hg122, hr⟩ := gd3 hr
       obtain ⟨hg123, hr⟩ := gd hr
       refine .regionT G callOf_nil (.mu 2 (.pure (v := .hp 0 (0 + k_69.toNat * 1 + k2_108.toNat * 1)) (by kernel_rfl) (tr (ofP_guard hg120)) (by kernel_rfl) (.pure (v := aI64 (gt s_106 ((k_69.toNat + k2_108.toNat : Nat) : Int))) (by kernel_rfl) (tr (ofP_some (flat_get (iC_len .i64) (inR_lt hg121) (by decide : 0 < 1) (by omega : 0 + k_69.toNat * 1 + k2_108.toNat * 1 = ((k_69.toNat + k2_108.toNat : Nat) : Int).toNat * 1 + 0) (by kernel_rfl)))) (by kernel_rfl) (.mu 3 (.pure (v := .hp 0 (0 + k_69.toNat * 1 + (wrapF .i64 (k2_108 - 1)).toNat * 1)) (by kernel_rfl) (tr (ofP_guard hg122)) (by kernel_rfl) (.pure (v := aI64 (gt s_106 ((k_69.toNat + (wrapF .i64 (k2_108 - 1)).toNat : Nat) : Int))) (by kernel_rfl) (tr (ofP_some (flat_get (iC_len .i64) (inR_lt hg123) (by decide : 0 < 1) (by omega : 0 + k_69.toNat * 1 + (wrapF .i64 (k2_108 - 1)).toNat * 1 = ((k_69.toNat + (wrapF .i64 (k2_108 - 1)).toNat : Nat) : Int).toNat * 1 + 0) (by kernel_rfl)))) (by kernel_rfl) (.mu 1 ?_)))))))
       refine .done ⟨by kernel_rfl, ?_⟩
       refine .nh [0, 3, 4, 5, 44] [.own (s_106.flatMap (iC .i64))] ?_
       refine .cd hr (fun hb124 hr => ?_) (fun hb124 hr => ?_)
       ·refine .seq ?_
        obtain ⟨hg125, hr⟩ := gd hr
        refine .r0 G (.mu 4 (.p0 (v := .hp 0 (0 + k_69.toNat * 1 + k2_108.toNat * 1)) (tr (ofP_guard hg120)) (.p0 (v := aI64 (gt s_106 ((k_69.toNat + k2_108.toNat : Nat) : Int))) (tr (ofP_some (flat_get (iC_len .i64) (inR_lt hg121) (by decide : 0 < 1) (by omega : 0 + k_69.toNat * 1 + k2_108.toNat * 1 = ((k_69.toNat + k2_108.toNat : Nat) : Int).toNat * 1 + 0) (by kernel_rfl)))) (.p0 (v := .hp 0 (0 + k_107.toNat * 1)) (tr (ofP_guard hg125)) (.e0 (v := .unk) (ws := [(0, .own ((s_106.set k_107.toNat (gt s_106 ((k_69.toNat + k2_108.toNat : Nat) : Int))).flatMap (iC .i64)))]) (tr (stO_t (and_t (flat_fits (n := 1) (iC_len .i64) (inR_lt hg125) (Nat.le_of_ble_eq_true rfl) (by omega : 0 + k_107.toNat * 1 = k_107.toNat * 1 + 0))) (congrArg Blk.own (flat_set (xs := [aI64 (gt s_106 ((k_69.toNat + k2_108.toNat : Nat) : Int))]) (iC_len .i64) (inR_lt hg125) (Nat.le_of_ble_eq_true rfl) (by omega : 0 + k_107.toNat * 1 = k_107.toNat * 1 + 0) (by kernel_rfl))))) (.done (.nh [0, 3, 4, 5] [.own ((s_106.set k_107.toNat (gt s_106 ((k_69.toNat + k2_108.toNat : Nat) : Int))).flatMap (iC .i64))] (.ru G (.pop (.ru G ?_))))))))))
        exact loopF_back (s_106.set k_107.toNat (gt s_106 ((k_69.toNat + k2_108.toNat : Nat) : Int)), wrapF .i64 (k_107 + 1), wrapF .i64 (k2_108 + 1)) hr ((Wk.relen 0 (b := 0) (es := 1) (len := s_106.length) (s_106.set k_107.toNat (gt s_106 ((k_69.toNat + k2_108.toNat : Nat) : Int))).length (by kernel_rfl) (Eq.symm (List.length_set.trans rfl))).trans ((Wk.gc [0, 3, 4, 5] [(0, false)] rfl (pKo (iC .i64) (iC_pure _) (s_106.set k_107.toNat (gt s_106 ((k_69.toNat + k2_108.toNat : Nat) : Int))) trivial)).to))
       ·refine .skip (.pop (.ru G ?_))
        exact loopF_back (s_106, k_107, wrapF .i64 (k2_108 + 1)) hr ((Wk.gc [0, 3, 4, 5] [(0, false)] rfl (pKo (iC .i64) (iC_pure _) s_106 trivial)).to)
      ·refine .leave rfl ?_
       obtain rfl := oi hr
       exact ⟨rfl, ((Wk.gc [0, 3] [(0, false)] rfl (pKo (iC .i64) (iC_pure _) s_106 trivial)).to)⟩
     ·rcases o126 with ⟨s_116, k_117⟩
      rintro x st' hq128
      clear hL127
      obtain ⟨rfl, hq128⟩ := hq128
      refine CQ_exit _ rfl (.wk hq128 (.seq ?_))
      obtain ⟨hg129, hr⟩ := gd hr
      refine .r0 G (.mu 2 (.p0 (v := .hs 0 (0 + k_117.toNat * 1) (s_116.length - k_117.toNat) 1) (Eq.trans (b := slH (inS k_117 (s_116.length : Int) s_116.length) true (k_117.toNat) ((s_116.length : Int).toNat) (fun z1 z2 => .hs 0 (0 + z1 * 1) (z2 - z1) 1)) (by kernel_rfl) (slH_t hg129 (by kernel_rfl))) (.e0 (v := .at (.tuple #[])) (ws := [(0, .own ((overT s_116 k_117.toNat (List.replicate (s_116.length - k_117.toNat) ((0 : Int) : Int))).flatMap (iC .i64)))]) (tr (cl_t (a := k_117.toNat) (z := ((0 : Int) : Int)) (iC_len .i64) rfl (Nat.zero_add _) (inS_lo hg129))) (.done (.nh [0, 3] [.own ((overT s_116 k_117.toNat (List.replicate (s_116.length - k_117.toNat) ((0 : Int) : Int))).flatMap (iC .i64))] (.seq ?_))))))
      obtain ⟨hg130, hr⟩ := gd hr
      refine .r0 G (.mu 2 (.p0 (v := .hs 0 0 k_117.toNat 1) (Eq.trans (b := slH (inS 0 k_117 s_116.length) true ((0 : Int).toNat) (k_117.toNat) (fun z1 z2 => .hs 0 (0 + z1 * 1) (z2 - z1) 1)) (by kernel_rfl) (slH_t hg130 (by kernel_rfl))) (.mu 1 (.done (.nh [2] [.own ((overT s_116 k_117.toNat (List.replicate (s_116.length - k_117.toNat) ((0 : Int) : Int))).flatMap (iC .i64))] (.wk ((Wk.cutS (c := (iC .i64)) (es := 1) 2 0 (iC_len _) (overT s_116 k_117.toNat (List.replicate (s_116.length - k_117.toNat) ((0 : Int) : Int))) k_117.toNat (Nat.le_trans (inS_le hg130) (Nat.le_of_eq (Eq.symm ((overT_len _ _ _).trans rfl)))) (by kernel_rfl) (by kernel_rfl)).to (c := ⟨mkS 61 0 [(2, .hs 0 0 ((overT s_116 k_117.toNat (List.replicate (s_116.length - k_117.toNat) ((0 : Int) : Int))).take k_117.toNat).length 1)], [.own (((overT s_116 k_117.toNat (List.replicate (s_116.length - k_117.toNat) ((0 : Int) : Int))).take k_117.toNat).flatMap (iC .i64))]⟩) (by kernel_rfl)) (.ret ?_)))))))
      obtain rfl := oi hr
      exact ⟨rfl, FinMW.ret [.hs 0 0 ((overT s_116 k_117.toNat (List.replicate (s_116.length - k_117.toNat) ((0 : Int) : Int))).take k_117.toNat).length 1] ((Wk.gc [0] [(0, false)] rfl (pKo (iC .i64) (iC_pure _) ((overT s_116 k_117.toNat (List.replicate (s_116.length - k_117.toNat) ((0 : Int) : Int))).take k_117.toNat) trivial)).to)⟩
    ·refine .skip (.pop (.ru G ?_))
     exact loopF_back (wrapF .i64 (k_69 + 1)) hr ((Wk.gc [0, 3] [(0, false)] rfl (pKo (iC .i64) (iC_pure _) s trivial)).to)
   ·refine .leave rfl ?_
    obtain rfl := oi hr
    exact ⟨rfl, ((Wk.gc [0] [(0, false)] rfl (pKo (iC .i64) (iC_pure _) s trivial)).to)⟩
  ·rcases o131 with ⟨⟩ | r0
   ·rintro x st' hq133
    clear hL132
    obtain ⟨rfl, hq133⟩ := hq133
    refine CQ_exit _ rfl (.wk hq133 (.seq (.r3 G 61 [(2, .hs 0 0 s.length 1)] (.ret ?_))))
    obtain rfl := oi hr
    exact FinMW.ret [.hs 0 0 s.length 1] ((Wk.gc [0] [(0, false)] rfl (pKo (iC .i64) (iC_pure _) s trivial)).to)
   ·rintro x st' hq133
    clear hL132
    obtain ⟨rfl, hq133⟩ := hq133
    obtain rfl := oi hr
    exact CQ_ret _ hq133

theorem plan_axis_ok (n : Nat) (n' : Int) (focal : Int) (size : Int) (at' : List Int) (r : List Int × List (A4 Int)) (hr : plan_axis n n' focal size at' = some r) : FnOk Tryz.prog 55 [aI64 n', aI64 focal, aI64 size, sI64 at'] (.tup [sI64 r.1, slT A4_plan_set.c r.2]) := by
 unfold plan_axis at hr
 refine FnOk.bd G Tryz.func55 [.tmp 8, .tmp 9] ?_
 unfold Tryz.f55
 simp only [Option.getD_some]
 refine .seq (.r4 G [0, 1, 2, 3] [] (.seq (.r4 G [0, 2, 3] [(10, aI64 (wrapF .i64 (4 * focal)))] (.seq (.r5 G [0, 2, 3, 10] [(11, .hs 0 0 2 1)] [.own [aI64 0, aI64 (wrapF .i64 (n' * (wrapF .i64 (4 * focal))))]] (.seq (.seq (.r4 G [0, 2, 3, 10, 11] [(29, sI64 at'), (30, aI64 (at'.length : Int)), (31, aI64 0)] (.block ?_)))))))))
 replace hr := bd hr; obtain ⟨marks_88, hL117, hr⟩ := hr
 refine .loopO (σ := fun z0 => match z0 with | (marks_60, x_61) => ⟨mkS 145 0 [(0, aI64 n'), (2, aI64 size), (3, sI64 at'), (10, aI64 (wrapF .i64 (4 * focal))), (11, .hs 0 0 marks_60.length 1), (29, sI64 at'), (30, aI64 (at'.length : Int)), (31, aI64 x_61)], [.own (marks_60.flatMap (iC .i64))]⟩) (Q := fun x st' => x = .exit 0 ∧ Wk 0 st' ⟨mkS 145 0 [(2, aI64 size), (3, sI64 at'), (10, aI64 (wrapF .i64 (4 * focal))), (11, .hs 0 0 marks_88.length 1)], [.own (marks_88.flatMap (iC .i64))]⟩) hL117 ((Wk.gc [0, 2, 3, 10, 11, 29, 30, 31] [(0, false)] rfl (pKc trivial)).to) ?_ ?_
 ·clear hr
  rintro m ⟨marks_60, x_61⟩ hr
  show CQ _ _ _ _ _ ⟨_, _⟩
  refine .seq (.r4 G [0, 2, 3, 10, 11, 29, 30, 31] [(32, aB (decide (x_61 < (at'.length : Int))))] (.seq ?_))
  refine .cd hr (fun hb91 hr => ?_) (fun hb91 hr => ?_)
  ·refine .skip (.seq (.block (.seq ?_)))
   obtain ⟨hg92, hr⟩ := gd hr
   refine .r0 G (.p0 (v := .pp (at'.flatMap (iC .i64)) (x_61.toNat * 1)) (tr (ofP_guard hg92)) (.p0 (v := aI64 (gt at' x_61)) (tr (ofP_some (flat_get (iC_len .i64) (inR_lt hg92) (by decide : 0 < 1) (by omega : x_61.toNat * 1 = x_61.toNat * 1 + 0) (by kernel_rfl)))) (.mu 1 (.done (.nh [0, 2, 3, 10, 11, 13, 29, 30, 31] [.own (marks_60.flatMap (iC .i64))] (.seq (.r5 G [0, 2, 3, 10, 11, 29, 30, 31] [(47, .hs 1 0 2 1), (48, aI64 2), (49, aI64 0)] [.own (marks_60.flatMap (iC .i64)), .own [aI64 (wrapF .i64 ((wrapF .i64 ((gt at' x_61) * (wrapF .i64 (4 * focal)))) - (wrapF .i64 (2 * size)))), aI64 (wrapF .i64 ((wrapF .i64 ((gt at' x_61) * (wrapF .i64 (4 * focal)))) + (wrapF .i64 (2 * size))))]] (.block ?_))))))))
   obtain ⟨w93, hw94, hr⟩ := bd hr
   refine .wk ((Wk.refl _).to (c := ⟨mkS 145 0 [(0, aI64 n'), (2, aI64 size), (3, sI64 at'), (10, aI64 (wrapF .i64 (4 * focal))), (11, .hs 0 0 marks_60.length 1), (29, sI64 at'), (30, aI64 (at'.length : Int)), (31, aI64 x_61), (47, .hs 1 0 w93.length 1), (48, aI64 2), (49, aI64 0)], [.own (marks_60.flatMap (iC .i64)), .own (w93.flatMap (iC .i64))]⟩) (by rw [← oi hw94]; kernel_rfl)) ?_
   replace hr := bd hr; obtain ⟨marks_104, hL114, hr⟩ := hr
   refine .loopO (σ := fun z0 => match z0 with | (marks_95, x_96) => ⟨mkS 145 0 [(0, aI64 n'), (2, aI64 size), (3, sI64 at'), (10, aI64 (wrapF .i64 (4 * focal))), (11, .hs 0 0 marks_95.length 1), (29, sI64 at'), (30, aI64 (at'.length : Int)), (31, aI64 x_61), (47, .hs 1 0 w93.length 1), (48, aI64 2), (49, aI64 x_96)], [.own (marks_95.flatMap (iC .i64)), .own (w93.flatMap (iC .i64))]⟩) (Q := fun x st' => x = .exit 2 ∧ Wk 0 st' ⟨mkS 145 0 [(0, aI64 n'), (2, aI64 size), (3, sI64 at'), (10, aI64 (wrapF .i64 (4 * focal))), (11, .hs 0 0 marks_104.length 1), (29, sI64 at'), (30, aI64 (at'.length : Int)), (31, aI64 x_61)], [.own (marks_104.flatMap (iC .i64))]⟩) hL114 ((Wk.gc [0, 2, 3, 10, 11, 29, 30, 31, 47, 48, 49] [(0, false), (1, false)] rfl (pKo (iC .i64) (iC_pure _) marks_60 (pKo (iC .i64) (iC_pure _) w93 trivial))).to) ?_ ?_
   ·clear hr
    rintro m ⟨marks_95, x_96⟩ hr
    show CQ _ _ _ _ _ ⟨_, _⟩
    refine .seq (.r4 G [0, 2, 3, 10, 11, 29, 30, 31, 47, 48, 49] [(50, aB (decide (x_96 < 2)))] (.seq ?_))
    refine .cd hr (fun hb107 hr => ?_) (fun hb107 hr => ?_)
    ·refine .skip (.seq (.block (.seq ?_)))
     obtain ⟨hg108, hr⟩ := gd hr
     refine .r0 G (.p0 (v := .hp 1 (0 + x_96.toNat * 1)) (tr (ofP_guard hg108)) (.p0 (v := aI64 (gt w93 x_96)) (tr (ofP_some (flat_get (iC_len .i64) (inR_lt hg108) (by decide : 0 < 1) (by omega : 0 + x_96.toNat * 1 = x_96.toNat * 1 + 0) (by kernel_rfl)))) (.mu 1 (.done (.nh [0, 2, 3, 10, 11, 15, 29, 30, 31, 47, 48, 49] [.own (marks_95.flatMap (iC .i64)), .own (w93.flatMap (iC .i64))] (.seq ?_))))))
     rcases Bool.eq_false_or_eq_true (decide ((gt w93 x_96) > 0)) with hb109 | hb109
     ·replace hr := cd_t hb109 hr
      refine .r0 G (.mu 1 (.p0 (v := aB true) (eB hb109) (.mu 7 (.done (.nh [0, 2, 3, 10, 11, 15, 29, 30, 31, 47, 48, 49, 61] [.own (marks_95.flatMap (iC .i64)), .own (w93.flatMap (iC .i64))] ?_)))))
      refine .cd hr (fun hb110 hr => ?_) (fun hb110 hr => ?_)
      ·obtain ⟨hg111, hg112, hr⟩ := gd2 hr
       refine .r0 G (.mu 3 (.e0 (v := .hs 3 0 (marks_95 ++ [(gt w93 x_96)]).length 1) (ws := [(0, .dead), (3, .own ((marks_95 ++ [(gt w93 x_96)]).flatMap (iC .i64)))]) (tr (app_own (new := [aI64 (gt w93 x_96)]) (l := marks_95) (xs := [(gt w93 x_96)]) (iC_len .i64) rfl rfl (by kernel_rfl) hg111 hg112)) (.mu 1 (.done (.pop (.ru G ?_))))))
       exact loopF_back (marks_95 ++ [(gt w93 x_96)], wrapF .i64 (x_96 + 1)) hr ((Wk.gc [0, 2, 3, 10, 11, 29, 30, 31, 47, 48, 49] [(3, false), (1, false)] rfl (pKo (iC .i64) (iC_pure _) (marks_95 ++ [(gt w93 x_96)]) (pKo (iC .i64) (iC_pure _) w93 trivial))).to)
      ·refine .skip (.pop (.ru G ?_))
       exact loopF_back (marks_95, wrapF .i64 (x_96 + 1)) hr ((Wk.gc [0, 2, 3, 10, 11, 29, 30, 31, 47, 48, 49] [(0, false), (1, false)] rfl (pKo (iC .i64) (iC_pure _) marks_95 (pKo (iC .i64) (iC_pure _) w93 trivial))).to)
     ·replace hr := cd_f hb109 hr
      refine .r0 G (.mu 1 (.p0 (v := aB false) (eB hb109) (.mu 7 (.done (.nh [0, 2, 3, 10, 11, 15, 29, 30, 31, 47, 48, 49, 61] [.own (marks_95.flatMap (iC .i64)), .own (w93.flatMap (iC .i64))] (.cF (by kernel_rfl) (.skip (.pop (.ru G ?_)))))))))
      exact loopF_back (marks_95, wrapF .i64 (x_96 + 1)) hr ((Wk.gc [0, 2, 3, 10, 11, 29, 30, 31, 47, 48, 49] [(0, false), (1, false)] rfl (pKo (iC .i64) (iC_pure _) marks_95 (pKo (iC .i64) (iC_pure _) w93 trivial))).to)
    ·refine .leave rfl ?_
     obtain rfl := oi hr
     exact ⟨rfl, ((Wk.gc [0, 2, 3, 10, 11, 29, 30, 31] [(0, false)] rfl (pKo (iC .i64) (iC_pure _) marks_95 trivial)).to)⟩
   ·rintro x st' hq115
    clear hL114
    obtain ⟨rfl, hq115⟩ := hq115
    refine CQ_exit _ rfl (.pop (.wk hq115 (.ru G ?_)))
    exact loopF_back (marks_104, wrapF .i64 (x_61 + 1)) hr ((Wk.gc [0, 2, 3, 10, 11, 29, 30, 31] [(0, false)] rfl (pKo (iC .i64) (iC_pure _) marks_104 trivial)).to)
  ·refine .leave rfl ?_
   obtain rfl := oi hr
   exact ⟨rfl, ((Wk.gc [2, 3, 10, 11] [(0, false)] rfl (pKo (iC .i64) (iC_pure _) marks_60 trivial)).to)⟩
 ·rintro x st' hq118
  clear hL117
  obtain ⟨rfl, hq118⟩ := hq118
  refine CQ_exit _ rfl (.wk hq118 (.seq ?_))
  obtain ⟨v119, hc120, hr⟩ := bd hr
  obtain ⟨hg121, hr⟩ := gd hr
  refine .g1 G (callOk_mutU (args := [.hs 0 0 marks_88.length 1]) 1 0 [(0, false)] [false] (slices_Sort_int_int_w_ok n marks_88 v119 hc120) (by exact ⟨ids_flat (iC_pure _) _, trivial⟩) (by exact ⟨ids_flat (iC_pure _) _, trivial⟩) rfl rfl (by kernel_rfl) (by kernel_rfl)) (.mu 1 (.ca cf0 (.done (.nh [2, 3, 10, 11] [.own (v119.flatMap (iC .i64))] (.seq ?_)))))
  obtain ⟨v122, hc123, hr⟩ := bd hr
  refine .g1 G (callOk_mutU (args := [.hs 0 0 marks_88.length 1]) 1 0 [(0, false)] [false] (slices_Compact_int_int_w_ok n v119 v122 hc123) (by exact ⟨ids_flat (iC_pure _) _, trivial⟩) (by exact ⟨ids_flat (iC_pure _) _, trivial⟩) rfl rfl (by rw [(of_decide_eq_true hg121)]; kernel_rfl) (by kernel_rfl)) <| .mu 1 <| .ca cf0 <| .mu 1 <| .done <| .nh [2, 3, 10, 11] [.own (v122.flatMap (iC .i64))] <| .seq <| .seq <| .r4 G [2, 3, 10, 11] [(74, aI64 (wrapF .i64 ((v122.length : Int) - 1))), (75, aI64 0)] <| .block ?_
  replace hr := bd hr; obtain ⟨marks_151, hL160, hr⟩ := hr
  refine .loopO (σ := fun z0 => match z0 with | (marks_143, x_144) => ⟨mkS 145 0 [(2, aI64 size), (3, sI64 at'), (10, aI64 (wrapF .i64 (4 * focal))), (11, .hs 0 0 marks_143.length 1), (74, aI64 (wrapF .i64 ((v122.length : Int) - 1))), (75, aI64 x_144)], [.own (marks_143.flatMap (iC .i64))]⟩) (Q := fun x st' => x = .exit 4 ∧ Wk 0 st' ⟨mkS 145 0 [(2, aI64 size), (3, sI64 at'), (10, aI64 (wrapF .i64 (4 * focal))), (11, .hs 0 0 marks_151.length 1)], [.own (marks_151.flatMap (iC .i64))]⟩) hL160 ((Wk.gc [2, 3, 10, 11, 74, 75] [(0, false)] rfl (pKo (iC .i64) (iC_pure _) v122 trivial)).to) ?_ ?_
  ·clear hr
   rintro m ⟨marks_143, x_144⟩ hr
   show CQ _ _ _ _ _ ⟨_, _⟩
   refine .seq (.r4 G [2, 3, 10, 11, 74, 75] [(76, aB (decide (x_144 < (wrapF .i64 ((v122.length : Int) - 1)))))] (.seq ?_))
   refine .cd hr (fun hb154 hr => ?_) (fun hb154 hr => ?_)
   ·refine .skip (.seq (.block (.seq (.r4 G [2, 3, 10, 11, 74, 75] [(16, aI64 x_144)] ?_))))
    obtain ⟨hg155, hg156, hg157, hr⟩ := gd3 hr
    obtain ⟨hg158, hr⟩ := gd hr
    refine .regionT G callOf_nil (.mu 3 (.pure (v := .hp 0 (0 + x_144.toNat * 1)) (by kernel_rfl) (tr (ofP_guard hg155)) (by kernel_rfl) (.pure (v := aI64 (gt marks_143 x_144)) (by kernel_rfl) (tr (ofP_some (flat_get (iC_len .i64) (inR_lt hg155) (by decide : 0 < 1) (by omega : 0 + x_144.toNat * 1 = x_144.toNat * 1 + 0) (by kernel_rfl)))) (by kernel_rfl) (.mu 3 (.pure (v := .hp 0 (0 + (wrapF .i64 (x_144 + 1)).toNat * 1)) (by kernel_rfl) (tr (ofP_guard hg156)) (by kernel_rfl) (.pure (v := aI64 (gt marks_143 (wrapF .i64 (x_144 + 1)))) (by kernel_rfl) (tr (ofP_some (flat_get (iC_len .i64) (inR_lt hg156) (by decide : 0 < 1) (by omega : 0 + (wrapF .i64 (x_144 + 1)).toNat * 1 = (wrapF .i64 (x_144 + 1)).toNat * 1 + 0) (by kernel_rfl)))) (by kernel_rfl) (.mu 3 (.eff (v := .hs 2 0 (marks_143 ++ [wrapF .i64 ((wrapF .i64 ((gt marks_143 x_144) + (gt marks_143 (wrapF .i64 (x_144 + 1))))).tdiv 2)]).length 1) (ws := [(0, .dead), (2, .own ((marks_143 ++ [wrapF .i64 ((wrapF .i64 ((gt marks_143 x_144) + (gt marks_143 (wrapF .i64 (x_144 + 1))))).tdiv 2)]).flatMap (iC .i64)))]) (by kernel_rfl) (tr (app_own (new := [aI64 (wrapF .i64 ((wrapF .i64 ((gt marks_143 x_144) + (gt marks_143 (wrapF .i64 (x_144 + 1))))).tdiv 2))]) (l := marks_143) (xs := [wrapF .i64 ((wrapF .i64 ((gt marks_143 x_144) + (gt marks_143 (wrapF .i64 (x_144 + 1))))).tdiv 2)]) (iC_len .i64) rfl rfl (by kernel_rfl) hg157 hg158)) (by kernel_rfl) (.mu 1 ?_)))))))))
    refine .done ⟨by kernel_rfl, ?_⟩
    refine .pop (.ru G ?_)
    exact loopF_back (marks_143 ++ [wrapF .i64 ((wrapF .i64 ((gt marks_143 x_144) + (gt marks_143 (wrapF .i64 (x_144 + 1))))).tdiv 2)], wrapF .i64 (x_144 + 1)) hr ((Wk.gc [2, 3, 10, 11, 74, 75] [(2, false)] rfl (pKo (iC .i64) (iC_pure _) (marks_143 ++ [wrapF .i64 ((wrapF .i64 ((gt marks_143 x_144) + (gt marks_143 (wrapF .i64 (x_144 + 1))))).tdiv 2)]) trivial)).to)
   ·refine .leave rfl ?_
    obtain rfl := oi hr
    exact ⟨rfl, ((Wk.gc [2, 3, 10, 11] [(0, false)] rfl (pKo (iC .i64) (iC_pure _) marks_143 trivial)).to)⟩
  ·rintro x st' hq161
   clear hL160
   obtain ⟨rfl, hq161⟩ := hq161
   refine CQ_exit _ rfl (.wk hq161 (.seq ?_))
   obtain ⟨v162, hc163, hr⟩ := bd hr
   obtain ⟨hg164, hr⟩ := gd hr
   refine .g1 G (callOk_mutU (args := [.hs 0 0 marks_151.length 1]) 1 0 [(0, false)] [false] (slices_Sort_int_int_w_ok n marks_151 v162 hc163) (by exact ⟨ids_flat (iC_pure _) _, trivial⟩) (by exact ⟨ids_flat (iC_pure _) _, trivial⟩) rfl rfl (by kernel_rfl) (by kernel_rfl)) (.mu 1 (.ca cf0 (.done (.nh [2, 3, 10, 11] [.own (v162.flatMap (iC .i64))] (.seq ?_)))))
   obtain ⟨hg165, hg166, hg167, hr⟩ := gd3 hr
   refine .r0 G (.mu 2 (.e0 (v := .hs 1 0 (List.replicate (marks_151.length : Int).toNat (A4.mk 0 0 0 0 : A4 Int)).length 4) (ws := [(1, .own ((List.replicate (marks_151.length : Int).toNat (A4.mk 0 0 0 0 : A4 Int)).flatMap A4_plan_set.c))]) (tr (make_own (c := A4_plan_set.c) (z := (A4.mk 0 0 0 0 : A4 Int)) (n := (marks_151.length : Int)) (by_ := 32) rfl hg165 hg166 hg167)) (.mu 1 (.done (.nh [2, 3, 10, 11, 17] [.own (v162.flatMap (iC .i64)), .own ((List.replicate (marks_151.length : Int).toNat (A4.mk 0 0 0 0 : A4 Int)).flatMap A4_plan_set.c)] (.seq (.seq (.r4 G [2, 3, 10, 11, 17] [(98, .hs 0 0 marks_151.length 1), (99, aI64 (marks_151.length : Int)), (100, aI64 0)] (.block ?_)))))))))
   replace hr := bd hr; obtain ⟨sets_208, hL249, hr⟩ := hr
   refine .loopO (σ := fun z0 => match z0 with | (sets_168, x_169) => ⟨mkS 145 0 [(2, aI64 size), (3, sI64 at'), (10, aI64 (wrapF .i64 (4 * focal))), (11, .hs 0 0 v162.length 1), (17, .hs 1 0 sets_168.length 4), (98, .hs 0 0 v162.length 1), (99, aI64 (marks_151.length : Int)), (100, aI64 x_169)], [.own (v162.flatMap (iC .i64)), .own (sets_168.flatMap A4_plan_set.c)]⟩) (Q := fun x st' => x = .exit 6 ∧ Wk 0 st' ⟨mkS 145 0 [(11, .hs 0 0 v162.length 1), (17, .hs 1 0 sets_208.length 4)], [.own (v162.flatMap (iC .i64)), .own (sets_208.flatMap A4_plan_set.c)]⟩) hL249 ((Wk.relen 11 (b := 0) (es := 1) (len := marks_151.length) v162.length (by kernel_rfl) (Eq.symm (of_decide_eq_true hg164))).trans ((Wk.relen 98 (b := 0) (es := 1) (len := marks_151.length) v162.length (by kernel_rfl) (Eq.symm (of_decide_eq_true hg164))).trans ((Wk.gc [2, 3, 10, 11, 17, 98, 99, 100] [(0, false), (1, false)] rfl (pKo (iC .i64) (iC_pure _) v162 (pKo A4_plan_set.c A4_plan_set.pure (List.replicate (marks_151.length : Int).toNat (A4.mk 0 0 0 0 : A4 Int)) trivial))).to))) ?_ ?_
   ·clear hr
    rintro m ⟨sets_168, x_169⟩ hr
    show CQ _ _ _ _ _ ⟨_, _⟩
    refine .seq (.r4 G [2, 3, 10, 11, 17, 98, 99, 100] [(101, aB (decide (x_169 < (marks_151.length : Int))))] (.seq ?_))
    refine .cd hr (fun hb211 hr => ?_) (fun hb211 hr => ?_)
    ·refine .skip (.seq (.block (.seq ?_)))
     obtain ⟨hg212, hr⟩ := gd hr
     refine .r0 G (.mu 1 (.p0 (v := .hp 0 (0 + x_169.toNat * 1)) (tr (ofP_guard hg212)) (.p0 (v := aI64 (gt v162 x_169)) (tr (ofP_some (flat_get (iC_len .i64) (inR_lt hg212) (by decide : 0 < 1) (by omega : 0 + x_169.toNat * 1 = x_169.toNat * 1 + 0) (by kernel_rfl)))) (.mu 2 (.done (.nh [2, 3, 10, 11, 17, 18, 19, 98, 99, 100] [.own (v162.flatMap (iC .i64)), .own (sets_168.flatMap A4_plan_set.c)] (.seq (.r4 G [2, 3, 10, 11, 17, 18, 19, 98, 99, 100] [(105, sI64 at'), (106, aI64 (at'.length : Int)), (107, aI64 0)] (.block ?_)))))))))
     replace hr := bd hr; obtain ⟨sets_229, hL246, hr⟩ := hr
     refine .loopO (σ := fun z0 => match z0 with | (sets_213, x_214) => ⟨mkS 145 0 [(2, aI64 size), (3, sI64 at'), (10, aI64 (wrapF .i64 (4 * focal))), (11, .hs 0 0 v162.length 1), (17, .hs 1 0 sets_213.length 4), (18, aI64 x_169), (19, aI64 (gt v162 x_169)), (98, .hs 0 0 v162.length 1), (99, aI64 (marks_151.length : Int)), (100, aI64 x_169), (105, sI64 at'), (106, aI64 (at'.length : Int)), (107, aI64 x_214)], [.own (v162.flatMap (iC .i64)), .own (sets_213.flatMap A4_plan_set.c)]⟩) (Q := fun x st' => x = .exit 8 ∧ Wk 0 st' ⟨mkS 145 0 [(2, aI64 size), (3, sI64 at'), (10, aI64 (wrapF .i64 (4 * focal))), (11, .hs 0 0 v162.length 1), (17, .hs 1 0 sets_229.length 4), (98, .hs 0 0 v162.length 1), (99, aI64 (marks_151.length : Int)), (100, aI64 x_169)], [.own (v162.flatMap (iC .i64)), .own (sets_229.flatMap A4_plan_set.c)]⟩) hL246 ((Wk.gc [2, 3, 10, 11, 17, 18, 19, 98, 99, 100, 105, 106, 107] [(0, false), (1, false)] rfl (pKo (iC .i64) (iC_pure _) v162 (pKo A4_plan_set.c A4_plan_set.pure sets_168 trivial))).to) ?_ ?_
     ·clear hr
      rintro m ⟨sets_213, x_214⟩ hr
      show CQ _ _ _ _ _ ⟨_, _⟩
      refine .seq (.r4 G [2, 3, 10, 11, 17, 18, 19, 98, 99, 100, 105, 106, 107] [(108, aB (decide (x_214 < (at'.length : Int))))] (.seq ?_))
      refine .cd hr (fun hb232 hr => ?_) (fun hb232 hr => ?_)
      ·refine .skip (.seq (.block (.seq ?_)))
       obtain ⟨hg233, hr⟩ := gd hr
       refine .r0 G (.mu 1 (.p0 (v := .pp (at'.flatMap (iC .i64)) (x_214.toNat * 1)) (tr (ofP_guard hg233)) (.p0 (v := aI64 (gt at' x_214)) (tr (ofP_some (flat_get (iC_len .i64) (inR_lt hg233) (by decide : 0 < 1) (by omega : x_214.toNat * 1 = x_214.toNat * 1 + 0) (by kernel_rfl)))) (.mu 2 (.done (.nh [2, 3, 10, 11, 17, 18, 19, 20, 21, 98, 99, 100, 105, 106, 107] [.own (v162.flatMap (iC .i64)), .own (sets_213.flatMap A4_plan_set.c)] (.seq (.r4 G [2, 3, 10, 11, 17, 18, 19, 20, 98, 99, 100, 105, 106, 107] [(22, aI64 (wrapF .i64 ((gt v162 x_169) - (wrapF .i64 ((gt at' x_214) * (wrapF .i64 (4 * focal)))))))] ?_))))))))
       obtain ⟨w234, hw235, hr⟩ := bd hr
       refine .wk ((Wk.refl _).to (c := ⟨mkS 145 0 [(2, aI64 size), (3, sI64 at'), (10, aI64 (wrapF .i64 (4 * focal))), (11, .hs 0 0 v162.length 1), (17, .hs 1 0 sets_213.length 4), (18, aI64 x_169), (19, aI64 (gt v162 x_169)), (20, aI64 x_214), (22, aI64 w234), (98, .hs 0 0 v162.length 1), (99, aI64 (marks_151.length : Int)), (100, aI64 x_169), (105, sI64 at'), (106, aI64 (at'.length : Int)), (107, aI64 x_214)], [.own (v162.flatMap (iC .i64)), .own (sets_213.flatMap A4_plan_set.c)]⟩) (by rw [oi hw235]; first | done | kernel_rfl)) <| .seq ?_
       replace hr := bd hr; obtain ⟨x_236, hL239, hr⟩ := hr
       refine .app1 (Q := fun x st' => x = .normal ∧ Wk 0 st' ⟨mkS 145 0 [(2, aI64 size), (3, sI64 at'), (10, aI64 (wrapF .i64 (4 * focal))), (11, .hs 0 0 v162.length 1), (17, .hs 1 0 sets_213.length 4), (18, aI64 x_169), (19, aI64 (gt v162 x_169)), (20, aI64 x_214), (98, .hs 0 0 v162.length 1), (99, aI64 (marks_151.length : Int)), (100, aI64 x_169), (105, sI64 at'), (106, aI64 (at'.length : Int)), (107, aI64 x_214), (127, aB x_236)], [.own (v162.flatMap (iC .i64)), .own (sets_213.flatMap A4_plan_set.c)]⟩) ?_ ?_
       ·clear hr
        have hr := hL239
        clear hL239
        rcases Bool.eq_false_or_eq_true (decide (w234 ≤ (wrapF .i64 (2 * size)))) with hb237 | hb237
        ·replace hr := cd_t hb237 hr
         refine .r0 G (.mu 3 (.p0 (v := aB true) (eB hb237) (.mu 2 (.pure (v := aI64 (wrapF .i64 (0 - w234))) (by kernel_rfl) (Eq.trans (b := some (.pure (aI64 (IntKind.wrap .i64 (0 - w234))))) (by kernel_rfl) wrap_at) (.mu 4 (.done ?_))))))
         obtain rfl := oi hr
         exact ⟨rfl, ((Wk.gc [2, 3, 10, 11, 17, 18, 19, 20, 98, 99, 100, 105, 106, 107, 127] [(0, false), (1, false)] rfl (pKo (iC .i64) (iC_pure _) v162 (pKo A4_plan_set.c A4_plan_set.pure sets_213 trivial))).to)⟩
        ·replace hr := cd_f hb237 hr
         refine .r0 G (.mu 3 (.p0 (v := aB false) (eB hb237) (.mu 7 (.done ?_))))
         obtain rfl := oi hr
         exact ⟨rfl, ((Wk.gc [2, 3, 10, 11, 17, 18, 19, 20, 98, 99, 100, 105, 106, 107, 127] [(0, false), (1, false)] rfl (pKo (iC .i64) (iC_pure _) v162 (pKo A4_plan_set.c A4_plan_set.pure sets_213 trivial))).to)⟩
       ·rintro x st' hq240
        clear hL239
        obtain ⟨rfl, hq240⟩ := hq240
        refine .wk hq240 ?_
        refine .cd hr (fun hb241 hr => ?_) (fun hb241 hr => ?_)
        ·obtain ⟨hg242, hg243, hg244, hr⟩ := gd3 hr
         refine .regionT G callOf_nil (.mu 4 (.pure (v := .hp 1 (0 + x_169.toNat * 4)) (by kernel_rfl) (tr (ofP_guard hg242)) (by kernel_rfl) (.pure (v := .hp 1 (0 + x_169.toNat * 4 + (wrapF .i64 (x_214.tdiv 64)).toNat * 1)) (by kernel_rfl) (tr (ofP_guard hg243)) (by kernel_rfl) (.pure (v := aU64 (A4.get (gt sets_213 x_169) (wrapF .i64 (x_214.tdiv 64)))) (by kernel_rfl) (tr (ofP_some (flat_getA (k := .u64) (kk := 0) (xs := [(gt sets_213 x_169).e0, (gt sets_213 x_169).e1, (gt sets_213 x_169).e2, (gt sets_213 x_169).e3]) A4_plan_set.len (inR_lt hg242) hg243 (by omega : 0 + x_169.toNat * 4 + (wrapF .i64 (x_214.tdiv 64)).toNat * 1 = x_169.toNat * 4 + 0 + (wrapF .i64 (x_214.tdiv 64)).toNat * 1) (Nat.le_of_ble_eq_true rfl) (by kernel_rfl)))) (by kernel_rfl) (.mu 2 (.pure (v := aU64 (shlF .u64 (1 : Int) (x_214.tmod 64))) (by kernel_rfl) (op_shl (k := .u64) (k' := .i64) (x := 1) (y := x_214.tmod 64) (by kernel_rfl) (by kernel_rfl) hg244) (by kernel_rfl) (.mu 1 (.pure (v := .hp 1 (0 + x_169.toNat * 4)) (by kernel_rfl) (tr (ofP_guard hg242)) (by kernel_rfl) (.pure (v := .hp 1 (0 + x_169.toNat * 4 + (wrapF .i64 (x_214.tdiv 64)).toNat * 1)) (by kernel_rfl) (tr (ofP_guard hg243)) (by kernel_rfl) (.eff (v := .unk) (ws := [(1, .own ((sets_213.set x_169.toNat (A4.put (gt sets_213 x_169) (wrapF .i64 (x_214.tdiv 64)) (bitO .or .u64 (A4.get (gt sets_213 x_169) (wrapF .i64 (x_214.tdiv 64))) (shlF .u64 (1 : Int) (x_214.tmod 64))))).flatMap A4_plan_set.c))]) (by kernel_rfl) (tr (stO_t (and_t (flat_fits (n := 1) A4_plan_set.len (inR_lt hg242) (Nat.succ_le_of_lt (inR_lt hg243)) (by omega : 0 + x_169.toNat * 4 + (wrapF .i64 (x_214.tdiv 64)).toNat * 1 = x_169.toNat * 4 + (wrapF .i64 (x_214.tdiv 64)).toNat))) (congrArg Blk.own (flat_set (xs := [aU64 (bitO .or .u64 (A4.get (gt sets_213 x_169) (wrapF .i64 (x_214.tdiv 64))) (shlF .u64 (1 : Int) (x_214.tmod 64)))]) A4_plan_set.len (inR_lt hg242) (Nat.succ_le_of_lt (inR_lt hg243)) (by omega : 0 + x_169.toNat * 4 + (wrapF .i64 (x_214.tdiv 64)).toNat * 1 = x_169.toNat * 4 + (wrapF .i64 (x_214.tdiv 64)).toNat) (A4.put_c (gt sets_213 x_169) (bitO .or .u64 (A4.get (gt sets_213 x_169) (wrapF .i64 (x_214.tdiv 64))) (shlF .u64 (1 : Int) (x_214.tmod 64))) hg243))))) (by kernel_rfl) ?_))))))))))
         refine .done ⟨by kernel_rfl, ?_⟩
         refine .pop (.ru G ?_)
         exact loopF_back (sets_213.set x_169.toNat (A4.put (gt sets_213 x_169) (wrapF .i64 (x_214.tdiv 64)) (bitO .or .u64 (A4.get (gt sets_213 x_169) (wrapF .i64 (x_214.tdiv 64))) (shlF .u64 (1 : Int) (x_214.tmod 64)))), wrapF .i64 (x_214 + 1)) hr ((Wk.relen 17 (b := 1) (es := 4) (len := sets_213.length) (sets_213.set x_169.toNat (A4.put (gt sets_213 x_169) (wrapF .i64 (x_214.tdiv 64)) (bitO .or .u64 (A4.get (gt sets_213 x_169) (wrapF .i64 (x_214.tdiv 64))) (shlF .u64 (1 : Int) (x_214.tmod 64))))).length (by kernel_rfl) (Eq.symm (List.length_set.trans rfl))).trans ((Wk.gc [2, 3, 10, 11, 17, 18, 19, 98, 99, 100, 105, 106, 107] [(0, false), (1, false)] rfl (pKo (iC .i64) (iC_pure _) v162 (pKo A4_plan_set.c A4_plan_set.pure (sets_213.set x_169.toNat (A4.put (gt sets_213 x_169) (wrapF .i64 (x_214.tdiv 64)) (bitO .or .u64 (A4.get (gt sets_213 x_169) (wrapF .i64 (x_214.tdiv 64))) (shlF .u64 (1 : Int) (x_214.tmod 64))))) trivial))).to))
        ·refine .skip (.pop (.ru G ?_))
         exact loopF_back (sets_213, wrapF .i64 (x_214 + 1)) hr ((Wk.gc [2, 3, 10, 11, 17, 18, 19, 98, 99, 100, 105, 106, 107] [(0, false), (1, false)] rfl (pKo (iC .i64) (iC_pure _) v162 (pKo A4_plan_set.c A4_plan_set.pure sets_213 trivial))).to)
      ·refine .leave rfl ?_
       obtain rfl := oi hr
       exact ⟨rfl, ((Wk.gc [2, 3, 10, 11, 17, 98, 99, 100] [(0, false), (1, false)] rfl (pKo (iC .i64) (iC_pure _) v162 (pKo A4_plan_set.c A4_plan_set.pure sets_213 trivial))).to)⟩
     ·rintro x st' hq247
      clear hL246
      obtain ⟨rfl, hq247⟩ := hq247
      refine CQ_exit _ rfl (.pop (.wk hq247 (.ru G ?_)))
      exact loopF_back (sets_229, wrapF .i64 (x_169 + 1)) hr ((Wk.gc [2, 3, 10, 11, 17, 98, 99, 100] [(0, false), (1, false)] rfl (pKo (iC .i64) (iC_pure _) v162 (pKo A4_plan_set.c A4_plan_set.pure sets_229 trivial))).to)
    ·refine .leave rfl ?_
     obtain rfl := oi hr
     exact ⟨rfl, ((Wk.gc [11, 17] [(0, false), (1, false)] rfl (pKo (iC .i64) (iC_pure _) v162 (pKo A4_plan_set.c A4_plan_set.pure sets_168 trivial))).to)⟩
   ·rintro x st' hq250
    clear hL249
    obtain ⟨rfl, hq250⟩ := hq250
    refine CQ_exit _ rfl (.wk hq250 (.seq (.r4 G [] [(8, .hs 0 0 v162.length 1), (9, .hs 1 0 sets_208.length 4)] (.ret ?_))))
    obtain rfl := oi hr
    exact FinQ.ret (vs := [.hs 0 0 v162.length 1, .hs 1 0 sets_208.length 4]) (by kernel_rfl) (Sn.tup (SnL.cons (Sn.hs rfl (.inl rfl) (SnC.pure (ids_flat (iC_pure _) _)) (fun h => flat_nil0 h)) (SnL.cons (Sn.hs rfl (.inl rfl) (SnC.pure (ids_flat A4_plan_set.pure _)) (fun h => flat_nil0 h)) SnL.nil)))

theorem math_bits_OnesCount64_ok (n : Nat) (x' : Int) (r : Int) (hr : math_bits_OnesCount64 n x' = some r) : FnOk Tryz.prog 73 [aU64 x'] (aI64 r) := by
 unfold math_bits_OnesCount64 at hr
 refine FnOk.bd G Tryz.func73 [.tmp 2] ?_
 unfold Tryz.f73
 simp only [Option.getD_some]
 refine .seq (.r4 G [0] [] (.seq (.r3 G 35 [(0, aU64 (wrapF .u64 ((bitO .and .u64 (x'.fdiv (2 ^ 1)) 6148914691236517205) + (bitO .and .u64 x' 6148914691236517205))))] ?_)))
 obtain ⟨w1, hw2, hr⟩ := bd hr
 refine .wk ((Wk.refl _).to (c := ⟨mkS 35 0 [(0, aU64 w1)], []⟩) (by rw [oi hw2]; first | done | kernel_rfl)) <| .seq <| .r3 G 35 [(0, aU64 (wrapF .u64 ((bitO .and .u64 (w1.fdiv (2 ^ 2)) 3689348814741910323) + (bitO .and .u64 w1 3689348814741910323))))] ?_
 obtain ⟨w3, hw4, hr⟩ := bd hr
 refine .wk ((Wk.refl _).to (c := ⟨mkS 35 0 [(0, aU64 w3)], []⟩) (by rw [oi hw4]; first | done | kernel_rfl)) <| .seq <| .r3 G 35 [(0, aU64 (bitO .and .u64 (wrapF .u64 ((w3.fdiv (2 ^ 4)) + w3)) 1085102592571150095))] ?_
 obtain ⟨w5, hw6, hr⟩ := bd hr
 refine .wk ((Wk.refl _).to (c := ⟨mkS 35 0 [(0, aU64 w5)], []⟩) (by rw [oi hw6]; first | done | kernel_rfl)) <| .seq <| .r3 G 35 [(0, aU64 (wrapF .u64 (w5 + (w5.fdiv (2 ^ 8)))))] <| .seq <| .r3 G 35 [(0, aU64 (wrapF .u64 ((wrapF .u64 (w5 + (w5.fdiv (2 ^ 8)))) + ((wrapF .u64 (w5 + (w5.fdiv (2 ^ 8)))).fdiv (2 ^ 16)))))] ?_
 obtain ⟨w7, hw8, hr⟩ := bd hr
 refine .wk ((Wk.refl _).to (c := ⟨mkS 35 0 [(0, aU64 w7)], []⟩) (by rw [oi hw8]; first | done | kernel_rfl)) <| .seq <| .r3 G 35 [(0, aU64 (wrapF .u64 (w7 + (w7.fdiv (2 ^ 32)))))] <| .seq <| .ru G <| .ret ?_
 obtain rfl := oi hr
 exact FinQ.r1 [aI64 (bitO .and .i64 (wrapF .i64 (wrapF .u64 (w7 + (w7.fdiv (2 ^ 32))))) 127)]

theorem plan_shared_ok (n : Nat) (a : A4 Int) (b : A4 Int) (r : Int) (hr : plan_shared n a b = some r) : FnOk Tryz.prog 56 [.pp [aU64 a.e0, aU64 a.e1, aU64 a.e2, aU64 a.e3] 0, .pp [aU64 b.e0, aU64 b.e1, aU64 b.e2, aU64 b.e3] 0] (aI64 r) := by
 unfold plan_shared at hr
 refine FnOk.bd G Tryz.func56 [.tmp 4] ?_
 unfold Tryz.f56
 simp only [Option.getD_some]
 refine .seq (.r4 G [0, 1] [] (.seq (.r4 G [0, 1] [(5, aI64 0)] (.seq (.seq (.r4 G [1, 5] [(8, .pp [aU64 a.e0, aU64 a.e1, aU64 a.e2, aU64 a.e3] 0), (9, aI64 0)] (.block ?_)))))))
 replace hr := bd hr; obtain ⟨n_8, hL16, hr⟩ := hr
 refine .loopO (σ := fun z0 => match z0 with | (n_1, x_2) => ⟨mkS 27 0 [(1, .pp [aU64 b.e0, aU64 b.e1, aU64 b.e2, aU64 b.e3] 0), (5, aI64 n_1), (8, .pp [aU64 a.e0, aU64 a.e1, aU64 a.e2, aU64 a.e3] 0), (9, aI64 x_2)], []⟩) (Q := fun x st' => x = .exit 0 ∧ Wk 0 st' ⟨mkS 27 0 [(5, aI64 n_8)], []⟩) hL16 ((Wk.gc [1, 5, 8, 9] [] rfl pK0).to) ?_ ?_
 ·clear hr
  rintro m ⟨n_1, x_2⟩ hr
  show CQ _ _ _ _ _ ⟨_, _⟩
  refine .seq (.r4 G [1, 5, 8, 9] [(10, aB (decide (x_2 < 4)))] (.seq ?_))
  refine .cd hr (fun hb11 hr => ?_) (fun hb11 hr => ?_)
  ·refine .skip (.seq (.block (.seq ?_)))
   obtain ⟨hg12, hr⟩ := gd hr
   refine .regionT G callOf_nil (.mu 2 (.pure (v := .pp [aU64 a.e0, aU64 a.e1, aU64 a.e2, aU64 a.e3] (0 + x_2.toNat * 1)) (by kernel_rfl) (tr (ofP_guard hg12)) (by kernel_rfl) (.pure (v := aU64 (A4.get a x_2)) (by kernel_rfl) (Eq.trans (b := ORes.ofP ([aU64 a.e0, aU64 a.e1, aU64 a.e2, aU64 a.e3][0 + x_2.toNat * 1]?)) (by kernel_rfl) (ofP_some (arr_getO (k := .u64) (kk := 0) (xs := [a.e0, a.e1, a.e2, a.e3]) hg12 rfl (by kernel_rfl)))) (by kernel_rfl) (.mu 2 ?_))))
   refine .done ⟨by kernel_rfl, ?_⟩
   refine .nh [1, 5, 6, 7, 8, 9] [] ?_
   obtain ⟨v13, hc14, hr⟩ := bd hr
   refine .g1 G (ok0 (math_bits_OnesCount64_ok n (bitO .and .u64 (A4.get a x_2) (A4.get b x_2)) v13 hc14)) (.mu 5 (.p0 (v := .pp [aU64 b.e0, aU64 b.e1, aU64 b.e2, aU64 b.e3] (0 + x_2.toNat * 1)) (tr (ofP_guard hg12)) (.p0 (v := aU64 (A4.get b x_2)) (Eq.trans (b := ORes.ofP ([aU64 b.e0, aU64 b.e1, aU64 b.e2, aU64 b.e3][0 + x_2.toNat * 1]?)) (by kernel_rfl) (ofP_some (arr_getO (k := .u64) (kk := 0) (xs := [b.e0, b.e1, b.e2, b.e3]) hg12 rfl (by kernel_rfl)))) (.mu 1 (.ca cf0 (.mu 2 (.done (.pop (.ru G ?_)))))))))
   exact loopF_back (wrapF .i64 (n_1 + v13), wrapF .i64 (x_2 + 1)) hr ((Wk.gc [1, 5, 8, 9] [] rfl pK0).to)
  ·refine .leave rfl ?_
   obtain rfl := oi hr
   exact ⟨rfl, ((Wk.gc [5] [] rfl pK0).to)⟩
 ·rintro x st' hq17
  clear hL16
  obtain ⟨rfl, hq17⟩ := hq17
  refine CQ_exit _ rfl (.wk hq17 (.seq (.ru G (.ret ?_))))
  obtain rfl := oi hr
  exact FinQ.r1 [aI64 n_8]

theorem integer_split_inj {n' : Int} {n'_ : Int} (h : ([.at (.int .u64 n')] : List AV) = [.at (.int .u64 n'_)]) : n' = n'_ := by
 simp only [List.cons.injEq, AV.agg.injEq, AV.at.injEq, Value.int.injEq, Value.bool.injEq, AV.fn.injEq, AV.pp.injEq, true_and, and_true] at h
 simp_all
theorem integer_split_cg (n : Nat) {n' : Int} {n'_ : Int} (h : ([.at (.int .u64 n')] : List AV) = [.at (.int .u64 n'_)]) : integer_split n n' = integer_split n n'_ := by
 obtain rfl := integer_split_inj h
 rfl
theorem integer_split_ok (n : Nat) (n' : Int) (r : List Int) (hr : integer_split n n' = some r) : FnOk Tryz.prog 94 [aU64 n'] (sU32 r) := by
 unfold integer_split at hr
 refine FnOk.bd G Tryz.func94 [.tmp 2] ?_
 unfold Tryz.f94
 simp only [Option.getD_some]
 refine .seq (.r4 G [0] [] (.seq (.r4 G [0] [(3, nS)] (.seq (.block ?_)))))
 replace hr := bd hr; obtain ⟨g_6, hL12, hr⟩ := hr
 refine .loopO (σ := fun z0 => match z0 with | (n_1, g_2) => ⟨mkS 15 0 [(0, aU64 n_1), (3, .hs 0 0 g_2.length 1)], [.own (g_2.flatMap (iC .u32))]⟩) (Q := fun x st' => x = .exit 0 ∧ Wk 0 st' ⟨mkS 15 0 [(3, .hs 0 0 g_6.length 1)], [.own (g_6.flatMap (iC .u32))]⟩) hL12 ((Wk.nil 3 1 (by kernel_rfl)).trans ((Wk.gc [0, 3] [(0, false)] rfl (pKc trivial)).to)) ?_ ?_
 ·clear hr
  rintro m ⟨n_1, g_2⟩ hr
  show CQ _ _ _ _ _ ⟨_, _⟩
  refine .seq (.seq (.r4 G [0, 3] [(5, aB (decide (n_1 > 0)))] ?_))
  refine .cd hr (fun hb8 hr => ?_) (fun hb8 hr => ?_)
  ·refine .skip (.seq (.block ?_))
   obtain ⟨hg9, hg10, hr⟩ := gd2 hr
   refine .r0 G (.mu 5 (.e0 (v := .hs 2 0 (g_2 ++ [wrapF .u32 (n_1.tmod 1000000000)]).length 1) (ws := [(0, .dead), (2, .own ((g_2 ++ [wrapF .u32 (n_1.tmod 1000000000)]).flatMap (iC .u32)))]) (tr (app_own (new := [aU32 (wrapF .u32 (n_1.tmod 1000000000))]) (l := g_2) (xs := [wrapF .u32 (n_1.tmod 1000000000)]) (iC_len .u32) rfl rfl (by kernel_rfl) hg9 hg10)) (.mu 1 (.done (.pop (.ru G ?_))))))
   exact loopF_back (wrapF .u64 (n_1.tdiv 1000000000), g_2 ++ [wrapF .u32 (n_1.tmod 1000000000)]) hr ((Wk.gc [0, 3] [(2, false)] rfl (pKo (iC .u32) (iC_pure _) (g_2 ++ [wrapF .u32 (n_1.tmod 1000000000)]) trivial)).to)
  ·refine .leave rfl ?_
   obtain rfl := oi hr
   exact ⟨rfl, ((Wk.gc [3] [(0, false)] rfl (pKo (iC .u32) (iC_pure _) g_2 trivial)).to)⟩
 ·rintro x st' hq13
  clear hL12
  obtain ⟨rfl, hq13⟩ := hq13
  refine CQ_exit _ rfl (.wk hq13 (.seq (.r3 G 15 [(2, .hs 0 0 g_6.length 1)] (.ret ?_))))
  obtain rfl := oi hr
  exact FinQ.ret (vs := [.hs 0 0 g_6.length 1]) (by kernel_rfl) (Sn.hs rfl (.inl rfl) (SnC.pure (ids_flat (iC_pure _) _)) (fun h => flat_nil0 h))

theorem integer_trim_ok (n : Nat) (g : List Int) (r : List Int) (hr : integer_trim n g = some r) : FnOk Tryz.prog 113 [sU32 g] (sU32 r) := by
 unfold integer_trim at hr
 refine FnOk.bd G Tryz.func113 [.tmp 2] ?_
 unfold Tryz.f113
 simp only [Option.getD_some]
 refine .seq (.r4 G [0] [] (.seq (.block ?_)))
 replace hr := bd hr; obtain ⟨g_6, hL13, hr⟩ := hr
 refine .loopO (σ := fun z0 => match z0 with | g_1 => ⟨mkS 21 0 [(0, sU32 g_1)], []⟩) (Q := fun x st' => x = .exit 0 ∧ Wk 0 st' ⟨mkS 21 0 [(0, sU32 g_6)], []⟩) hL13 ((Wk.gc [0] [] rfl pK0).to) ?_ ?_
 ·clear hr
  rintro m g_1 hr
  show CQ _ _ _ _ _ ⟨_, _⟩
  refine .seq (.seq ?_)
  rcases Bool.eq_false_or_eq_true (decide ((g_1.length : Int) > 0)) with hb8 | hb8
  ·replace hr := cd_t hb8 hr
   obtain ⟨hg9, hr⟩ := gd hr
   refine .r0 G (.mu 2 (.p0 (v := aB true) (eB hb8) (.mu 5 (.pure (v := .pp (g_1.flatMap (iC .u32)) ((wrapF .i64 ((g_1.length : Int) - 1)).toNat * 1)) (by kernel_rfl) (tr (ofP_guard hg9)) (.pure (v := aU32 (gt g_1 (wrapF .i64 ((g_1.length : Int) - 1)))) (by kernel_rfl) (tr (ofP_some (flat_get (iC_len .u32) (inR_lt hg9) (by decide : 0 < 1) (by omega : (wrapF .i64 ((g_1.length : Int) - 1)).toNat * 1 = (wrapF .i64 ((g_1.length : Int) - 1)).toNat * 1 + 0) (by kernel_rfl)))) (.mu 2 (.done (.nh [0, 14] [] ?_))))))))
   refine .cd hr (fun hb10 hr => ?_) (fun hb10 hr => ?_)
   ·refine .skip (.block ?_)
    obtain ⟨hg11, hr⟩ := gd hr
    refine .r0 G (.mu 4 (.p0 (v := sU32 ((g_1.drop (0 : Int).toNat).take ((wrapF .i64 ((g_1.length : Int) - 1)).toNat - (0 : Int).toNat))) (Eq.trans (b := slO (inS 0 (wrapF .i64 ((g_1.length : Int) - 1)) g_1.length) (0 : Int).toNat (wrapF .i64 ((g_1.length : Int) - 1)).toNat (fun z1 z2 => .sl true (((g_1.flatMap (iC .u32)).drop (z1 * 1)).take ((z2 - z1) * 1)) (z2 - z1))) (by kernel_rfl) (slO_t hg11 (sub_sl (iC_len _) (inS_le hg11)))) (.mu 1 (.done (.pop ?_)))))
    exact loopF_back ((g_1.drop (0 : Int).toNat).take ((wrapF .i64 ((g_1.length : Int) - 1)).toNat - (0 : Int).toNat)) hr ((Wk.gc [0] [] rfl pK0).to)
   ·refine .leave rfl ?_
    obtain rfl := oi hr
    exact ⟨rfl, ((Wk.gc [0] [] rfl pK0).to)⟩
  ·replace hr := cd_f hb8 hr
   refine .r0 G (.mu 2 (.p0 (v := aB false) (eB hb8) (.mu 9 (.done (.nh [0, 14] [] (.cF (by kernel_rfl) (.leave rfl ?_)))))))
   obtain rfl := oi hr
   exact ⟨rfl, ((Wk.gc [0] [] rfl pK0).to)⟩
 ·rintro x st' hq14
  clear hL13
  obtain ⟨rfl, hq14⟩ := hq14
  refine CQ_exit _ rfl (.wk hq14 (.seq (.ru G (.ret ?_))))
  obtain rfl := oi hr
  exact FinQ.r1 [sU32 g_6]

theorem integer_made_inj {negative : Bool} {g : List Int} {negative_ : Bool} {g_ : List Int} (h : ([.at (.bool negative), slT (iC .u32) g] : List AV) = [.at (.bool negative_), slT (iC .u32) g_]) : negative = negative_ ∧ g = g_ := by
 simp only [List.cons.injEq, AV.agg.injEq, AV.at.injEq, Value.int.injEq, Value.bool.injEq, AV.fn.injEq, AV.pp.injEq, true_and, and_true, slT_inj_int] at h
 simp_all
theorem integer_made_cg (n : Nat) {negative : Bool} {g : List Int} {negative_ : Bool} {g_ : List Int} (h : ([.at (.bool negative), slT (iC .u32) g] : List AV) = [.at (.bool negative_), slT (iC .u32) g_]) : integer_made n negative g = integer_made n negative_ g_ := by
 obtain ⟨rfl, rfl⟩ := integer_made_inj h
 rfl
theorem integer_made_ok (n : Nat) (negative : Bool) (g : List Int) (r : api_Int) (hr : integer_made n negative g = some r) : FnOk Tryz.prog 93 [aB negative, sU32 g] (.agg (api_Int.c r)) := by
 unfold integer_made at hr
 refine FnOk.bd G Tryz.func93 [.cell 4 50] ?_
 unfold Tryz.f93
 simp only [Option.getD_some]
 refine .seq (.r5 G [0, 1] [(4, .hp 0 0)] [.own [aB false, nS]] (.seq ?_))
 obtain ⟨v1, hc2, hr⟩ := bd hr
 refine .g1 G (ok0 (integer_trim_ok n g v1 hc2)) (.mu 1 (.ca cf0 (.mu 1 (.done (.nh [0, 1, 4] [.own [aB false, nS]] (.seq (.seq (.r4 G [0, 1, 4] [(9, aB (((v1.length : Int) : Int) == 0))] ?_))))))))
 refine .cd hr (fun hb3 hr => ?_) (fun hb3 hr => ?_)
 ·refine .seq (.r4 G [4] [] (.ret ?_))
  obtain rfl := oi hr
  exact FinQ.ret (vs := [.agg [aB false, nS]]) (by kernel_rfl) (Sn.agg (SnL.cons (Sn.pure rfl) (SnL.cons Sn.nilsl SnL.nil)))
 ·refine .skip (.seq (.r5 G [4] [] [.own [aB negative, sU32 v1]] (.ret ?_)))
  obtain rfl := oi hr
  exact FinQ.r1 [.agg [aB negative, sU32 v1]]

theorem integer_Of_cg (n : Nat) {n' : Int} {n'_ : Int} (h : ([.at (.int .i64 n')] : List AV) = [.at (.int .i64 n'_)]) : integer_Of n n' = integer_Of n n'_ := by
 obtain rfl := plan_within_inj h
 rfl
theorem integer_Of_ok (n : Nat) (n' : Int) (r : api_Int) (hr : integer_Of n n' = some r) : FnOk Tryz.prog 75 [aI64 n'] (.agg (api_Int.c r)) := by
 unfold integer_Of at hr
 refine FnOk.bd G Tryz.func75 [.cell 2 50] ?_
 unfold Tryz.f75
 simp only [Option.getD_some]
 refine .seq (.r5 G [0] [(2, .hp 0 0)] [.own [aB false, nS]] (.seq (.r4 G [0, 2] [(3, aU64 (wrapF .u64 n'))] (.seq (.seq (.r4 G [0, 2, 3] [(7, aB (decide (n' < 0)))] ?_))))))
 refine .cd hr (fun hb1 hr => ?_) (fun hb1 hr => ?_)
 ·refine .r0 G (.mu 1 (.p0 (v := aU64 (wrapF .u64 (0 - (wrapF .u64 n')))) (Eq.trans (b := some (.pure (aU64 (IntKind.wrap .u64 (0 - (wrapF .u64 n')))))) (by kernel_rfl) wrap_at) (.mu 1 (.done (.nh [0, 2, 3] [.own [aB false, nS]] (.seq ?_))))))
  obtain ⟨v2, hc3, v4, hc5, hr⟩ := bd2 hr
  refine .gn G (ca1 (ok0 (integer_split_ok n (wrapF .u64 (0 - (wrapF .u64 n'))) v2 hc3)) (ca3 (ok0 (integer_made_ok n true v2 v4 hc5)))) (.mu 1 (.p0 (v := aB true) (eB hb1) (.mu 1 (.ca cf0 (.ca (cfF cf0) (.mu 1 (.done (.nh [2] [.own (api_Int.c v4)] (.ret ?_)))))))))
  obtain rfl := oi hr
  exact FinQ.r1 [.agg (api_Int.c v4)]
 ·refine .skip (.seq ?_)
  obtain ⟨v6, hc7, v8, hc9, hr⟩ := bd2 hr
  refine .gn G (ca1 (ok0 (integer_split_ok n (wrapF .u64 n') v6 hc7)) (ca3 (ok0 (integer_made_ok n false v6 v8 hc9)))) (.mu 1 (.p0 (v := aB false) (eB hb1) (.mu 1 (.ca cf0 (.ca (cfF cf0) (.mu 1 (.done (.nh [2] [.own (api_Int.c v8)] (.ret ?_)))))))))
  obtain rfl := oi hr
  exact FinQ.r1 [.agg (api_Int.c v8)]

theorem integer_Valid_1_ok (n : Nat) (g : Int) (r : Bool) (hr : integer_Valid_1 n g = some r) : FnOk Tryz.prog 120 [aU32 g] (aB r) := by
 unfold integer_Valid_1 at hr
 refine FnOk.bd G Tryz.func120 [.tmp 2] ?_
 unfold Tryz.f120
 simp only [Option.getD_some]
 refine .seq (.r4 G [0] [] (.seq (.ru G (.ret ?_))))
 obtain rfl := oi hr
 exact FinQ.r1 [aB (decide (g ≥ 1000000000))]

theorem slices_IndexFunc_uint32_uint32_of_integer_Valid_1_ok (n : Nat) (s : List Int) (r : Int) (hr : slices_IndexFunc_uint32_uint32_of_integer_Valid_1 n s = some r) : FnOk Tryz.prog 127 [sU32 s, .fn 120 [] []] (aI64 r) := by
 unfold slices_IndexFunc_uint32_uint32_of_integer_Valid_1 at hr
 refine FnOk.bd G Tryz.func127 [.tmp 4] ?_
 unfold Tryz.f127
 simp only [Option.getD_some]
 refine .seq (.r4 G [0, 1] [] (.seq (.seq (.r4 G [0, 1] [(7, aI64 (s.length : Int)), (8, aI64 0)] (.block ?_)))))
 replace hr := bd hr; obtain ⟨o13, hL14, hr⟩ := hr
 refine .loopO (σ := fun z0 => match z0 with | x_1 => ⟨mkS 19 0 [(0, sU32 s), (1, .fn 120 [] []), (7, aI64 (s.length : Int)), (8, aI64 x_1)], []⟩) (Q := fun x st' => match (generalizing := false) o13 with | .inl _ => x = .exit 0 ∧ Wk 0 st' ⟨mkS 19 0 [], []⟩ | .inr (r0) => x = .ret ∧ FinQ Tryz.prog [.tmp 4] (aI64 r0) .ret st') hL14 ((Wk.gc [0, 1, 7, 8] [] rfl pK0).to) ?_ ?_
 ·clear hr
  rintro m x_1 hr
  show CQ _ _ _ _ _ ⟨_, _⟩
  refine .seq (.r4 G [0, 1, 7, 8] [(9, aB (decide (x_1 < (s.length : Int))))] (.seq ?_))
  refine .cd hr (fun hb8 hr => ?_) (fun hb8 hr => ?_)
  ·refine .skip (.seq (.block (.seq (.r4 G [0, 1, 7, 8] [(5, aI64 x_1)] (.seq ?_)))))
   obtain ⟨hg9, hr⟩ := gd hr
   obtain ⟨v10, hc11, hr⟩ := bd hr
   refine .g1 G (ok0 (integer_Valid_1_ok n (gt s x_1) v10 hc11)) (.mu 3 (.p0 (v := .pp (s.flatMap (iC .u32)) (x_1.toNat * 1)) (tr (ofP_guard hg9)) (.p0 (v := aU32 (gt s x_1)) (tr (ofP_some (flat_get (iC_len .u32) (inR_lt hg9) (by decide : 0 < 1) (by omega : x_1.toNat * 1 = x_1.toNat * 1 + 0) (by kernel_rfl)))) (.ca cf0 (.done (.nh [0, 1, 5, 7, 8, 16] [] ?_))))))
   refine .cd hr (fun hb12 hr => ?_) (fun hb12 hr => ?_)
   ·refine .seq (.ru G (.ret ?_))
    obtain rfl := oi hr
    exact ⟨rfl, FinQ.ret (vs := [aI64 x_1]) (by kernel_rfl) (Sn.pure rfl)⟩
   ·refine .skip (.pop (.ru G ?_))
    exact loopF_back (wrapF .i64 (x_1 + 1)) hr ((Wk.gc [0, 1, 7, 8] [] rfl pK0).to)
  ·refine .leave rfl ?_
   obtain rfl := oi hr
   exact ⟨rfl, ((Wk.gc [] [] rfl pK0).to)⟩
 ·rcases o13 with ⟨⟩ | r0
  ·rintro x st' hq15
   clear hL14
   obtain ⟨rfl, hq15⟩ := hq15
   refine CQ_exit _ rfl (.wk hq15 (.seq (.ru G (.ret ?_))))
   obtain rfl := oi hr
   exact FinQ.r1 [aI64 (-1)]
  ·rintro x st' hq15
   clear hL14
   obtain ⟨rfl, hq15⟩ := hq15
   obtain rfl := oi hr
   exact CQ_ret _ hq15

theorem slices_ContainsFunc_uint32_uint32_of_integer_Valid_1_ok (n : Nat) (s : List Int) (r : Bool) (hr : slices_ContainsFunc_uint32_uint32_of_integer_Valid_1 n s = some r) : FnOk Tryz.prog 119 [sU32 s, .fn 120 [] []] (aB r) := by
 unfold slices_ContainsFunc_uint32_uint32_of_integer_Valid_1 at hr
 refine FnOk.bd G Tryz.func119 [.tmp 4] ?_
 unfold Tryz.f119
 simp only [Option.getD_some]
 refine .seq (.r4 G [0, 1] [] (.seq ?_))
 obtain ⟨v1, hc2, hr⟩ := bd hr
 refine .g1 G (ok0 (slices_IndexFunc_uint32_uint32_of_integer_Valid_1_ok n s v1 hc2)) (.mu 2 (.ca cf0 (.mu 2 (.done (.ret ?_)))))
 obtain rfl := oi hr
 exact FinQ.r1 [aB (decide (v1 ≥ 0))]

theorem integer_Valid_ok (n : Nat) (x' : api_Int) (r : Bool) (hr : integer_Valid n x' = some r) : FnOk Tryz.prog 108 [.agg (api_Int.c x')] (aB r) := by
 unfold integer_Valid at hr
 refine FnOk.bd G Tryz.func108 [.tmp 2] ?_
 unfold Tryz.f108
 simp only [Option.getD_some]
 refine .seq (.r2 G 25 [(1, .hp 0 0)] [.own (api_Int.c x')] (.seq (.r4 G [1] [(3, aI64 (x'.Groups.length : Int))] (.seq (.seq (.r4 G [1, 3] [(8, aB (((x'.Groups.length : Int) : Int) == 0))] ?_))))))
 refine .cd hr (fun hb1 hr => ?_) (fun hb1 hr => ?_)
 ·refine .seq (.ru G (.ret ?_))
  obtain rfl := oi hr
  exact FinQ.r1 [aB (!x'.Negative)]
 ·refine .skip (.seq ?_)
  obtain ⟨hg2, hr⟩ := gd hr
  rcases Bool.eq_false_or_eq_true (((gt x'.Groups (wrapF .i64 ((x'.Groups.length : Int) - 1))) : Int) != 0) with hb3 | hb3
  ·replace hr := cd_t hb3 hr
   obtain ⟨v4, hc5, hr⟩ := bd hr
   refine .g1 G (ok0 (slices_ContainsFunc_uint32_uint32_of_integer_Valid_1_ok n x'.Groups v4 hc5)) (.mu 4 (.p0 (v := .pp (x'.Groups.flatMap (iC .u32)) ((wrapF .i64 ((x'.Groups.length : Int) - 1)).toNat * 1)) (tr (ofP_guard hg2)) (.p0 (v := aU32 (gt x'.Groups (wrapF .i64 ((x'.Groups.length : Int) - 1)))) (tr (ofP_some (flat_get (iC_len .u32) (inR_lt hg2) (by decide : 0 < 1) (by omega : (wrapF .i64 ((x'.Groups.length : Int) - 1)).toNat * 1 = (wrapF .i64 ((x'.Groups.length : Int) - 1)).toNat * 1 + 0) (by kernel_rfl)))) (.p0 (v := aB true) (eB hb3) (.mu 3 (.ca cf0 (.mu 3 (.done (.ret ?_)))))))))
   obtain rfl := oi hr
   exact FinQ.r1 [aB (!v4)]
  ·replace hr := cd_f hb3 hr
   refine .r0 G (.mu 4 (.p0 (v := .pp (x'.Groups.flatMap (iC .u32)) ((wrapF .i64 ((x'.Groups.length : Int) - 1)).toNat * 1)) (tr (ofP_guard hg2)) (.p0 (v := aU32 (gt x'.Groups (wrapF .i64 ((x'.Groups.length : Int) - 1)))) (tr (ofP_some (flat_get (iC_len .u32) (inR_lt hg2) (by decide : 0 < 1) (by omega : (wrapF .i64 ((x'.Groups.length : Int) - 1)).toNat * 1 = (wrapF .i64 ((x'.Groups.length : Int) - 1)).toNat * 1 + 0) (by kernel_rfl)))) (.p0 (v := aB false) (eB hb3) (.mu 7 (.done (.ret ?_)))))))
   obtain rfl := oi hr
   exact FinQ.r1 [aB false]

theorem fraction_counted_inj {n' : api_Int} {n'_ : api_Int} (h : ([.agg [.at (.bool n'.Negative), slT (iC .u32) n'.Groups]] : List AV) = [.agg [.at (.bool n'_.Negative), slT (iC .u32) n'_.Groups]]) : n' = n'_ := by
 obtain ⟨_, _⟩ := n'
 obtain ⟨_, _⟩ := n'_
 simp only [List.cons.injEq, AV.agg.injEq, AV.at.injEq, Value.int.injEq, Value.bool.injEq, AV.fn.injEq, AV.pp.injEq, true_and, and_true, slT_inj_int] at h
 simp_all
theorem fraction_counted_cg (n : Nat) {n' : api_Int} {n'_ : api_Int} (h : ([.agg [.at (.bool n'.Negative), slT (iC .u32) n'.Groups]] : List AV) = [.agg [.at (.bool n'_.Negative), slT (iC .u32) n'_.Groups]]) : fraction_counted n n' = fraction_counted n n'_ := by
 obtain rfl := fraction_counted_inj h
 rfl
theorem fraction_counted_ok (n : Nat) (n' : api_Int) (r : api_Int) (hr : fraction_counted n n' = some r) : FnOk Tryz.prog 90 [.agg (api_Int.c n')] (.agg (api_Int.c r)) := by
 unfold fraction_counted at hr
 refine FnOk.bd G Tryz.func90 [.cell 2 50] ?_
 unfold Tryz.f90
 simp only [Option.getD_some]
 refine .seq (.r2 G 7 [(1, .hp 0 0), (2, .hp 1 0)] [.own (api_Int.c n'), .own [aB false, nS]] (.seq (.seq ?_)))
 obtain ⟨v1, hc2, hr⟩ := bd hr
 refine .g1 G (ok0 (integer_Valid_ok n n' v1 hc2)) (.mu 1 (.ca cf0 (.done (.nh [1, 2, 4] [.own (api_Int.c n'), .own [aB false, nS]] ?_))))
 refine .cd hr (fun hb3 hr => ?_) (fun hb3 hr => ?_)
 ·refine .seq (.r5 G [2] [] [.own (api_Int.c n'), .own (api_Int.c n')] (.ret ?_))
  obtain rfl := oi hr
  exact FinQ.r1 [.agg (api_Int.c n')]
 ·refine .skip (.seq ?_)
  obtain ⟨v4, hc5, hr⟩ := bd hr
  refine .g1 G (ok0 (integer_Of_ok n 0 v4 hc5)) (.ca cf0 (.mu 1 (.done (.nh [2] [.own (api_Int.c n'), .own (api_Int.c v4)] (.ret ?_)))))
  obtain rfl := oi hr
  exact FinQ.r1 [.agg (api_Int.c v4)]

theorem integer_groups_cg (n : Nat) {x' : api_Int} {x'_ : api_Int} (h : ([.agg [.at (.bool x'.Negative), slT (iC .u32) x'.Groups]] : List AV) = [.agg [.at (.bool x'_.Negative), slT (iC .u32) x'_.Groups]]) : integer_groups n x' = integer_groups n x'_ := by
 obtain rfl := fraction_counted_inj h
 rfl
theorem integer_groups_ok (n : Nat) (x' : api_Int) (r : List Int) (hr : integer_groups n x' = some r) : FnOk Tryz.prog 109 [.agg (api_Int.c x')] (sU32 r) := by
 unfold integer_groups at hr
 refine FnOk.bd G Tryz.func109 [.tmp 2] ?_
 unfold Tryz.f109
 simp only [Option.getD_some]
 refine .seq (.r2 G 8 [(1, .hp 0 0)] [.own (api_Int.c x')] (.seq (.seq ?_)))
 obtain ⟨v1, hc2, hr⟩ := bd hr
 refine .g1 G (ok0 (integer_Valid_ok n x' v1 hc2)) (.mu 1 (.ca cf0 (.mu 1 (.done (.nh [1, 5] [.own (api_Int.c x')] ?_)))))
 refine .cd hr (fun hb3 hr => ?_) (fun hb3 hr => ?_)
 ·refine .seq (.r3 G 8 [(2, nS)] (.ret ?_))
  obtain rfl := oi hr
  exact FinQ.ret (vs := [nS]) (by kernel_rfl) Sn.nilsl
 ·refine .skip (.seq (.ru G (.ret ?_)))
  obtain rfl := oi hr
  exact FinQ.r1 [sU32 x'.Groups]

theorem integer_Sign_ok (n : Nat) (x' : api_Int) (r : Int) (hr : integer_Sign n x' = some r) : FnOk Tryz.prog 91 [.agg (api_Int.c x')] (aI64 r) := by
 unfold integer_Sign at hr
 refine FnOk.bd G Tryz.func91 [.tmp 2] ?_
 unfold Tryz.f91
 simp only [Option.getD_some]
 refine .seq (.r2 G 11 [(1, .hp 0 0)] [.own (api_Int.c x')] (.seq (.block (.seq ?_))))
 obtain ⟨v1, hc2, hr⟩ := bd hr
 refine .g1 G (ok0 (integer_groups_ok n x' v1 hc2)) (.mu 1 (.ca cf0 (.mu 3 (.done (.nh [1, 3] [.own (api_Int.c x')] ?_)))))
 refine .cd hr (fun hb3 hr => ?_) (fun hb3 hr => ?_)
 ·refine .seq (.ru G (.ret ?_))
  obtain rfl := oi hr
  exact FinQ.r1 [aI64 0]
 ·refine .seq (.r3 G 11 [(8, aB x'.Negative)] ?_)
  refine .cd hr (fun hb4 hr => ?_) (fun hb4 hr => ?_)
  ·refine .seq (.ru G (.ret ?_))
   obtain rfl := oi hr
   exact FinQ.r1 [aI64 (-1)]
  ·refine .skip (.pop (.seq (.ru G (.ret ?_))))
   obtain rfl := oi hr
   exact FinQ.r1 [aI64 1]

theorem slices_Clone_uint32_uint32_ok (n : Nat) (s : List Int) (r : List Int) (hr : slices_Clone_uint32_uint32 n s = some r) : FnOk Tryz.prog 121 [sU32 s] (sU32 r) := by
 unfold slices_Clone_uint32_uint32 at hr
 refine FnOk.bd G Tryz.func121 [.tmp 2] ?_
 unfold Tryz.f121
 simp only [Option.getD_some]
 refine .seq (.r4 G [0] [] (.seq (.seq ?_)))
 refine .nilcase (t := 0) (cs := s.flatMap (iC .u32)) (len := s.length) (by kernel_rfl) (fun hn3 => ?_) ?_
 ·obtain rfl : s = [] := List.length_eq_zero_iff.1 hn3
  have hx := gd hr; clear hr; obtain ⟨_, hr⟩ := hx
  have hx := gd hr; clear hr; obtain ⟨_, hr⟩ := hx
  refine .r4 G [0] [(4, aB true)] (.cT (by kernel_rfl) (.seq (.r3 G 8 [(2, nS)] (.ret ?_))))
  obtain rfl := oi hr
  exact FinQ.ret (vs := [nS]) (by kernel_rfl) Sn.nilsl
 ·refine .r4 G [0] [(4, aB false)] (.cF (by kernel_rfl) (.skip (.seq ?_)))
  obtain ⟨hg1, hg2, hr⟩ := gd2 hr
  refine .r0 G (.mu 2 (.e0 (v := .hs 1 0 s.length 1) (ws := [(0, .dead), (1, .own (s.flatMap (iC .u32)))]) (Eq.trans (b := appS (decide (((s.flatMap (iC .u32))).length = s.length * 1)) (s.flatMap (iC .u32)) s.length (fun z1 z2 => guardO (decide (0 + 0 * 1 ≤ (([] : List Int).flatMap (iC .u32)).length) && decide ((0 + z2) * 4 ≤ 140737488355328) && decide (0 + z2 ≤ 4611686018427387904)) (some (.eff (.hs 1 0 (0 + z2) 1) [(0, .dead), (1, .own (((([] : List Int).flatMap (iC .u32)).drop 0).take (0 * 1) ++ z1))])))) (by kernel_rfl) (appS_t (flat_lenB (iC_len _)) rfl (app_own (l := ([] : List Int)) (xs := s) (iC_len _) rfl rfl rfl hg1 hg2))) (.mu 1 (.done (.nh [2] [.dead, .own (s.flatMap (iC .u32))] (.ret ?_))))))
  obtain rfl := oi hr
  exact FinQ.ret (vs := [.hs 1 0 s.length 1]) (by kernel_rfl) (Sn.hs rfl (.inl rfl) (SnC.pure (ids_flat (iC_pure _) _)) (fun h => flat_nil0 h))

theorem integer_Neg_cg (n : Nat) {x' : api_Int} {x'_ : api_Int} (h : ([.agg [.at (.bool x'.Negative), slT (iC .u32) x'.Groups]] : List AV) = [.agg [.at (.bool x'_.Negative), slT (iC .u32) x'_.Groups]]) : integer_Neg n x' = integer_Neg n x'_ := by
 obtain rfl := fraction_counted_inj h
 rfl
theorem integer_Neg_ok (n : Nat) (x' : api_Int) (r : api_Int) (hr : integer_Neg n x' = some r) : FnOk Tryz.prog 110 [.agg (api_Int.c x')] (.agg (api_Int.c r)) := by
 unfold integer_Neg at hr
 refine FnOk.bd G Tryz.func110 [.cell 2 50] ?_
 unfold Tryz.f110
 simp only [Option.getD_some]
 refine .seq (.r2 G 10 [(1, .hp 0 0), (2, .hp 1 0)] [.own (api_Int.c x'), .own [aB false, nS]] (.seq ?_))
 obtain ⟨v1, hc2, v3, hc4, v5, hc6, hr⟩ := bd3 hr
 refine .tn G (ca1 (ok0 (integer_groups_ok n x' v1 hc2)) (ca1 (ok0 (slices_Clone_uint32_uint32_ok n v1 v3 hc4)) (ca3 (ok0 (integer_made_ok n (!x'.Negative) v3 v5 hc6))))) (.mu 4 (.ca cf0 (.ca (cfF cf0) (.ca (cfF (cfF cf0)) (.mu 1 ?_)))))
 refine .done ⟨by kernel_rfl, ?_⟩
 refine .nh [2] [.own (api_Int.c x'), .own (api_Int.c v5)] (.ret ?_)
 obtain rfl := oi hr
 exact FinQ.r1 [.agg (api_Int.c v5)]




theorem integer_trim_w_ok (n : Nat) (g : List Int) (r : List Int) (hr : integer_trim_w n g = some r) : FnMut 1 Tryz.prog 113 [.hs 0 0 g.length 1] [.own (g.flatMap (iC .u32))] (.hs 0 0 r.length 1) [.own (r.flatMap (iC .u32))] := by
 unfold integer_trim_w at hr
 refine FnMut.bodyW G Tryz.func113 (c := (Tryz.f113.body).getD .skip) rfl (us := [.hs 0 0 r.length 1]) (s := mkS 21 0 [(0, .hs 0 0 g.length 1)]) (by kernel_rfl) (rs := [.tmp 2]) rfl ?_
 unfold Tryz.f113
 simp only [Option.getD_some]
 refine .seq (.r4 G [0] [] (.seq (.block ?_)))
 replace hr := bd hr; obtain ⟨g_21, hL28, hr⟩ := hr
 refine .loopO (σ := fun z0 => match z0 with | g_16 => ⟨mkS 21 0 [(0, .hs 0 0 g_16.length 1)], [.own (g_16.flatMap (iC .u32))]⟩) (Q := fun x st' => x = .exit 0 ∧ Wk 1 st' ⟨mkS 21 0 [(0, .hs 0 0 g_21.length 1)], [.own (g_21.flatMap (iC .u32))]⟩) hL28 ((Wk.gc [0] [(0, false)] rfl (pKo (iC .u32) (iC_pure _) g trivial)).to) ?_ ?_
 ·clear hr
  rintro m g_16 hr
  show CQ _ _ _ _ _ ⟨_, _⟩
  refine .seq (.seq ?_)
  rcases Bool.eq_false_or_eq_true (decide ((g_16.length : Int) > 0)) with hb23 | hb23
  ·replace hr := cd_t hb23 hr
   obtain ⟨hg24, hr⟩ := gd hr
   refine .r0 G (.mu 2 (.p0 (v := aB true) (eB hb23) (.mu 5 (.pure (v := .hp 0 (0 + (wrapF .i64 ((g_16.length : Int) - 1)).toNat * 1)) (by kernel_rfl) (tr (ofP_guard hg24)) (.pure (v := aU32 (gt g_16 (wrapF .i64 ((g_16.length : Int) - 1)))) (by kernel_rfl) (tr (ofP_some (flat_get (iC_len .u32) (inR_lt hg24) (by decide : 0 < 1) (by omega : 0 + (wrapF .i64 ((g_16.length : Int) - 1)).toNat * 1 = (wrapF .i64 ((g_16.length : Int) - 1)).toNat * 1 + 0) (by kernel_rfl)))) (.mu 2 (.done (.nh [0, 14] [.own (g_16.flatMap (iC .u32))] ?_))))))))
   refine .cd hr (fun hb25 hr => ?_) (fun hb25 hr => ?_)
   ·refine .skip (.block ?_)
    obtain ⟨hg26, hr⟩ := gd hr
    refine .r0 G (.mu 4 (.p0 (v := .hs 0 0 (wrapF .i64 ((g_16.length : Int) - 1)).toNat 1) (Eq.trans (b := slH (inS 0 (wrapF .i64 ((g_16.length : Int) - 1)) g_16.length) true ((0 : Int).toNat) ((wrapF .i64 ((g_16.length : Int) - 1)).toNat) (fun z1 z2 => .hs 0 (0 + z1 * 1) (z2 - z1) 1)) (by kernel_rfl) (slH_t hg26 (by kernel_rfl))) (.mu 1 (.done (.pop ?_)))))
    exact loopF_back (g_16.take (wrapF .i64 ((g_16.length : Int) - 1)).toNat) hr ((Wk.cutS (c := (iC .u32)) (es := 1) 0 0 (iC_len _) g_16 (wrapF .i64 ((g_16.length : Int) - 1)).toNat (inS_le hg26) (by kernel_rfl) (by kernel_rfl)).trans ((Wk.gc [0] [(0, false)] rfl (pKo (iC .u32) (iC_pure _) (g_16.take (wrapF .i64 ((g_16.length : Int) - 1)).toNat) trivial)).to))
   ·refine .leave rfl ?_
    obtain rfl := oi hr
    exact ⟨rfl, ((Wk.gc [0] [(0, false)] rfl (pKo (iC .u32) (iC_pure _) g_16 trivial)).to)⟩
  ·replace hr := cd_f hb23 hr
   refine .r0 G (.mu 2 (.p0 (v := aB false) (eB hb23) (.mu 9 (.done (.nh [0, 14] [.own (g_16.flatMap (iC .u32))] (.cF (by kernel_rfl) (.leave rfl ?_)))))))
   obtain rfl := oi hr
   exact ⟨rfl, ((Wk.gc [0] [(0, false)] rfl (pKo (iC .u32) (iC_pure _) g_16 trivial)).to)⟩
 ·rintro x st' hq29
  clear hL28
  obtain ⟨rfl, hq29⟩ := hq29
  refine CQ_exit _ rfl (.wk hq29 (.seq (.r3 G 21 [(2, .hs 0 0 g_21.length 1)] (.ret ?_))))
  obtain rfl := oi hr
  exact FinMW.ret [.hs 0 0 g_21.length 1] ((Wk.gc [0] [(0, false)] rfl (pKo (iC .u32) (iC_pure _) g_21 trivial)).to)

theorem integer_times_w_ok (n : Nat) (a : List Int) (b : List Int) (r : List Int) (hr : integer_times_w n a b = some r) : FnMut 1 Tryz.prog 135 [sU32 a, .hs 0 0 b.length 1] [.own (b.flatMap (iC .u32))] (.hs 1 0 r.length 1) [.own (b.flatMap (iC .u32)), .own (r.flatMap (iC .u32))] := by
 unfold integer_times_w at hr
 refine FnMut.bodyW G Tryz.func135 (c := (Tryz.f135.body).getD .skip) rfl (us := [.hs 1 0 r.length 1]) (s := mkS 69 0 [(0, sU32 a), (1, .hs 0 0 b.length 1)]) (by kernel_rfl) (rs := [.tmp 4]) rfl ?_
 unfold Tryz.f135
 simp only [Option.getD_some]
 refine .seq (.r4 G [0, 1] [] (.seq ?_))
 obtain ⟨hg50, hg51, hg52, hr⟩ := gd3 hr
 refine .r0 G (.mu 5 (.e0 (v := .hs 1 0 (List.replicate (wrapF .i64 ((a.length : Int) + (b.length : Int))).toNat ((0 : Int) : Int)).length 1) (ws := [(1, .own ((List.replicate (wrapF .i64 ((a.length : Int) + (b.length : Int))).toNat ((0 : Int) : Int)).flatMap (iC .u32)))]) (tr (make_own (c := (iC .u32)) (z := (0 : Int)) (n := wrapF .i64 ((a.length : Int) + (b.length : Int))) (by_ := 4) rfl hg50 hg51 hg52)) (.mu 1 (.done (.nh [0, 1, 5] [.own (b.flatMap (iC .u32)), .own ((List.replicate (wrapF .i64 ((a.length : Int) + (b.length : Int))).toNat ((0 : Int) : Int)).flatMap (iC .u32))] (.seq (.seq (.r4 G [1, 5] [(18, sU32 a), (19, aI64 (a.length : Int)), (20, aI64 0)] (.block ?_)))))))))
 replace hr := bd hr; obtain ⟨out_73, hL94, hr⟩ := hr
 refine .loopO (σ := fun z0 => match z0 with | (out_53, x_54) => ⟨mkS 69 0 [(1, .hs 0 0 b.length 1), (5, .hs 1 0 out_53.length 1), (18, sU32 a), (19, aI64 (a.length : Int)), (20, aI64 x_54)], [.own (b.flatMap (iC .u32)), .own (out_53.flatMap (iC .u32))]⟩) (Q := fun x st' => x = .exit 0 ∧ Wk 1 st' ⟨mkS 69 0 [(5, .hs 1 0 out_73.length 1)], [.own (b.flatMap (iC .u32)), .own (out_73.flatMap (iC .u32))]⟩) hL94 ((Wk.gc [1, 5, 18, 19, 20] [(0, false), (1, false)] rfl (pKo (iC .u32) (iC_pure _) b (pKo (iC .u32) (iC_pure _) (List.replicate (wrapF .i64 ((a.length : Int) + (b.length : Int))).toNat ((0 : Int) : Int)) trivial))).to) ?_ ?_
 ·clear hr
  rintro m ⟨out_53, x_54⟩ hr
  show CQ _ _ _ _ _ ⟨_, _⟩
  refine .seq (.r4 G [1, 5, 18, 19, 20] [(21, aB (decide (x_54 < (a.length : Int))))] (.seq ?_))
  refine .cd hr (fun hb75 hr => ?_) (fun hb75 hr => ?_)
  ·refine .skip (.seq (.block (.seq ?_)))
   obtain ⟨hg76, hr⟩ := gd hr
   refine .r0 G (.mu 1 (.p0 (v := .pp (a.flatMap (iC .u32)) (x_54.toNat * 1)) (tr (ofP_guard hg76)) (.p0 (v := aU32 (gt a x_54)) (tr (ofP_some (flat_get (iC_len .u32) (inR_lt hg76) (by decide : 0 < 1) (by omega : x_54.toNat * 1 = x_54.toNat * 1 + 0) (by kernel_rfl)))) (.mu 2 (.done (.nh [1, 5, 6, 7, 18, 19, 20] [.own (b.flatMap (iC .u32)), .own (out_53.flatMap (iC .u32))] (.seq (.r4 G [1, 5, 6, 7, 18, 19, 20] [(8, aU64 0)] (.seq (.seq (.r4 G [1, 5, 6, 7, 8, 18, 19, 20] [(25, .hs 0 0 b.length 1), (26, aI64 (b.length : Int)), (27, aI64 0)] (.block ?_))))))))))))
   replace hr := bd hr; obtain ⟨o89, hL90, hr⟩ := hr
   refine .loopO (σ := fun z0 => match z0 with | (out_77, carry_78, x_79) => ⟨mkS 69 0 [(1, .hs 0 0 b.length 1), (5, .hs 1 0 out_77.length 1), (6, aI64 x_54), (7, aU32 (gt a x_54)), (8, aU64 carry_78), (18, sU32 a), (19, aI64 (a.length : Int)), (20, aI64 x_54), (25, .hs 0 0 b.length 1), (26, aI64 (b.length : Int)), (27, aI64 x_79)], [.own (b.flatMap (iC .u32)), .own (out_77.flatMap (iC .u32))]⟩) (Q := fun x st' => match (generalizing := false) o89 with | (out_83, carry_84) => x = .exit 2 ∧ Wk 1 st' ⟨mkS 69 0 [(1, .hs 0 0 b.length 1), (5, .hs 1 0 out_83.length 1), (6, aI64 x_54), (8, aU64 carry_84), (18, sU32 a), (19, aI64 (a.length : Int)), (20, aI64 x_54)], [.own (b.flatMap (iC .u32)), .own (out_83.flatMap (iC .u32))]⟩) hL90 ((Wk.gc [1, 5, 6, 7, 8, 18, 19, 20, 25, 26, 27] [(0, false), (1, false)] rfl (pKo (iC .u32) (iC_pure _) b (pKo (iC .u32) (iC_pure _) out_53 trivial))).to) ?_ ?_
   ·clear hr
    rintro m ⟨out_77, carry_78, x_79⟩ hr
    show CQ _ _ _ _ _ ⟨_, _⟩
    refine .seq (.r4 G [1, 5, 6, 7, 8, 18, 19, 20, 25, 26, 27] [(28, aB (decide (x_79 < (b.length : Int))))] (.seq ?_))
    refine .cd hr (fun hb86 hr => ?_) (fun hb86 hr => ?_)
    ·refine .skip (.seq (.block (.seq ?_)))
     obtain ⟨hg87, hr⟩ := gd hr
     refine .r0 G (.mu 1 (.p0 (v := .hp 0 (0 + x_79.toNat * 1)) (tr (ofP_guard hg87)) (.p0 (v := aU32 (gt b x_79)) (tr (ofP_some (flat_get (iC_len .u32) (inR_lt hg87) (by decide : 0 < 1) (by omega : 0 + x_79.toNat * 1 = x_79.toNat * 1 + 0) (by kernel_rfl)))) (.mu 2 (.done (.nh [1, 5, 6, 7, 8, 9, 10, 18, 19, 20, 25, 26, 27] [.own (b.flatMap (iC .u32)), .own (out_77.flatMap (iC .u32))] (.seq ?_)))))))
     obtain ⟨hg88, hr⟩ := gd hr
     refine .r0 G (.mu 4 (.p0 (v := .hp 1 (0 + (wrapF .i64 (x_54 + x_79)).toNat * 1)) (tr (ofP_guard hg88)) (.p0 (v := aU32 (gt out_77 (wrapF .i64 (x_54 + x_79)))) (tr (ofP_some (flat_get (iC_len .u32) (inR_lt hg88) (by decide : 0 < 1) (by omega : 0 + (wrapF .i64 (x_54 + x_79)).toNat * 1 = (wrapF .i64 (x_54 + x_79)).toNat * 1 + 0) (by kernel_rfl)))) (.mu 10 (.done (.nh [1, 5, 6, 7, 9, 11, 18, 19, 20, 25, 26, 27] [.own (b.flatMap (iC .u32)), .own (out_77.flatMap (iC .u32))] (.r0 G (.mu 9 (.p0 (v := .hp 1 (0 + (wrapF .i64 (x_54 + x_79)).toNat * 1)) (tr (ofP_guard hg88)) (.e0 (v := .unk) (ws := [(1, .own ((out_77.set (wrapF .i64 (x_54 + x_79)).toNat (wrapF .u32 ((wrapF .u64 ((wrapF .u64 ((wrapF .u64 (gt out_77 (wrapF .i64 (x_54 + x_79)))) + (wrapF .u64 ((wrapF .u64 (gt a x_54)) * (wrapF .u64 (gt b x_79)))))) + carry_78)).tmod 1000000000))).flatMap (iC .u32)))]) (tr (stO_t (and_t (flat_fits (n := 1) (iC_len .u32) (inR_lt hg88) (Nat.le_of_ble_eq_true rfl) (by omega : 0 + (wrapF .i64 (x_54 + x_79)).toNat * 1 = (wrapF .i64 (x_54 + x_79)).toNat * 1 + 0))) (congrArg Blk.own (flat_set (xs := [aU32 (wrapF .u32 ((wrapF .u64 ((wrapF .u64 ((wrapF .u64 (gt out_77 (wrapF .i64 (x_54 + x_79)))) + (wrapF .u64 ((wrapF .u64 (gt a x_54)) * (wrapF .u64 (gt b x_79)))))) + carry_78)).tmod 1000000000))]) (iC_len .u32) (inR_lt hg88) (Nat.le_of_ble_eq_true rfl) (by omega : 0 + (wrapF .i64 (x_54 + x_79)).toNat * 1 = (wrapF .i64 (x_54 + x_79)).toNat * 1 + 0) (by kernel_rfl))))) (.mu 1 (.done (.pop (.ru G ?_))))))))))))))
     exact loopF_back (out_77.set (wrapF .i64 (x_54 + x_79)).toNat (wrapF .u32 ((wrapF .u64 ((wrapF .u64 ((wrapF .u64 (gt out_77 (wrapF .i64 (x_54 + x_79)))) + (wrapF .u64 ((wrapF .u64 (gt a x_54)) * (wrapF .u64 (gt b x_79)))))) + carry_78)).tmod 1000000000)), wrapF .u64 ((wrapF .u64 ((wrapF .u64 ((wrapF .u64 (gt out_77 (wrapF .i64 (x_54 + x_79)))) + (wrapF .u64 ((wrapF .u64 (gt a x_54)) * (wrapF .u64 (gt b x_79)))))) + carry_78)).tdiv 1000000000), wrapF .i64 (x_79 + 1)) hr ((Wk.relen 5 (b := 1) (es := 1) (len := out_77.length) (out_77.set (wrapF .i64 (x_54 + x_79)).toNat (wrapF .u32 ((wrapF .u64 ((wrapF .u64 ((wrapF .u64 (gt out_77 (wrapF .i64 (x_54 + x_79)))) + (wrapF .u64 ((wrapF .u64 (gt a x_54)) * (wrapF .u64 (gt b x_79)))))) + carry_78)).tmod 1000000000))).length (by kernel_rfl) (Eq.symm (List.length_set.trans rfl))).trans ((Wk.gc [1, 5, 6, 7, 8, 18, 19, 20, 25, 26, 27] [(0, false), (1, false)] rfl (pKo (iC .u32) (iC_pure _) b (pKo (iC .u32) (iC_pure _) (out_77.set (wrapF .i64 (x_54 + x_79)).toNat (wrapF .u32 ((wrapF .u64 ((wrapF .u64 ((wrapF .u64 (gt out_77 (wrapF .i64 (x_54 + x_79)))) + (wrapF .u64 ((wrapF .u64 (gt a x_54)) * (wrapF .u64 (gt b x_79)))))) + carry_78)).tmod 1000000000))) trivial))).to))
    ·refine .leave rfl ?_
     obtain rfl := oi hr
     exact ⟨rfl, ((Wk.gc [1, 5, 6, 8, 18, 19, 20] [(0, false), (1, false)] rfl (pKo (iC .u32) (iC_pure _) b (pKo (iC .u32) (iC_pure _) out_77 trivial))).to)⟩
   ·rcases o89 with ⟨out_83, carry_84⟩
    rintro x st' hq91
    clear hL90
    obtain ⟨rfl, hq91⟩ := hq91
    refine CQ_exit _ rfl (.wk hq91 ?_)
    obtain ⟨hg92, hr⟩ := gd hr
    refine .r0 G (.mu 7 (.p0 (v := .hp 1 (0 + (wrapF .i64 (x_54 + (b.length : Int))).toNat * 1)) (tr (ofP_guard hg92)) (.e0 (v := .unk) (ws := [(1, .own ((out_83.set (wrapF .i64 (x_54 + (b.length : Int))).toNat (wrapF .u32 carry_84)).flatMap (iC .u32)))]) (tr (stO_t (and_t (flat_fits (n := 1) (iC_len .u32) (inR_lt hg92) (Nat.le_of_ble_eq_true rfl) (by omega : 0 + (wrapF .i64 (x_54 + (b.length : Int))).toNat * 1 = (wrapF .i64 (x_54 + (b.length : Int))).toNat * 1 + 0))) (congrArg Blk.own (flat_set (xs := [aU32 (wrapF .u32 carry_84)]) (iC_len .u32) (inR_lt hg92) (Nat.le_of_ble_eq_true rfl) (by omega : 0 + (wrapF .i64 (x_54 + (b.length : Int))).toNat * 1 = (wrapF .i64 (x_54 + (b.length : Int))).toNat * 1 + 0) (by kernel_rfl))))) (.done (.pop (.ru G ?_))))))
    exact loopF_back (out_83.set (wrapF .i64 (x_54 + (b.length : Int))).toNat (wrapF .u32 carry_84), wrapF .i64 (x_54 + 1)) hr ((Wk.relen 5 (b := 1) (es := 1) (len := out_83.length) (out_83.set (wrapF .i64 (x_54 + (b.length : Int))).toNat (wrapF .u32 carry_84)).length (by kernel_rfl) (Eq.symm (List.length_set.trans rfl))).trans ((Wk.gc [1, 5, 18, 19, 20] [(0, false), (1, false)] rfl (pKo (iC .u32) (iC_pure _) b (pKo (iC .u32) (iC_pure _) (out_83.set (wrapF .i64 (x_54 + (b.length : Int))).toNat (wrapF .u32 carry_84)) trivial))).to))
  ·refine .leave rfl ?_
   obtain rfl := oi hr
   exact ⟨rfl, ((Wk.gc [5] [(0, false), (1, false)] rfl (pKo (iC .u32) (iC_pure _) b (pKo (iC .u32) (iC_pure _) out_53 trivial))).to)⟩
 ·rintro x st' hq95
  clear hL94
  obtain ⟨rfl, hq95⟩ := hq95
  refine CQ_exit _ rfl (.wk hq95 (.seq ?_))
  obtain ⟨v96, hc97, hr⟩ := bd hr
  refine .g1 G (callOk_mutU (args := [.hs 1 0 out_73.length 1]) 1 0 [(1, false)] [false] (integer_trim_w_ok n out_73 v96 hc97) (by exact ⟨ids_flat (iC_pure _) _, trivial⟩) (by exact ⟨ids_flat (iC_pure _) _, trivial⟩) rfl rfl (by kernel_rfl) (by kernel_rfl)) (.mu 1 (.ca cf0 (.mu 1 (.done (.nh [4] [.own (b.flatMap (iC .u32)), .own (v96.flatMap (iC .u32))] (.ret ?_))))))
  obtain rfl := oi hr
  exact FinMW.ret [.hs 1 0 v96.length 1] ((Wk.gc [0] [(0, false), (1, false)] rfl (pKo (iC .u32) (iC_pure _) b (pKo (iC .u32) (iC_pure _) v96 trivial))).to)

theorem integer_at_inj {g : List Int} {i : Int} {g_ : List Int} {i_ : Int} (h : ([slT (iC .u32) g, .at (.int .i64 i)] : List AV) = [slT (iC .u32) g_, .at (.int .i64 i_)]) : g = g_ ∧ i = i_ := by
 simp only [List.cons.injEq, AV.agg.injEq, AV.at.injEq, Value.int.injEq, Value.bool.injEq, AV.fn.injEq, AV.pp.injEq, true_and, and_true, slT_inj_int] at h
 simp_all
theorem integer_at_cg (n : Nat) {g : List Int} {i : Int} {g_ : List Int} {i_ : Int} (h : ([slT (iC .u32) g, .at (.int .i64 i)] : List AV) = [slT (iC .u32) g_, .at (.int .i64 i_)]) : integer_at n g i = integer_at n g_ i_ := by
 obtain ⟨rfl, rfl⟩ := integer_at_inj h
 rfl
theorem integer_at_ok (n : Nat) (g : List Int) (i : Int) (r : Int) (hr : integer_at n g i = some r) : FnOk Tryz.prog 132 [sU32 g, aI64 i] (aU32 r) := by
 unfold integer_at at hr
 refine FnOk.bd G Tryz.func132 [.tmp 4] ?_
 unfold Tryz.f132
 simp only [Option.getD_some]
 refine .seq (.r4 G [0, 1] [] (.seq (.seq (.r4 G [0, 1] [(8, aB (decide (i < (g.length : Int))))] ?_))))
 refine .cd hr (fun hb1 hr => ?_) (fun hb1 hr => ?_)
 ·refine .seq ?_
  obtain ⟨hg2, hr⟩ := gd hr
  refine .r0 G (.mu 2 (.p0 (v := .pp (g.flatMap (iC .u32)) (i.toNat * 1)) (tr (ofP_guard hg2)) (.p0 (v := aU32 (gt g i)) (tr (ofP_some (flat_get (iC_len .u32) (inR_lt hg2) (by decide : 0 < 1) (by omega : i.toNat * 1 = i.toNat * 1 + 0) (by kernel_rfl)))) (.mu 1 (.done (.ret ?_))))))
  obtain rfl := oi hr
  exact FinQ.r1 [aU32 (gt g i)]
 ·refine .skip (.seq (.ru G (.ret ?_)))
  obtain rfl := oi hr
  exact FinQ.r1 [aU32 0]

theorem integer_long_ok (n : Nat) (a : List Int) (b : List Int) (r : List Int × List Int) (hr : integer_long n a b = some r) : FnOk Tryz.prog 131 [sU32 a, sU32 b] (.tup [sU32 r.1, sU32 r.2]) := by
 unfold integer_long at hr
 refine FnOk.bd G Tryz.func131 [.tmp 4, .tmp 5] ?_
 unfold Tryz.f131
 simp only [Option.getD_some]
 refine .seq (.r4 G [0, 1] [] (.seq ?_))
 obtain ⟨hg1, hg2, hr⟩ := gd2 hr
 refine .r0 G (.mu 4 (.p0 (v := .pp (b.flatMap (iC .u32)) ((wrapF .i64 ((b.length : Int) - 1)).toNat * 1)) (tr (ofP_guard hg1)) (.p0 (v := aU32 (gt b (wrapF .i64 ((b.length : Int) - 1)))) (tr (ofP_some (flat_get (iC_len .u32) (inR_lt hg1) (by decide : 0 < 1) (by omega : (wrapF .i64 ((b.length : Int) - 1)).toNat * 1 = (wrapF .i64 ((b.length : Int) - 1)).toNat * 1 + 0) (by kernel_rfl)))) (.mu 2 (.p0 (v := aU64 (wrapF .u64 ((1000000000 : Int).tdiv (wrapF .u64 ((wrapF .u64 (gt b (wrapF .i64 ((b.length : Int) - 1)))) + 1))))) (op_quo (x := 1000000000) (y := wrapF .u64 ((wrapF .u64 (gt b (wrapF .i64 ((b.length : Int) - 1)))) + 1)) (by kernel_rfl) (by kernel_rfl) hg2) (.mu 2 (.done (.nh [0, 1, 6] [] (.seq ?_)))))))))
 obtain ⟨v3, hc4, hr⟩ := bd hr
 refine .gn G (ca4 [.own [aU32 (wrapF .u32 (wrapF .u64 ((1000000000 : Int).tdiv (wrapF .u64 ((wrapF .u64 (gt b (wrapF .i64 ((b.length : Int) - 1)))) + 1)))))]] (callOk_mutU (args := [sU32 a, .hs 0 0 1 1]) 1 1 [(0, false)] [false, false] (integer_times_w_ok n a [wrapF .u32 (wrapF .u64 ((1000000000 : Int).tdiv (wrapF .u64 ((wrapF .u64 (gt b (wrapF .i64 ((b.length : Int) - 1)))) + 1))))] v3 hc4) (by exact ⟨rfl, trivial⟩) (by exact ⟨ids_flat (iC_pure _) _, ⟨ids_flat (iC_pure _) _, trivial⟩⟩) rfl rfl (by kernel_rfl) (by kernel_rfl))) (.mu 3 (.ca cf0 (.mu 1 (.done (.nh [0, 1, 6, 7] [.own ([wrapF .u32 (wrapF .u64 ((1000000000 : Int).tdiv (wrapF .u64 ((wrapF .u64 (gt b (wrapF .i64 ((b.length : Int) - 1)))) + 1))))].flatMap (iC .u32)), .own (v3.flatMap (iC .u32))] (.seq ?_))))))
 obtain ⟨v5, hc6, hr⟩ := bd hr
 refine .gn G (ca4 [.own ([wrapF .u32 (wrapF .u64 ((1000000000 : Int).tdiv (wrapF .u64 ((wrapF .u64 (gt b (wrapF .i64 ((b.length : Int) - 1)))) + 1))))].flatMap (iC .u32)), .own (v3.flatMap (iC .u32)), .own [aU32 (wrapF .u32 (wrapF .u64 ((1000000000 : Int).tdiv (wrapF .u64 ((wrapF .u64 (gt b (wrapF .i64 ((b.length : Int) - 1)))) + 1)))))]] (callOk_mutU (args := [sU32 b, .hs 2 0 1 1]) 1 1 [(2, false)] [false, false] (integer_times_w_ok n b [wrapF .u32 (wrapF .u64 ((1000000000 : Int).tdiv (wrapF .u64 ((wrapF .u64 (gt b (wrapF .i64 ((b.length : Int) - 1)))) + 1))))] v5 hc6) (by exact ⟨rfl, trivial⟩) (by exact ⟨ids_flat (iC_pure _) _, ⟨ids_flat (iC_pure _) _, trivial⟩⟩) rfl rfl (by kernel_rfl) (by kernel_rfl))) (.mu 3 (.ca cf0 (.mu 1 (.done (.nh [0, 6, 7, 8] [.own ([wrapF .u32 (wrapF .u64 ((1000000000 : Int).tdiv (wrapF .u64 ((wrapF .u64 (gt b (wrapF .i64 ((b.length : Int) - 1)))) + 1))))].flatMap (iC .u32)), .own (v3.flatMap (iC .u32)), .own ([wrapF .u32 (wrapF .u64 ((1000000000 : Int).tdiv (wrapF .u64 ((wrapF .u64 (gt b (wrapF .i64 ((b.length : Int) - 1)))) + 1))))].flatMap (iC .u32)), .own (v5.flatMap (iC .u32))] (.seq (.r4 G [0, 6, 7, 8] [(9, aI64 (v5.length : Int))] (.seq ?_))))))))
 obtain ⟨hg7, hg8, hr⟩ := gd2 hr
 refine .r0 G (.mu 2 (.e0 (v := .hs 5 0 (v3 ++ [(0 : Int)]).length 1) (ws := [(1, .dead), (5, .own ((v3 ++ [(0 : Int)]).flatMap (iC .u32)))]) (tr (app_own (new := [aU32 0]) (l := v3) (xs := [(0 : Int)]) (iC_len .u32) rfl rfl (by kernel_rfl) hg7 hg8)) (.mu 1 (.done (.nh [0, 6, 7, 8, 9] [.own ([wrapF .u32 (wrapF .u64 ((1000000000 : Int).tdiv (wrapF .u64 ((wrapF .u64 (gt b (wrapF .i64 ((b.length : Int) - 1)))) + 1))))].flatMap (iC .u32)), .dead, .own ([wrapF .u32 (wrapF .u64 ((1000000000 : Int).tdiv (wrapF .u64 ((wrapF .u64 (gt b (wrapF .i64 ((b.length : Int) - 1)))) + 1))))].flatMap (iC .u32)), .own (v5.flatMap (iC .u32)), .own [aU32 0], .own ((v3 ++ [(0 : Int)]).flatMap (iC .u32))] (.seq (.seq (.r4 G [6, 7, 8, 9] [(50, aB (decide (((v3 ++ [(0 : Int)]).length : Int) ≤ (a.length : Int))))] ?_))))))))
 replace hr := bd hr; obtain ⟨u_9, hL14, hr⟩ := hr
 refine .app1 (Q := fun x st' => x = .normal ∧ Wk 0 st' ⟨mkS 266 0 [(6, aU32 (wrapF .u32 (wrapF .u64 ((1000000000 : Int).tdiv (wrapF .u64 ((wrapF .u64 (gt b (wrapF .i64 ((b.length : Int) - 1)))) + 1)))))), (7, .hs 0 0 u_9.length 1), (8, .hs 1 0 v5.length 1), (9, aI64 (v5.length : Int))], [.own (u_9.flatMap (iC .u32)), .own (v5.flatMap (iC .u32))]⟩) ?_ ?_
 ·clear hr
  have hr := hL14
  clear hL14
  refine .cd hr (fun hb10 hr => ?_) (fun hb10 hr => ?_)
  ·obtain ⟨hg11, hg12, hr⟩ := gd2 hr
   refine .r0 G (.mu 2 (.e0 (v := .hs 7 0 ((v3 ++ [(0 : Int)]) ++ [(0 : Int)]).length 1) (ws := [(5, .dead), (7, .own (((v3 ++ [(0 : Int)]) ++ [(0 : Int)]).flatMap (iC .u32)))]) (tr (app_own (new := [aU32 0]) (l := v3 ++ [(0 : Int)]) (xs := [(0 : Int)]) (iC_len .u32) rfl rfl (by kernel_rfl) hg11 hg12)) (.mu 1 (.done ?_))))
   obtain rfl := oi hr
   exact ⟨rfl, ((Wk.gc [6, 7, 8, 9] [(7, false), (3, false)] rfl (pKo (iC .u32) (iC_pure _) ((v3 ++ [(0 : Int)]) ++ [(0 : Int)]) (pKo (iC .u32) (iC_pure _) v5 trivial))).to)⟩
  ·refine .skip ?_
   obtain rfl := oi hr
   exact ⟨rfl, ((Wk.gc [6, 7, 8, 9] [(5, false), (3, false)] rfl (pKo (iC .u32) (iC_pure _) (v3 ++ [(0 : Int)]) (pKo (iC .u32) (iC_pure _) v5 trivial))).to)⟩
 ·rintro x st' hq15
  clear hL14
  obtain ⟨rfl, hq15⟩ := hq15
  refine .wk hq15 (.seq ?_)
  obtain ⟨hg16, hg17, hg18, hr⟩ := gd3 hr
  refine .r0 G (.mu 4 (.e0 (v := .hs 2 0 (List.replicate (wrapF .i64 ((u_9.length : Int) - (v5.length : Int))).toNat ((0 : Int) : Int)).length 1) (ws := [(2, .own ((List.replicate (wrapF .i64 ((u_9.length : Int) - (v5.length : Int))).toNat ((0 : Int) : Int)).flatMap (iC .u32)))]) (tr (make_own (c := (iC .u32)) (z := (0 : Int)) (n := wrapF .i64 ((u_9.length : Int) - (v5.length : Int))) (by_ := 4) rfl hg16 hg17 hg18)) (.mu 1 (.done (.nh [4, 6, 7, 8, 9] [.own (u_9.flatMap (iC .u32)), .own (v5.flatMap (iC .u32)), .own ((List.replicate (wrapF .i64 ((u_9.length : Int) - (v5.length : Int))).toNat ((0 : Int) : Int)).flatMap (iC .u32))] (.seq (.seq (.r4 G [4, 6, 7, 8, 9] [(10, aI64 (wrapF .i64 ((wrapF .i64 ((u_9.length : Int) - (v5.length : Int))) - 1)))] (.block ?_)))))))))
  replace hr := bd hr; obtain ⟨o235, hL236, hr⟩ := hr
  refine .loopO (σ := fun z0 => match z0 with | (q_19, u_20, j_21) => ⟨mkS 266 0 [(4, .hs 0 0 q_19.length 1), (6, aU32 (wrapF .u32 (wrapF .u64 ((1000000000 : Int).tdiv (wrapF .u64 ((wrapF .u64 (gt b (wrapF .i64 ((b.length : Int) - 1)))) + 1)))))), (7, .hs 1 0 u_20.length 1), (8, .hs 2 0 v5.length 1), (9, aI64 (v5.length : Int)), (10, aI64 j_21)], [.own (q_19.flatMap (iC .u32)), .own (u_20.flatMap (iC .u32)), .own (v5.flatMap (iC .u32))]⟩) (Q := fun x st' => match (generalizing := false) o235 with | (q_127, u_128) => x = .exit 0 ∧ Wk 0 st' ⟨mkS 266 0 [(4, .hs 0 0 q_127.length 1), (6, aU32 (wrapF .u32 (wrapF .u64 ((1000000000 : Int).tdiv (wrapF .u64 ((wrapF .u64 (gt b (wrapF .i64 ((b.length : Int) - 1)))) + 1)))))), (7, .hs 1 0 u_128.length 1), (9, aI64 (v5.length : Int))], [.own (q_127.flatMap (iC .u32)), .own (u_128.flatMap (iC .u32))]⟩) hL236 ((Wk.gc [4, 6, 7, 8, 9, 10] [(2, false), (0, false), (1, false)] rfl (pKo (iC .u32) (iC_pure _) (List.replicate (wrapF .i64 ((u_9.length : Int) - (v5.length : Int))).toNat ((0 : Int) : Int)) (pKo (iC .u32) (iC_pure _) u_9 (pKo (iC .u32) (iC_pure _) v5 trivial)))).to) ?_ ?_
  ·clear hr
   rintro m ⟨q_19, u_20, j_21⟩ hr
   show CQ _ _ _ _ _ ⟨_, _⟩
   refine .seq (.seq (.r4 G [4, 6, 7, 8, 9, 10] [(65, aB (decide (j_21 ≥ 0)))] ?_))
   refine .cd hr (fun hb131 hr => ?_) (fun hb131 hr => ?_)
   ·refine .skip (.seq (.block (.seq ?_)))
    obtain ⟨v132, hc133, hr⟩ := bd hr
    obtain ⟨hg134, hr⟩ := gd hr
    refine .t1 G (callOk_val (args := [.hs 1 0 u_20.length 1, aI64 (wrapF .i64 (j_21 + (v5.length : Int)))]) (l := [1]) rfl (SnL.cons (Sn.hs rfl (.inl rfl) (SnC.pure (ids_flat (iC_pure _) _)) (fun h => flat_nil0 h)) (SnL.cons (Sn.pure rfl) SnL.nil)) (integer_at_ok n u_20 (wrapF .i64 (j_21 + (v5.length : Int))) v132 hc133)) (.mu 4 (.ca cf0 (.mu 7 (.pure (v := .hp 1 (0 + (wrapF .i64 ((wrapF .i64 (j_21 + (v5.length : Int))) - 1)).toNat * 1)) (by kernel_rfl) (tr (ofP_guard hg134)) (by kernel_rfl) (.pure (v := aU32 (gt u_20 (wrapF .i64 ((wrapF .i64 (j_21 + (v5.length : Int))) - 1)))) (by kernel_rfl) (tr (ofP_some (flat_get (iC_len .u32) (inR_lt hg134) (by decide : 0 < 1) (by omega : 0 + (wrapF .i64 ((wrapF .i64 (j_21 + (v5.length : Int))) - 1)).toNat * 1 = (wrapF .i64 ((wrapF .i64 (j_21 + (v5.length : Int))) - 1)).toNat * 1 + 0) (by kernel_rfl)))) (by kernel_rfl) (.mu 3 ?_))))))
    refine .done ⟨by kernel_rfl, ?_⟩
    refine .nh [4, 6, 7, 8, 9, 10, 11] [.own (q_19.flatMap (iC .u32)), .own (u_20.flatMap (iC .u32)), .own (v5.flatMap (iC .u32))] (.seq ?_)
    obtain ⟨hg135, hg136, hr⟩ := gd2 hr
    refine .regionT G callOf_nil (.mu 4 (.pure (v := .hp 2 (0 + (wrapF .i64 ((v5.length : Int) - 1)).toNat * 1)) (by kernel_rfl) (tr (ofP_guard hg135)) (by kernel_rfl) (.pure (v := aU32 (gt v5 (wrapF .i64 ((v5.length : Int) - 1)))) (by kernel_rfl) (tr (ofP_some (flat_get (iC_len .u32) (inR_lt hg135) (by decide : 0 < 1) (by omega : 0 + (wrapF .i64 ((v5.length : Int) - 1)).toNat * 1 = (wrapF .i64 ((v5.length : Int) - 1)).toNat * 1 + 0) (by kernel_rfl)))) (by kernel_rfl) (.mu 1 (.pure (v := aU64 (wrapF .u64 ((wrapF .u64 ((wrapF .u64 ((wrapF .u64 v132) * 1000000000)) + (wrapF .u64 (gt u_20 (wrapF .i64 ((wrapF .i64 (j_21 + (v5.length : Int))) - 1)))))).tdiv (wrapF .u64 (gt v5 (wrapF .i64 ((v5.length : Int) - 1))))))) (by kernel_rfl) (op_quo (x := wrapF .u64 ((wrapF .u64 ((wrapF .u64 v132) * 1000000000)) + (wrapF .u64 (gt u_20 (wrapF .i64 ((wrapF .i64 (j_21 + (v5.length : Int))) - 1)))))) (y := wrapF .u64 (gt v5 (wrapF .i64 ((v5.length : Int) - 1)))) (by kernel_rfl) (by kernel_rfl) hg136) (by kernel_rfl) (.mu 4 (.pure (v := .hp 2 (0 + (wrapF .i64 ((v5.length : Int) - 1)).toNat * 1)) (by kernel_rfl) (tr (ofP_guard hg135)) (by kernel_rfl) (.pure (v := aU32 (gt v5 (wrapF .i64 ((v5.length : Int) - 1)))) (by kernel_rfl) (tr (ofP_some (flat_get (iC_len .u32) (inR_lt hg135) (by decide : 0 < 1) (by omega : 0 + (wrapF .i64 ((v5.length : Int) - 1)).toNat * 1 = (wrapF .i64 ((v5.length : Int) - 1)).toNat * 1 + 0) (by kernel_rfl)))) (by kernel_rfl) (.mu 1 (.pure (v := aU64 ((wrapF .u64 ((wrapF .u64 ((wrapF .u64 v132) * 1000000000)) + (wrapF .u64 (gt u_20 (wrapF .i64 ((wrapF .i64 (j_21 + (v5.length : Int))) - 1)))))).tmod (wrapF .u64 (gt v5 (wrapF .i64 ((v5.length : Int) - 1)))))) (by kernel_rfl) (op_rem (x := wrapF .u64 ((wrapF .u64 ((wrapF .u64 v132) * 1000000000)) + (wrapF .u64 (gt u_20 (wrapF .i64 ((wrapF .i64 (j_21 + (v5.length : Int))) - 1)))))) (y := wrapF .u64 (gt v5 (wrapF .i64 ((v5.length : Int) - 1)))) (by kernel_rfl) (by kernel_rfl) hg136) (by kernel_rfl) (.mu 2 ?_)))))))))))
    refine .done ⟨by kernel_rfl, ?_⟩
    refine .nh [4, 6, 7, 8, 9, 10, 12, 13] [.own (q_19.flatMap (iC .u32)), .own (u_20.flatMap (iC .u32)), .own (v5.flatMap (iC .u32))] (.seq (.block ?_))
    replace hr := bd hr; obtain ⟨guess_164, hL173, hr⟩ := hr
    refine .loopO (σ := fun z0 => match z0 with | (guess_156, rest_157) => ⟨mkS 266 0 [(4, .hs 0 0 q_19.length 1), (6, aU32 (wrapF .u32 (wrapF .u64 ((1000000000 : Int).tdiv (wrapF .u64 ((wrapF .u64 (gt b (wrapF .i64 ((b.length : Int) - 1)))) + 1)))))), (7, .hs 1 0 u_20.length 1), (8, .hs 2 0 v5.length 1), (9, aI64 (v5.length : Int)), (10, aI64 j_21), (12, aU64 guess_156), (13, aU64 rest_157)], [.own (q_19.flatMap (iC .u32)), .own (u_20.flatMap (iC .u32)), .own (v5.flatMap (iC .u32))]⟩) (Q := fun x st' => x = .exit 2 ∧ Wk 0 st' ⟨mkS 266 0 [(4, .hs 0 0 q_19.length 1), (6, aU32 (wrapF .u32 (wrapF .u64 ((1000000000 : Int).tdiv (wrapF .u64 ((wrapF .u64 (gt b (wrapF .i64 ((b.length : Int) - 1)))) + 1)))))), (7, .hs 1 0 u_20.length 1), (8, .hs 2 0 v5.length 1), (9, aI64 (v5.length : Int)), (10, aI64 j_21), (12, aU64 guess_164)], [.own (q_19.flatMap (iC .u32)), .own (u_20.flatMap (iC .u32)), .own (v5.flatMap (iC .u32))]⟩) hL173 ((Wk.gc [4, 6, 7, 8, 9, 10, 12, 13] [(0, false), (1, false), (2, false)] rfl (pKo (iC .u32) (iC_pure _) q_19 (pKo (iC .u32) (iC_pure _) u_20 (pKo (iC .u32) (iC_pure _) v5 trivial)))).to) ?_ ?_
    ·clear hr
     rintro m ⟨guess_156, rest_157⟩ hr
     show CQ _ _ _ _ _ ⟨_, _⟩
     refine .seq (.seq ?_)
     rcases Bool.eq_false_or_eq_true (decide (guess_156 ≥ 1000000000)) with hb166 | hb166
     ·replace hr := cd_t hb166 hr
      refine .regionT G callOf_nil (.mu 1 (.pure (v := aB true) (by kernel_rfl) (eB hb166) (by kernel_rfl) (.mu 22 ?_)))
      refine .done ⟨by kernel_rfl, ?_⟩
      refine .nh [4, 6, 7, 8, 9, 10, 12, 13, 123] [.own (q_19.flatMap (iC .u32)), .own (u_20.flatMap (iC .u32)), .own (v5.flatMap (iC .u32))] (.cT (by kernel_rfl) (.skip (.block (.seq (.r4 G [4, 6, 7, 8, 9, 10, 13] [(12, aU64 (wrapF .u64 (guess_156 - 1)))] (.seq (.r0 G (.mu 4 (.p0 (v := .hp 2 (0 + (wrapF .i64 ((v5.length : Int) - 1)).toNat * 1)) (tr (ofP_guard hg135)) (.p0 (v := aU32 (gt v5 (wrapF .i64 ((v5.length : Int) - 1)))) (tr (ofP_some (flat_get (iC_len .u32) (inR_lt hg135) (by decide : 0 < 1) (by omega : 0 + (wrapF .i64 ((v5.length : Int) - 1)).toNat * 1 = (wrapF .i64 ((v5.length : Int) - 1)).toNat * 1 + 0) (by kernel_rfl)))) (.mu 3 (.done (.nh [4, 6, 7, 8, 9, 10, 12, 13] [.own (q_19.flatMap (iC .u32)), .own (u_20.flatMap (iC .u32)), .own (v5.flatMap (iC .u32))] (.seq (.r4 G [4, 6, 7, 8, 9, 10, 12, 13] [(135, aB (decide ((wrapF .u64 (rest_157 + (wrapF .u64 (gt v5 (wrapF .i64 ((v5.length : Int) - 1)))))) ≥ 1000000000)))] ?_)))))))))))))))
      refine .cd hr (fun hb167 hr => ?_) (fun hb167 hr => ?_)
      ·refine .leave rfl ?_
       obtain rfl := oi hr
       exact ⟨rfl, ((Wk.gc [4, 6, 7, 8, 9, 10, 12] [(0, false), (1, false), (2, false)] rfl (pKo (iC .u32) (iC_pure _) q_19 (pKo (iC .u32) (iC_pure _) u_20 (pKo (iC .u32) (iC_pure _) v5 trivial)))).to)⟩
      ·refine .skip (.pop ?_)
       exact loopF_back (wrapF .u64 (guess_156 - 1), wrapF .u64 (rest_157 + (wrapF .u64 (gt v5 (wrapF .i64 ((v5.length : Int) - 1)))))) hr ((Wk.gc [4, 6, 7, 8, 9, 10, 12, 13] [(0, false), (1, false), (2, false)] rfl (pKo (iC .u32) (iC_pure _) q_19 (pKo (iC .u32) (iC_pure _) u_20 (pKo (iC .u32) (iC_pure _) v5 trivial)))).to)
     ·replace hr := cd_f hb166 hr
      obtain ⟨hg168, hg169, hr⟩ := gd2 hr
      refine .regionT G callOf_nil (.mu 1 (.pure (v := aB false) (by kernel_rfl) (eB hb166) (by kernel_rfl) (.mu 5 (.pure (v := .hp 2 (0 + (wrapF .i64 ((v5.length : Int) - 2)).toNat * 1)) (by kernel_rfl) (tr (ofP_guard hg168)) (by kernel_rfl) (.pure (v := aU32 (gt v5 (wrapF .i64 ((v5.length : Int) - 2)))) (by kernel_rfl) (tr (ofP_some (flat_get (iC_len .u32) (inR_lt hg168) (by decide : 0 < 1) (by omega : 0 + (wrapF .i64 ((v5.length : Int) - 2)).toNat * 1 = (wrapF .i64 ((v5.length : Int) - 2)).toNat * 1 + 0) (by kernel_rfl)))) (by kernel_rfl) (.mu 9 (.pure (v := .hp 1 (0 + (wrapF .i64 ((wrapF .i64 (j_21 + (v5.length : Int))) - 2)).toNat * 1)) (by kernel_rfl) (tr (ofP_guard hg169)) (by kernel_rfl) (.pure (v := aU32 (gt u_20 (wrapF .i64 ((wrapF .i64 (j_21 + (v5.length : Int))) - 2)))) (by kernel_rfl) (tr (ofP_some (flat_get (iC_len .u32) (inR_lt hg169) (by decide : 0 < 1) (by omega : 0 + (wrapF .i64 ((wrapF .i64 (j_21 + (v5.length : Int))) - 2)).toNat * 1 = (wrapF .i64 ((wrapF .i64 (j_21 + (v5.length : Int))) - 2)).toNat * 1 + 0) (by kernel_rfl)))) (by kernel_rfl) (.mu 4 ?_)))))))))
      refine .done ⟨by kernel_rfl, ?_⟩
      refine .nh [4, 6, 7, 8, 9, 10, 12, 13, 123] [.own (q_19.flatMap (iC .u32)), .own (u_20.flatMap (iC .u32)), .own (v5.flatMap (iC .u32))] ?_
      refine .cd hr (fun hb170 hr => ?_) (fun hb170 hr => ?_)
      ·refine .skip (.block (.seq (.r4 G [4, 6, 7, 8, 9, 10, 13] [(12, aU64 (wrapF .u64 (guess_156 - 1)))] (.seq (.r0 G (.mu 4 (.p0 (v := .hp 2 (0 + (wrapF .i64 ((v5.length : Int) - 1)).toNat * 1)) (tr (ofP_guard hg135)) (.p0 (v := aU32 (gt v5 (wrapF .i64 ((v5.length : Int) - 1)))) (tr (ofP_some (flat_get (iC_len .u32) (inR_lt hg135) (by decide : 0 < 1) (by omega : 0 + (wrapF .i64 ((v5.length : Int) - 1)).toNat * 1 = (wrapF .i64 ((v5.length : Int) - 1)).toNat * 1 + 0) (by kernel_rfl)))) (.mu 3 (.done (.nh [4, 6, 7, 8, 9, 10, 12, 13] [.own (q_19.flatMap (iC .u32)), .own (u_20.flatMap (iC .u32)), .own (v5.flatMap (iC .u32))] (.seq (.r4 G [4, 6, 7, 8, 9, 10, 12, 13] [(135, aB (decide ((wrapF .u64 (rest_157 + (wrapF .u64 (gt v5 (wrapF .i64 ((v5.length : Int) - 1)))))) ≥ 1000000000)))] ?_)))))))))))))
       refine .cd hr (fun hb171 hr => ?_) (fun hb171 hr => ?_)
       ·refine .leave rfl ?_
        obtain rfl := oi hr
        exact ⟨rfl, ((Wk.gc [4, 6, 7, 8, 9, 10, 12] [(0, false), (1, false), (2, false)] rfl (pKo (iC .u32) (iC_pure _) q_19 (pKo (iC .u32) (iC_pure _) u_20 (pKo (iC .u32) (iC_pure _) v5 trivial)))).to)⟩
       ·refine .skip (.pop ?_)
        exact loopF_back (wrapF .u64 (guess_156 - 1), wrapF .u64 (rest_157 + (wrapF .u64 (gt v5 (wrapF .i64 ((v5.length : Int) - 1)))))) hr ((Wk.gc [4, 6, 7, 8, 9, 10, 12, 13] [(0, false), (1, false), (2, false)] rfl (pKo (iC .u32) (iC_pure _) q_19 (pKo (iC .u32) (iC_pure _) u_20 (pKo (iC .u32) (iC_pure _) v5 trivial)))).to)
      ·refine .leave rfl ?_
       obtain rfl := oi hr
       exact ⟨rfl, ((Wk.gc [4, 6, 7, 8, 9, 10, 12] [(0, false), (1, false), (2, false)] rfl (pKo (iC .u32) (iC_pure _) q_19 (pKo (iC .u32) (iC_pure _) u_20 (pKo (iC .u32) (iC_pure _) v5 trivial)))).to)⟩
    ·rintro x st' hq174
     clear hL173
     obtain ⟨rfl, hq174⟩ := hq174
     refine CQ_exit _ rfl (.wk hq174 (.seq (.r4 G [4, 6, 7, 8, 9, 10, 12] [(14, aI64 0), (15, aU64 0)] (.seq (.seq (.r4 G [4, 6, 7, 8, 9, 10, 12, 14, 15] [(136, aI64 (v5.length : Int)), (137, aI64 0)] (.block ?_)))))))
     replace hr := bd hr; obtain ⟨o210, hL211, hr⟩ := hr
     refine .loopO (σ := fun z0 => match z0 with | (u_194, borrow_195, carry_196, x_197) => ⟨mkS 266 0 [(4, .hs 0 0 q_19.length 1), (6, aU32 (wrapF .u32 (wrapF .u64 ((1000000000 : Int).tdiv (wrapF .u64 ((wrapF .u64 (gt b (wrapF .i64 ((b.length : Int) - 1)))) + 1)))))), (7, .hs 1 0 u_194.length 1), (8, .hs 2 0 v5.length 1), (9, aI64 (v5.length : Int)), (10, aI64 j_21), (12, aU64 guess_164), (14, aI64 borrow_195), (15, aU64 carry_196), (136, aI64 (v5.length : Int)), (137, aI64 x_197)], [.own (q_19.flatMap (iC .u32)), .own (u_194.flatMap (iC .u32)), .own (v5.flatMap (iC .u32))]⟩) (Q := fun x st' => match (generalizing := false) o210 with | (u_202, borrow_203, carry_204) => x = .exit 4 ∧ Wk 0 st' ⟨mkS 266 0 [(4, .hs 0 0 q_19.length 1), (6, aU32 (wrapF .u32 (wrapF .u64 ((1000000000 : Int).tdiv (wrapF .u64 ((wrapF .u64 (gt b (wrapF .i64 ((b.length : Int) - 1)))) + 1)))))), (7, .hs 1 0 u_202.length 1), (8, .hs 2 0 v5.length 1), (9, aI64 (v5.length : Int)), (10, aI64 j_21), (12, aU64 guess_164), (14, aI64 borrow_203), (15, aU64 carry_204)], [.own (q_19.flatMap (iC .u32)), .own (u_202.flatMap (iC .u32)), .own (v5.flatMap (iC .u32))]⟩) hL211 ((Wk.gc [4, 6, 7, 8, 9, 10, 12, 14, 15, 136, 137] [(0, false), (1, false), (2, false)] rfl (pKo (iC .u32) (iC_pure _) q_19 (pKo (iC .u32) (iC_pure _) u_20 (pKo (iC .u32) (iC_pure _) v5 trivial)))).to) ?_ ?_
     ·clear hr
      rintro m ⟨u_194, borrow_195, carry_196, x_197⟩ hr
      show CQ _ _ _ _ _ ⟨_, _⟩
      refine .seq (.r4 G [4, 6, 7, 8, 9, 10, 12, 14, 15, 136, 137] [(138, aB (decide (x_197 < (v5.length : Int))))] (.seq ?_))
      refine .cd hr (fun hb206 hr => ?_) (fun hb206 hr => ?_)
      ·refine .skip (.seq (.block (.seq (.r4 G [4, 6, 7, 8, 9, 10, 12, 14, 15, 136, 137] [(16, aI64 x_197)] (.seq ?_)))))
       obtain ⟨hg207, hr⟩ := gd hr
       refine .r0 G (.mu 3 (.p0 (v := .hp 2 (0 + x_197.toNat * 1)) (tr (ofP_guard hg207)) (.p0 (v := aU32 (gt v5 x_197)) (tr (ofP_some (flat_get (iC_len .u32) (inR_lt hg207) (by decide : 0 < 1) (by omega : 0 + x_197.toNat * 1 = x_197.toNat * 1 + 0) (by kernel_rfl)))) (.mu 5 (.done (.nh [4, 6, 7, 8, 9, 10, 12, 14, 16, 17, 136, 137] [.own (q_19.flatMap (iC .u32)), .own (u_194.flatMap (iC .u32)), .own (v5.flatMap (iC .u32))] (.seq (.r4 G [4, 6, 7, 8, 9, 10, 12, 14, 16, 17, 136, 137] [(15, aU64 (wrapF .u64 ((wrapF .u64 ((wrapF .u64 (guess_164 * (wrapF .u64 (gt v5 x_197)))) + carry_196)).tdiv 1000000000)))] (.seq ?_)))))))))
       obtain ⟨hg208, hr⟩ := gd hr
       refine .r0 G (.mu 4 (.p0 (v := .hp 1 (0 + (wrapF .i64 (x_197 + j_21)).toNat * 1)) (tr (ofP_guard hg208)) (.p0 (v := aU32 (gt u_194 (wrapF .i64 (x_197 + j_21)))) (tr (ofP_some (flat_get (iC_len .u32) (inR_lt hg208) (by decide : 0 < 1) (by omega : 0 + (wrapF .i64 (x_197 + j_21)).toNat * 1 = (wrapF .i64 (x_197 + j_21)).toNat * 1 + 0) (by kernel_rfl)))) (.mu 8 (.done (.nh [4, 6, 7, 8, 9, 10, 12, 15, 16, 18, 136, 137] [.own (q_19.flatMap (iC .u32)), .own (u_194.flatMap (iC .u32)), .own (v5.flatMap (iC .u32))] (.seq (.r4 G [4, 6, 7, 8, 9, 10, 12, 15, 16, 18, 136, 137] [(14, aI64 0)] (.seq (.seq (.r4 G [4, 6, 7, 8, 9, 10, 12, 14, 15, 16, 18, 136, 137] [(165, aB (decide ((wrapF .i64 ((wrapF .i64 ((wrapF .i64 (gt u_194 (wrapF .i64 (x_197 + j_21)))) - borrow_195)) - (wrapF .i64 ((wrapF .u64 ((wrapF .u64 (guess_164 * (wrapF .u64 (gt v5 x_197)))) + carry_196)).tmod 1000000000)))) < 0)))] ?_)))))))))))
       refine .cd hr (fun hb209 hr => ?_) (fun hb209 hr => ?_)
       ·refine .r4 G [4, 6, 7, 8, 9, 10, 12, 15, 16, 136, 137] [(14, aI64 1), (18, aI64 (wrapF .i64 ((wrapF .i64 ((wrapF .i64 ((wrapF .i64 (gt u_194 (wrapF .i64 (x_197 + j_21)))) - borrow_195)) - (wrapF .i64 ((wrapF .u64 ((wrapF .u64 (guess_164 * (wrapF .u64 (gt v5 x_197)))) + carry_196)).tmod 1000000000)))) + 1000000000)))] (.r0 G (.mu 6 (.p0 (v := .hp 1 (0 + (wrapF .i64 (x_197 + j_21)).toNat * 1)) (tr (ofP_guard hg208)) (.e0 (v := .unk) (ws := [(1, .own ((u_194.set (wrapF .i64 (x_197 + j_21)).toNat (wrapF .u32 (wrapF .i64 ((wrapF .i64 ((wrapF .i64 ((wrapF .i64 (gt u_194 (wrapF .i64 (x_197 + j_21)))) - borrow_195)) - (wrapF .i64 ((wrapF .u64 ((wrapF .u64 (guess_164 * (wrapF .u64 (gt v5 x_197)))) + carry_196)).tmod 1000000000)))) + 1000000000)))).flatMap (iC .u32)))]) (tr (stO_t (and_t (flat_fits (n := 1) (iC_len .u32) (inR_lt hg208) (Nat.le_of_ble_eq_true rfl) (by omega : 0 + (wrapF .i64 (x_197 + j_21)).toNat * 1 = (wrapF .i64 (x_197 + j_21)).toNat * 1 + 0))) (congrArg Blk.own (flat_set (xs := [aU32 (wrapF .u32 (wrapF .i64 ((wrapF .i64 ((wrapF .i64 ((wrapF .i64 (gt u_194 (wrapF .i64 (x_197 + j_21)))) - borrow_195)) - (wrapF .i64 ((wrapF .u64 ((wrapF .u64 (guess_164 * (wrapF .u64 (gt v5 x_197)))) + carry_196)).tmod 1000000000)))) + 1000000000)))]) (iC_len .u32) (inR_lt hg208) (Nat.le_of_ble_eq_true rfl) (by omega : 0 + (wrapF .i64 (x_197 + j_21)).toNat * 1 = (wrapF .i64 (x_197 + j_21)).toNat * 1 + 0) (by kernel_rfl))))) (.done (.pop (.ru G ?_)))))))
        exact loopF_back (u_194.set (wrapF .i64 (x_197 + j_21)).toNat (wrapF .u32 (wrapF .i64 ((wrapF .i64 ((wrapF .i64 ((wrapF .i64 (gt u_194 (wrapF .i64 (x_197 + j_21)))) - borrow_195)) - (wrapF .i64 ((wrapF .u64 ((wrapF .u64 (guess_164 * (wrapF .u64 (gt v5 x_197)))) + carry_196)).tmod 1000000000)))) + 1000000000))), 1, wrapF .u64 ((wrapF .u64 ((wrapF .u64 (guess_164 * (wrapF .u64 (gt v5 x_197)))) + carry_196)).tdiv 1000000000), wrapF .i64 (x_197 + 1)) hr ((Wk.relen 7 (b := 1) (es := 1) (len := u_194.length) (u_194.set (wrapF .i64 (x_197 + j_21)).toNat (wrapF .u32 (wrapF .i64 ((wrapF .i64 ((wrapF .i64 ((wrapF .i64 (gt u_194 (wrapF .i64 (x_197 + j_21)))) - borrow_195)) - (wrapF .i64 ((wrapF .u64 ((wrapF .u64 (guess_164 * (wrapF .u64 (gt v5 x_197)))) + carry_196)).tmod 1000000000)))) + 1000000000)))).length (by kernel_rfl) (Eq.symm (List.length_set.trans rfl))).trans ((Wk.gc [4, 6, 7, 8, 9, 10, 12, 14, 15, 136, 137] [(0, false), (1, false), (2, false)] rfl (pKo (iC .u32) (iC_pure _) q_19 (pKo (iC .u32) (iC_pure _) (u_194.set (wrapF .i64 (x_197 + j_21)).toNat (wrapF .u32 (wrapF .i64 ((wrapF .i64 ((wrapF .i64 ((wrapF .i64 (gt u_194 (wrapF .i64 (x_197 + j_21)))) - borrow_195)) - (wrapF .i64 ((wrapF .u64 ((wrapF .u64 (guess_164 * (wrapF .u64 (gt v5 x_197)))) + carry_196)).tmod 1000000000)))) + 1000000000)))) (pKo (iC .u32) (iC_pure _) v5 trivial)))).to))
       ·refine .skip (.r0 G (.mu 6 (.p0 (v := .hp 1 (0 + (wrapF .i64 (x_197 + j_21)).toNat * 1)) (tr (ofP_guard hg208)) (.e0 (v := .unk) (ws := [(1, .own ((u_194.set (wrapF .i64 (x_197 + j_21)).toNat (wrapF .u32 (wrapF .i64 ((wrapF .i64 ((wrapF .i64 (gt u_194 (wrapF .i64 (x_197 + j_21)))) - borrow_195)) - (wrapF .i64 ((wrapF .u64 ((wrapF .u64 (guess_164 * (wrapF .u64 (gt v5 x_197)))) + carry_196)).tmod 1000000000)))))).flatMap (iC .u32)))]) (tr (stO_t (and_t (flat_fits (n := 1) (iC_len .u32) (inR_lt hg208) (Nat.le_of_ble_eq_true rfl) (by omega : 0 + (wrapF .i64 (x_197 + j_21)).toNat * 1 = (wrapF .i64 (x_197 + j_21)).toNat * 1 + 0))) (congrArg Blk.own (flat_set (xs := [aU32 (wrapF .u32 (wrapF .i64 ((wrapF .i64 ((wrapF .i64 (gt u_194 (wrapF .i64 (x_197 + j_21)))) - borrow_195)) - (wrapF .i64 ((wrapF .u64 ((wrapF .u64 (guess_164 * (wrapF .u64 (gt v5 x_197)))) + carry_196)).tmod 1000000000)))))]) (iC_len .u32) (inR_lt hg208) (Nat.le_of_ble_eq_true rfl) (by omega : 0 + (wrapF .i64 (x_197 + j_21)).toNat * 1 = (wrapF .i64 (x_197 + j_21)).toNat * 1 + 0) (by kernel_rfl))))) (.done (.pop (.ru G ?_)))))))
        exact loopF_back (u_194.set (wrapF .i64 (x_197 + j_21)).toNat (wrapF .u32 (wrapF .i64 ((wrapF .i64 ((wrapF .i64 (gt u_194 (wrapF .i64 (x_197 + j_21)))) - borrow_195)) - (wrapF .i64 ((wrapF .u64 ((wrapF .u64 (guess_164 * (wrapF .u64 (gt v5 x_197)))) + carry_196)).tmod 1000000000))))), 0, wrapF .u64 ((wrapF .u64 ((wrapF .u64 (guess_164 * (wrapF .u64 (gt v5 x_197)))) + carry_196)).tdiv 1000000000), wrapF .i64 (x_197 + 1)) hr ((Wk.relen 7 (b := 1) (es := 1) (len := u_194.length) (u_194.set (wrapF .i64 (x_197 + j_21)).toNat (wrapF .u32 (wrapF .i64 ((wrapF .i64 ((wrapF .i64 (gt u_194 (wrapF .i64 (x_197 + j_21)))) - borrow_195)) - (wrapF .i64 ((wrapF .u64 ((wrapF .u64 (guess_164 * (wrapF .u64 (gt v5 x_197)))) + carry_196)).tmod 1000000000)))))).length (by kernel_rfl) (Eq.symm (List.length_set.trans rfl))).trans ((Wk.gc [4, 6, 7, 8, 9, 10, 12, 14, 15, 136, 137] [(0, false), (1, false), (2, false)] rfl (pKo (iC .u32) (iC_pure _) q_19 (pKo (iC .u32) (iC_pure _) (u_194.set (wrapF .i64 (x_197 + j_21)).toNat (wrapF .u32 (wrapF .i64 ((wrapF .i64 ((wrapF .i64 (gt u_194 (wrapF .i64 (x_197 + j_21)))) - borrow_195)) - (wrapF .i64 ((wrapF .u64 ((wrapF .u64 (guess_164 * (wrapF .u64 (gt v5 x_197)))) + carry_196)).tmod 1000000000)))))) (pKo (iC .u32) (iC_pure _) v5 trivial)))).to))
      ·refine .leave rfl ?_
       obtain rfl := oi hr
       exact ⟨rfl, ((Wk.gc [4, 6, 7, 8, 9, 10, 12, 14, 15] [(0, false), (1, false), (2, false)] rfl (pKo (iC .u32) (iC_pure _) q_19 (pKo (iC .u32) (iC_pure _) u_194 (pKo (iC .u32) (iC_pure _) v5 trivial)))).to)⟩
     ·rcases o210 with ⟨u_202, borrow_203, carry_204⟩
      rintro x st' hq212
      clear hL211
      obtain ⟨rfl, hq212⟩ := hq212
      refine CQ_exit _ rfl (.wk hq212 (.seq ?_))
      obtain ⟨hg213, hr⟩ := gd hr
      refine .r0 G (.mu 4 (.p0 (v := .hp 1 (0 + (wrapF .i64 (j_21 + (v5.length : Int))).toNat * 1)) (tr (ofP_guard hg213)) (.p0 (v := aU32 (gt u_202 (wrapF .i64 (j_21 + (v5.length : Int))))) (tr (ofP_some (flat_get (iC_len .u32) (inR_lt hg213) (by decide : 0 < 1) (by omega : 0 + (wrapF .i64 (j_21 + (v5.length : Int))).toNat * 1 = (wrapF .i64 (j_21 + (v5.length : Int))).toNat * 1 + 0) (by kernel_rfl)))) (.mu 7 (.done (.nh [4, 6, 7, 8, 9, 10, 12, 19] [.own (q_19.flatMap (iC .u32)), .own (u_202.flatMap (iC .u32)), .own (v5.flatMap (iC .u32))] (.seq (.seq (.r4 G [4, 6, 7, 8, 9, 10, 12, 19] [(189, aB (decide ((wrapF .i64 ((wrapF .i64 ((wrapF .i64 (gt u_202 (wrapF .i64 (j_21 + (v5.length : Int))))) - borrow_203)) - (wrapF .i64 carry_204))) < 0)))] ?_)))))))))
      refine .cd hr (fun hb214 hr => ?_) (fun hb214 hr => ?_)
      ·refine .seq (.r0 G (.mu 7 (.p0 (v := .hp 1 (0 + (wrapF .i64 (j_21 + (v5.length : Int))).toNat * 1)) (tr (ofP_guard hg213)) (.e0 (v := .unk) (ws := [(1, .own ((u_202.set (wrapF .i64 (j_21 + (v5.length : Int))).toNat (wrapF .u32 (wrapF .i64 ((wrapF .i64 ((wrapF .i64 ((wrapF .i64 (gt u_202 (wrapF .i64 (j_21 + (v5.length : Int))))) - borrow_203)) - (wrapF .i64 carry_204))) + 1000000000)))).flatMap (iC .u32)))]) (tr (stO_t (and_t (flat_fits (n := 1) (iC_len .u32) (inR_lt hg213) (Nat.le_of_ble_eq_true rfl) (by omega : 0 + (wrapF .i64 (j_21 + (v5.length : Int))).toNat * 1 = (wrapF .i64 (j_21 + (v5.length : Int))).toNat * 1 + 0))) (congrArg Blk.own (flat_set (xs := [aU32 (wrapF .u32 (wrapF .i64 ((wrapF .i64 ((wrapF .i64 ((wrapF .i64 (gt u_202 (wrapF .i64 (j_21 + (v5.length : Int))))) - borrow_203)) - (wrapF .i64 carry_204))) + 1000000000)))]) (iC_len .u32) (inR_lt hg213) (Nat.le_of_ble_eq_true rfl) (by omega : 0 + (wrapF .i64 (j_21 + (v5.length : Int))).toNat * 1 = (wrapF .i64 (j_21 + (v5.length : Int))).toNat * 1 + 0) (by kernel_rfl))))) (.done (.nh [4, 6, 7, 8, 9, 10, 12] [.own (q_19.flatMap (iC .u32)), .own ((u_202.set (wrapF .i64 (j_21 + (v5.length : Int))).toNat (wrapF .u32 (wrapF .i64 ((wrapF .i64 ((wrapF .i64 ((wrapF .i64 (gt u_202 (wrapF .i64 (j_21 + (v5.length : Int))))) - borrow_203)) - (wrapF .i64 carry_204))) + 1000000000)))).flatMap (iC .u32)), .own (v5.flatMap (iC .u32))] (.seq (.r4 G [4, 6, 7, 8, 9, 10] [(12, aU64 (wrapF .u64 (guess_164 - 1)))] (.seq (.r4 G [4, 6, 7, 8, 9, 10, 12] [(20, aU32 0)] (.seq (.seq (.r4 G [4, 6, 7, 8, 9, 10, 12, 20] [(200, aI64 (v5.length : Int)), (201, aI64 0)] (.block ?_))))))))))))))
       replace hr := bd hr; obtain ⟨o229, hL230, hr⟩ := hr
       refine .loopO (σ := fun z0 => match z0 with | (u_215, c_216, x_217) => ⟨mkS 266 0 [(4, .hs 0 0 q_19.length 1), (6, aU32 (wrapF .u32 (wrapF .u64 ((1000000000 : Int).tdiv (wrapF .u64 ((wrapF .u64 (gt b (wrapF .i64 ((b.length : Int) - 1)))) + 1)))))), (7, .hs 1 0 u_215.length 1), (8, .hs 2 0 v5.length 1), (9, aI64 (v5.length : Int)), (10, aI64 j_21), (12, aU64 (wrapF .u64 (guess_164 - 1))), (20, aU32 c_216), (200, aI64 (v5.length : Int)), (201, aI64 x_217)], [.own (q_19.flatMap (iC .u32)), .own (u_215.flatMap (iC .u32)), .own (v5.flatMap (iC .u32))]⟩) (Q := fun x st' => match (generalizing := false) o229 with | (u_222, c_223) => x = .exit 6 ∧ Wk 0 st' ⟨mkS 266 0 [(4, .hs 0 0 q_19.length 1), (6, aU32 (wrapF .u32 (wrapF .u64 ((1000000000 : Int).tdiv (wrapF .u64 ((wrapF .u64 (gt b (wrapF .i64 ((b.length : Int) - 1)))) + 1)))))), (7, .hs 1 0 u_222.length 1), (8, .hs 2 0 v5.length 1), (9, aI64 (v5.length : Int)), (10, aI64 j_21), (12, aU64 (wrapF .u64 (guess_164 - 1))), (20, aU32 c_223)], [.own (q_19.flatMap (iC .u32)), .own (u_222.flatMap (iC .u32)), .own (v5.flatMap (iC .u32))]⟩) hL230 ((Wk.relen 7 (b := 1) (es := 1) (len := u_202.length) (u_202.set (wrapF .i64 (j_21 + (v5.length : Int))).toNat (wrapF .u32 (wrapF .i64 ((wrapF .i64 ((wrapF .i64 ((wrapF .i64 (gt u_202 (wrapF .i64 (j_21 + (v5.length : Int))))) - borrow_203)) - (wrapF .i64 carry_204))) + 1000000000)))).length (by kernel_rfl) (Eq.symm (List.length_set.trans rfl))).trans ((Wk.gc [4, 6, 7, 8, 9, 10, 12, 20, 200, 201] [(0, false), (1, false), (2, false)] rfl (pKo (iC .u32) (iC_pure _) q_19 (pKo (iC .u32) (iC_pure _) (u_202.set (wrapF .i64 (j_21 + (v5.length : Int))).toNat (wrapF .u32 (wrapF .i64 ((wrapF .i64 ((wrapF .i64 ((wrapF .i64 (gt u_202 (wrapF .i64 (j_21 + (v5.length : Int))))) - borrow_203)) - (wrapF .i64 carry_204))) + 1000000000)))) (pKo (iC .u32) (iC_pure _) v5 trivial)))).to)) ?_ ?_
       ·clear hr
        rintro m ⟨u_215, c_216, x_217⟩ hr
        show CQ _ _ _ _ _ ⟨_, _⟩
        refine .seq (.r4 G [4, 6, 7, 8, 9, 10, 12, 20, 200, 201] [(202, aB (decide (x_217 < (v5.length : Int))))] (.seq ?_))
        refine .cd hr (fun hb225 hr => ?_) (fun hb225 hr => ?_)
        ·refine .skip (.seq (.block (.seq (.r4 G [4, 6, 7, 8, 9, 10, 12, 20, 200, 201] [(21, aI64 x_217)] (.seq ?_)))))
         obtain ⟨hg226, hg227, hr⟩ := gd2 hr
         refine .regionT G callOf_nil (.mu 4 (.pure (v := .hp 1 (0 + (wrapF .i64 (x_217 + j_21)).toNat * 1)) (by kernel_rfl) (tr (ofP_guard hg226)) (by kernel_rfl) (.pure (v := aU32 (gt u_215 (wrapF .i64 (x_217 + j_21)))) (by kernel_rfl) (tr (ofP_some (flat_get (iC_len .u32) (inR_lt hg226) (by decide : 0 < 1) (by omega : 0 + (wrapF .i64 (x_217 + j_21)).toNat * 1 = (wrapF .i64 (x_217 + j_21)).toNat * 1 + 0) (by kernel_rfl)))) (by kernel_rfl) (.mu 2 (.pure (v := .hp 2 (0 + x_217.toNat * 1)) (by kernel_rfl) (tr (ofP_guard hg227)) (by kernel_rfl) (.pure (v := aU32 (gt v5 x_217)) (by kernel_rfl) (tr (ofP_some (flat_get (iC_len .u32) (inR_lt hg227) (by decide : 0 < 1) (by omega : 0 + x_217.toNat * 1 = x_217.toNat * 1 + 0) (by kernel_rfl)))) (by kernel_rfl) (.mu 4 ?_)))))))
         refine .done ⟨by kernel_rfl, ?_⟩
         refine .nh [4, 6, 7, 8, 9, 10, 12, 21, 22, 200, 201] [.own (q_19.flatMap (iC .u32)), .own (u_215.flatMap (iC .u32)), .own (v5.flatMap (iC .u32))] (.seq (.r4 G [4, 6, 7, 8, 9, 10, 12, 21, 22, 200, 201] [(20, aU32 0)] (.seq (.seq (.r4 G [4, 6, 7, 8, 9, 10, 12, 20, 21, 22, 200, 201] [(218, aB (decide ((wrapF .u32 ((wrapF .u32 ((gt u_215 (wrapF .i64 (x_217 + j_21))) + (gt v5 x_217))) + c_216)) ≥ 1000000000)))] ?_)))))
         refine .cd hr (fun hb228 hr => ?_) (fun hb228 hr => ?_)
         ·refine .r4 G [4, 6, 7, 8, 9, 10, 12, 21, 200, 201] [(20, aU32 1), (22, aU32 (wrapF .u32 ((wrapF .u32 ((wrapF .u32 ((gt u_215 (wrapF .i64 (x_217 + j_21))) + (gt v5 x_217))) + c_216)) - 1000000000)))] (.r0 G (.mu 5 (.p0 (v := .hp 1 (0 + (wrapF .i64 (x_217 + j_21)).toNat * 1)) (tr (ofP_guard hg226)) (.e0 (v := .unk) (ws := [(1, .own ((u_215.set (wrapF .i64 (x_217 + j_21)).toNat (wrapF .u32 ((wrapF .u32 ((wrapF .u32 ((gt u_215 (wrapF .i64 (x_217 + j_21))) + (gt v5 x_217))) + c_216)) - 1000000000))).flatMap (iC .u32)))]) (tr (stO_t (and_t (flat_fits (n := 1) (iC_len .u32) (inR_lt hg226) (Nat.le_of_ble_eq_true rfl) (by omega : 0 + (wrapF .i64 (x_217 + j_21)).toNat * 1 = (wrapF .i64 (x_217 + j_21)).toNat * 1 + 0))) (congrArg Blk.own (flat_set (xs := [aU32 (wrapF .u32 ((wrapF .u32 ((wrapF .u32 ((gt u_215 (wrapF .i64 (x_217 + j_21))) + (gt v5 x_217))) + c_216)) - 1000000000))]) (iC_len .u32) (inR_lt hg226) (Nat.le_of_ble_eq_true rfl) (by omega : 0 + (wrapF .i64 (x_217 + j_21)).toNat * 1 = (wrapF .i64 (x_217 + j_21)).toNat * 1 + 0) (by kernel_rfl))))) (.done (.pop (.ru G ?_)))))))
          exact loopF_back (u_215.set (wrapF .i64 (x_217 + j_21)).toNat (wrapF .u32 ((wrapF .u32 ((wrapF .u32 ((gt u_215 (wrapF .i64 (x_217 + j_21))) + (gt v5 x_217))) + c_216)) - 1000000000)), 1, wrapF .i64 (x_217 + 1)) hr ((Wk.relen 7 (b := 1) (es := 1) (len := u_215.length) (u_215.set (wrapF .i64 (x_217 + j_21)).toNat (wrapF .u32 ((wrapF .u32 ((wrapF .u32 ((gt u_215 (wrapF .i64 (x_217 + j_21))) + (gt v5 x_217))) + c_216)) - 1000000000))).length (by kernel_rfl) (Eq.symm (List.length_set.trans rfl))).trans ((Wk.gc [4, 6, 7, 8, 9, 10, 12, 20, 200, 201] [(0, false), (1, false), (2, false)] rfl (pKo (iC .u32) (iC_pure _) q_19 (pKo (iC .u32) (iC_pure _) (u_215.set (wrapF .i64 (x_217 + j_21)).toNat (wrapF .u32 ((wrapF .u32 ((wrapF .u32 ((gt u_215 (wrapF .i64 (x_217 + j_21))) + (gt v5 x_217))) + c_216)) - 1000000000))) (pKo (iC .u32) (iC_pure _) v5 trivial)))).to))
         ·refine .skip (.r0 G (.mu 5 (.p0 (v := .hp 1 (0 + (wrapF .i64 (x_217 + j_21)).toNat * 1)) (tr (ofP_guard hg226)) (.e0 (v := .unk) (ws := [(1, .own ((u_215.set (wrapF .i64 (x_217 + j_21)).toNat (wrapF .u32 ((wrapF .u32 ((gt u_215 (wrapF .i64 (x_217 + j_21))) + (gt v5 x_217))) + c_216))).flatMap (iC .u32)))]) (tr (stO_t (and_t (flat_fits (n := 1) (iC_len .u32) (inR_lt hg226) (Nat.le_of_ble_eq_true rfl) (by omega : 0 + (wrapF .i64 (x_217 + j_21)).toNat * 1 = (wrapF .i64 (x_217 + j_21)).toNat * 1 + 0))) (congrArg Blk.own (flat_set (xs := [aU32 (wrapF .u32 ((wrapF .u32 ((gt u_215 (wrapF .i64 (x_217 + j_21))) + (gt v5 x_217))) + c_216))]) (iC_len .u32) (inR_lt hg226) (Nat.le_of_ble_eq_true rfl) (by omega : 0 + (wrapF .i64 (x_217 + j_21)).toNat * 1 = (wrapF .i64 (x_217 + j_21)).toNat * 1 + 0) (by kernel_rfl))))) (.done (.pop (.ru G ?_)))))))
          exact loopF_back (u_215.set (wrapF .i64 (x_217 + j_21)).toNat (wrapF .u32 ((wrapF .u32 ((gt u_215 (wrapF .i64 (x_217 + j_21))) + (gt v5 x_217))) + c_216)), 0, wrapF .i64 (x_217 + 1)) hr ((Wk.relen 7 (b := 1) (es := 1) (len := u_215.length) (u_215.set (wrapF .i64 (x_217 + j_21)).toNat (wrapF .u32 ((wrapF .u32 ((gt u_215 (wrapF .i64 (x_217 + j_21))) + (gt v5 x_217))) + c_216))).length (by kernel_rfl) (Eq.symm (List.length_set.trans rfl))).trans ((Wk.gc [4, 6, 7, 8, 9, 10, 12, 20, 200, 201] [(0, false), (1, false), (2, false)] rfl (pKo (iC .u32) (iC_pure _) q_19 (pKo (iC .u32) (iC_pure _) (u_215.set (wrapF .i64 (x_217 + j_21)).toNat (wrapF .u32 ((wrapF .u32 ((gt u_215 (wrapF .i64 (x_217 + j_21))) + (gt v5 x_217))) + c_216))) (pKo (iC .u32) (iC_pure _) v5 trivial)))).to))
        ·refine .leave rfl ?_
         obtain rfl := oi hr
         exact ⟨rfl, ((Wk.gc [4, 6, 7, 8, 9, 10, 12, 20] [(0, false), (1, false), (2, false)] rfl (pKo (iC .u32) (iC_pure _) q_19 (pKo (iC .u32) (iC_pure _) u_215 (pKo (iC .u32) (iC_pure _) v5 trivial)))).to)⟩
       ·rcases o229 with ⟨u_222, c_223⟩
        rintro x st' hq231
        clear hL230
        obtain ⟨rfl, hq231⟩ := hq231
        refine CQ_exit _ rfl (.wk hq231 ?_)
        obtain ⟨hg232, hr⟩ := gd hr
        refine .r0 G (.mu 8 (.p0 (v := .hp 1 (0 + (wrapF .i64 (j_21 + (v5.length : Int))).toNat * 1)) (tr (ofP_guard hg232)) (.p0 (v := aU32 (gt u_222 (wrapF .i64 (j_21 + (v5.length : Int))))) (tr (ofP_some (flat_get (iC_len .u32) (inR_lt hg232) (by decide : 0 < 1) (by omega : 0 + (wrapF .i64 (j_21 + (v5.length : Int))).toNat * 1 = (wrapF .i64 (j_21 + (v5.length : Int))).toNat * 1 + 0) (by kernel_rfl)))) (.mu 3 (.p0 (v := .hp 1 (0 + (wrapF .i64 (j_21 + (v5.length : Int))).toNat * 1)) (tr (ofP_guard hg232)) (.e0 (v := .unk) (ws := [(1, .own ((u_222.set (wrapF .i64 (j_21 + (v5.length : Int))).toNat ((wrapF .u32 ((gt u_222 (wrapF .i64 (j_21 + (v5.length : Int)))) + c_223)).tmod 1000000000)).flatMap (iC .u32)))]) (tr (stO_t (and_t (flat_fits (n := 1) (iC_len .u32) (inR_lt hg232) (Nat.le_of_ble_eq_true rfl) (by omega : 0 + (wrapF .i64 (j_21 + (v5.length : Int))).toNat * 1 = (wrapF .i64 (j_21 + (v5.length : Int))).toNat * 1 + 0))) (congrArg Blk.own (flat_set (xs := [aU32 ((wrapF .u32 ((gt u_222 (wrapF .i64 (j_21 + (v5.length : Int)))) + c_223)).tmod 1000000000)]) (iC_len .u32) (inR_lt hg232) (Nat.le_of_ble_eq_true rfl) (by omega : 0 + (wrapF .i64 (j_21 + (v5.length : Int))).toNat * 1 = (wrapF .i64 (j_21 + (v5.length : Int))).toNat * 1 + 0) (by kernel_rfl))))) (.done (.nh [4, 6, 7, 8, 9, 10, 12] [.own (q_19.flatMap (iC .u32)), .own ((u_222.set (wrapF .i64 (j_21 + (v5.length : Int))).toNat ((wrapF .u32 ((gt u_222 (wrapF .i64 (j_21 + (v5.length : Int)))) + c_223)).tmod 1000000000)).flatMap (iC .u32)), .own (v5.flatMap (iC .u32))] ?_))))))))
        obtain ⟨hg233, hr⟩ := gd hr
        refine .r0 G (.mu 4 (.p0 (v := .hp 0 (0 + j_21.toNat * 1)) (tr (ofP_guard hg233)) (.e0 (v := .unk) (ws := [(0, .own ((q_19.set j_21.toNat (wrapF .u32 (wrapF .u64 (guess_164 - 1)))).flatMap (iC .u32)))]) (tr (stO_t (and_t (flat_fits (n := 1) (iC_len .u32) (inR_lt hg233) (Nat.le_of_ble_eq_true rfl) (by omega : 0 + j_21.toNat * 1 = j_21.toNat * 1 + 0))) (congrArg Blk.own (flat_set (xs := [aU32 (wrapF .u32 (wrapF .u64 (guess_164 - 1)))]) (iC_len .u32) (inR_lt hg233) (Nat.le_of_ble_eq_true rfl) (by omega : 0 + j_21.toNat * 1 = j_21.toNat * 1 + 0) (by kernel_rfl))))) (.done (.pop (.ru G ?_))))))
        exact loopF_back (q_19.set j_21.toNat (wrapF .u32 (wrapF .u64 (guess_164 - 1))), u_222.set (wrapF .i64 (j_21 + (v5.length : Int))).toNat ((wrapF .u32 ((gt u_222 (wrapF .i64 (j_21 + (v5.length : Int)))) + c_223)).tmod 1000000000), wrapF .i64 (j_21 - 1)) hr ((Wk.relen 4 (b := 0) (es := 1) (len := q_19.length) (q_19.set j_21.toNat (wrapF .u32 (wrapF .u64 (guess_164 - 1)))).length (by kernel_rfl) (Eq.symm (List.length_set.trans rfl))).trans ((Wk.relen 7 (b := 1) (es := 1) (len := u_222.length) (u_222.set (wrapF .i64 (j_21 + (v5.length : Int))).toNat ((wrapF .u32 ((gt u_222 (wrapF .i64 (j_21 + (v5.length : Int)))) + c_223)).tmod 1000000000)).length (by kernel_rfl) (Eq.symm (List.length_set.trans rfl))).trans ((Wk.gc [4, 6, 7, 8, 9, 10] [(0, false), (1, false), (2, false)] rfl (pKo (iC .u32) (iC_pure _) (q_19.set j_21.toNat (wrapF .u32 (wrapF .u64 (guess_164 - 1)))) (pKo (iC .u32) (iC_pure _) (u_222.set (wrapF .i64 (j_21 + (v5.length : Int))).toNat ((wrapF .u32 ((gt u_222 (wrapF .i64 (j_21 + (v5.length : Int)))) + c_223)).tmod 1000000000)) (pKo (iC .u32) (iC_pure _) v5 trivial)))).to)))
      ·refine .r0 G (.mu 6 (.p0 (v := .hp 1 (0 + (wrapF .i64 (j_21 + (v5.length : Int))).toNat * 1)) (tr (ofP_guard hg213)) (.e0 (v := .unk) (ws := [(1, .own ((u_202.set (wrapF .i64 (j_21 + (v5.length : Int))).toNat (wrapF .u32 (wrapF .i64 ((wrapF .i64 ((wrapF .i64 (gt u_202 (wrapF .i64 (j_21 + (v5.length : Int))))) - borrow_203)) - (wrapF .i64 carry_204))))).flatMap (iC .u32)))]) (tr (stO_t (and_t (flat_fits (n := 1) (iC_len .u32) (inR_lt hg213) (Nat.le_of_ble_eq_true rfl) (by omega : 0 + (wrapF .i64 (j_21 + (v5.length : Int))).toNat * 1 = (wrapF .i64 (j_21 + (v5.length : Int))).toNat * 1 + 0))) (congrArg Blk.own (flat_set (xs := [aU32 (wrapF .u32 (wrapF .i64 ((wrapF .i64 ((wrapF .i64 (gt u_202 (wrapF .i64 (j_21 + (v5.length : Int))))) - borrow_203)) - (wrapF .i64 carry_204))))]) (iC_len .u32) (inR_lt hg213) (Nat.le_of_ble_eq_true rfl) (by omega : 0 + (wrapF .i64 (j_21 + (v5.length : Int))).toNat * 1 = (wrapF .i64 (j_21 + (v5.length : Int))).toNat * 1 + 0) (by kernel_rfl))))) (.done (.nh [4, 6, 7, 8, 9, 10, 12] [.own (q_19.flatMap (iC .u32)), .own ((u_202.set (wrapF .i64 (j_21 + (v5.length : Int))).toNat (wrapF .u32 (wrapF .i64 ((wrapF .i64 ((wrapF .i64 (gt u_202 (wrapF .i64 (j_21 + (v5.length : Int))))) - borrow_203)) - (wrapF .i64 carry_204))))).flatMap (iC .u32)), .own (v5.flatMap (iC .u32))] ?_)))))
       obtain ⟨hg234, hr⟩ := gd hr
       refine .r0 G (.mu 4 (.p0 (v := .hp 0 (0 + j_21.toNat * 1)) (tr (ofP_guard hg234)) (.e0 (v := .unk) (ws := [(0, .own ((q_19.set j_21.toNat (wrapF .u32 guess_164)).flatMap (iC .u32)))]) (tr (stO_t (and_t (flat_fits (n := 1) (iC_len .u32) (inR_lt hg234) (Nat.le_of_ble_eq_true rfl) (by omega : 0 + j_21.toNat * 1 = j_21.toNat * 1 + 0))) (congrArg Blk.own (flat_set (xs := [aU32 (wrapF .u32 guess_164)]) (iC_len .u32) (inR_lt hg234) (Nat.le_of_ble_eq_true rfl) (by omega : 0 + j_21.toNat * 1 = j_21.toNat * 1 + 0) (by kernel_rfl))))) (.done (.pop (.ru G ?_))))))
       exact loopF_back (q_19.set j_21.toNat (wrapF .u32 guess_164), u_202.set (wrapF .i64 (j_21 + (v5.length : Int))).toNat (wrapF .u32 (wrapF .i64 ((wrapF .i64 ((wrapF .i64 (gt u_202 (wrapF .i64 (j_21 + (v5.length : Int))))) - borrow_203)) - (wrapF .i64 carry_204)))), wrapF .i64 (j_21 - 1)) hr ((Wk.relen 4 (b := 0) (es := 1) (len := q_19.length) (q_19.set j_21.toNat (wrapF .u32 guess_164)).length (by kernel_rfl) (Eq.symm (List.length_set.trans rfl))).trans ((Wk.relen 7 (b := 1) (es := 1) (len := u_202.length) (u_202.set (wrapF .i64 (j_21 + (v5.length : Int))).toNat (wrapF .u32 (wrapF .i64 ((wrapF .i64 ((wrapF .i64 (gt u_202 (wrapF .i64 (j_21 + (v5.length : Int))))) - borrow_203)) - (wrapF .i64 carry_204))))).length (by kernel_rfl) (Eq.symm (List.length_set.trans rfl))).trans ((Wk.gc [4, 6, 7, 8, 9, 10] [(0, false), (1, false), (2, false)] rfl (pKo (iC .u32) (iC_pure _) (q_19.set j_21.toNat (wrapF .u32 guess_164)) (pKo (iC .u32) (iC_pure _) (u_202.set (wrapF .i64 (j_21 + (v5.length : Int))).toNat (wrapF .u32 (wrapF .i64 ((wrapF .i64 ((wrapF .i64 (gt u_202 (wrapF .i64 (j_21 + (v5.length : Int))))) - borrow_203)) - (wrapF .i64 carry_204))))) (pKo (iC .u32) (iC_pure _) v5 trivial)))).to)))
   ·refine .leave rfl ?_
    obtain rfl := oi hr
    exact ⟨rfl, ((Wk.gc [4, 6, 7, 9] [(0, false), (1, false)] rfl (pKo (iC .u32) (iC_pure _) q_19 (pKo (iC .u32) (iC_pure _) u_20 trivial))).to)⟩
  ·rcases o235 with ⟨q_127, u_128⟩
   rintro x st' hq237
   clear hL236
   obtain ⟨rfl, hq237⟩ := hq237
   refine CQ_exit _ rfl (.wk hq237 (.seq ?_))
   obtain ⟨hg238, hr⟩ := gd hr
   obtain ⟨v239, hc240, v241, hc242, hr⟩ := bd2 hr
   refine .gn G (ca1 (callOk_ref (args := [.hs 1 0 (v5.length : Int).toNat 1]) (l := [1]) (SnL.cons (Sn.hsk (iC_len _) (iC_pure _) (inS_le hg238) rfl (.inl rfl)) SnL.nil) (integer_trim_ok n (u_128.take (v5.length : Int).toNat) v239 hc240)) (ca4 [.own (q_127.flatMap (iC .u32)), .fix (u_128.flatMap (iC .u32))] (ok0 (integer_short_ok n v239 (wrapF .u32 (wrapF .u64 ((1000000000 : Int).tdiv (wrapF .u64 ((wrapF .u64 (gt b (wrapF .i64 ((b.length : Int) - 1)))) + 1))))) v241 hc242)))) (.mu 2 (.p0 (v := .hs 1 0 (v5.length : Int).toNat 1) (Eq.trans (b := slH (inS 0 (v5.length : Int) u_128.length) true ((0 : Int).toNat) ((v5.length : Int).toNat) (fun z1 z2 => .hs 1 (0 + z1 * 1) (z2 - z1) 1)) (by kernel_rfl) (slH_t hg238 (by kernel_rfl))) (.ca cf0 (.mu 1 (.ca (cfF cf0) (.mu 4 (.done (.nh [4, 5] [.own (q_127.flatMap (iC .u32)), .fix (u_128.flatMap (iC .u32))] (.seq ?_)))))))))
   obtain ⟨v243, hc244, hr⟩ := bd hr
   refine .g1 G (callOk_ref (args := [.hs 0 0 q_127.length 1]) (l := [0]) (SnL.cons (Sn.hs rfl (.inl rfl) (SnC.pure (ids_flat (iC_pure _) _)) (fun h => flat_nil0 h)) SnL.nil) (integer_trim_ok n q_127 v243 hc244)) (.mu 1 (.ca cf0 (.mu 3 (.done (.ret ?_)))))
   obtain rfl := oi hr
   exact FinQ.ret (vs := [sU32 v243, sU32 v241.1]) (by kernel_rfl) (Sn.tup (SnL.cons (Sn.pure rfl) (SnL.cons (Sn.pure rfl) SnL.nil)))

theorem integer_over_ok (n : Nat) (a : List Int) (b : List Int) (r : List Int × List Int) (hr : integer_over n a b = some r) : FnOk Tryz.prog 123 [sU32 a, sU32 b] (.tup [sU32 r.1, sU32 r.2]) := by
 unfold integer_over at hr
 refine FnOk.bd G Tryz.func123 [.tmp 4, .tmp 5] ?_
 unfold Tryz.f123
 simp only [Option.getD_some]
 refine .seq (.r4 G [0, 1] [] (.seq (.seq ?_)))
 obtain ⟨v1, hc2, hr⟩ := bd hr
 refine .g1 G (ok0 (integer_compare_ok n a b v1 hc2)) (.mu 2 (.ca cf0 (.mu 1 (.done (.nh [0, 1, 15] [] ?_)))))
 refine .cd hr (fun hb3 hr => ?_) (fun hb3 hr => ?_)
 ·refine .seq (.r3 G 59 [(4, nS), (5, sU32 a)] (.ret ?_))
  obtain rfl := oi hr
  exact FinQ.ret (vs := [nS, sU32 a]) (by kernel_rfl) (Sn.tup (SnL.cons Sn.nilsl (SnL.cons (Sn.pure rfl) SnL.nil)))
 ·refine .skip (.seq ?_)
  obtain ⟨v4, hc5, hr⟩ := bd hr
  refine .g1 G (ok0 (integer_word_ok n a v4 hc5)) (.mu 1 (.ca cf0 (.mu 5 (.done (.nh [0, 1, 6, 7] [] (.seq ?_))))))
  obtain ⟨v6, hc7, hr⟩ := bd hr
  refine .g1 G (ok0 (integer_word_ok n b v6 hc7)) (.mu 1 (.ca cf0 (.mu 5 (.done (.nh [0, 1, 6, 7, 8, 9] [] (.seq (.seq ?_)))))))
  rcases Bool.eq_false_or_eq_true v4.2 with hb8 | hb8
  ·replace hr := cd_t hb8 hr
   refine .r0 G (.p0 (v := aB true) (eB hb8) (.mu 3 (.done (.nh [0, 1, 6, 8, 30] [] ?_))))
   refine .cd hr (fun hb9 hr => ?_) (fun hb9 hr => ?_)
   ·refine .seq ?_
    obtain ⟨hg10, hr⟩ := gd hr
    obtain ⟨v11, hc12, v13, hc14, hr⟩ := bd2 hr
    refine .tn G (ca1 (ok0 (integer_split_ok n (wrapF .u64 (v4.1.tdiv v6.1)) v11 hc12)) (ca3 (ok0 (integer_split_ok n (v4.1.tmod v6.1) v13 hc14)))) (.mu 2 (.pure (v := aU64 (wrapF .u64 (v4.1.tdiv v6.1))) (by kernel_rfl) (op_quo (x := v4.1) (y := v6.1) (by kernel_rfl) (by kernel_rfl) hg10) (by kernel_rfl) (.ca cf0 (.mu 2 (.pure (v := aU64 (v4.1.tmod v6.1)) (by kernel_rfl) (op_rem (x := v4.1) (y := v6.1) (by kernel_rfl) (by kernel_rfl) hg10) (by kernel_rfl) (.ca (cfA (fun h => by rw [sv hc14 hc12 (integer_split_cg n h)]) cf0) (.mu 2 ?_)))))))
    refine .done ⟨by kernel_rfl, ?_⟩
    refine .ret ?_
    obtain rfl := oi hr
    exact FinQ.ret (vs := [sU32 v11, sU32 v13]) (by kernel_rfl) (Sn.tup (SnL.cons (Sn.pure rfl) (SnL.cons (Sn.pure rfl) SnL.nil)))
   ·refine .skip (.seq (.seq (.r4 G [0, 1] [(41, aB (((b.length : Int) : Int) == 1))] ?_)))
    refine .cd hr (fun hb15 hr => ?_) (fun hb15 hr => ?_)
    ·refine .seq ?_
     obtain ⟨hg16, hr⟩ := gd hr
     obtain ⟨v17, hc18, hr⟩ := bd hr
     refine .g1 G (ok0 (integer_short_ok n a (gt b 0) v17 hc18)) (.mu 2 (.p0 (v := .pp (b.flatMap (iC .u32)) ((0 : Int).toNat * 1)) (tr (ofP_guard hg16)) (.p0 (v := aU32 (gt b 0)) (tr (ofP_some (flat_get (iC_len .u32) (inR_lt hg16) (by decide : 0 < 1) (by omega : (0 : Int).toNat * 1 = (0 : Int).toNat * 1 + 0) (by kernel_rfl)))) (.ca cf0 (.mu 5 (.done (.nh [10, 11] [] (.seq ?_))))))))
     obtain ⟨v19, hc20, hr⟩ := bd hr
     refine .g1 G (ok0 (integer_split_ok n (wrapF .u64 v17.2) v19 hc20)) (.mu 3 (.ca cf0 (.mu 2 (.done (.ret ?_)))))
     obtain rfl := oi hr
     exact FinQ.ret (vs := [sU32 v17.1, sU32 v19]) (by kernel_rfl) (Sn.tup (SnL.cons (Sn.pure rfl) (SnL.cons (Sn.pure rfl) SnL.nil)))
    ·refine .skip (.seq ?_)
     obtain ⟨v21, hc22, hr⟩ := bd hr
     refine .g1 G (ok0 (integer_long_ok n a b v21 hc22)) (.mu 2 (.ca cf0 (.mu 4 (.done (.ret ?_)))))
     obtain rfl := oi hr
     exact FinQ.ret (vs := [sU32 v21.1, sU32 v21.2]) (by kernel_rfl) (Sn.tup (SnL.cons (Sn.pure rfl) (SnL.cons (Sn.pure rfl) SnL.nil)))
  ·replace hr := cd_f hb8 hr
   refine .r0 G (.p0 (v := aB false) (eB hb8) (.mu 3 (.done (.nh [0, 1, 6, 8, 30] [] (.cF (by kernel_rfl) (.skip (.seq (.seq (.r4 G [0, 1] [(41, aB (((b.length : Int) : Int) == 1))] ?_)))))))))
   refine .cd hr (fun hb23 hr => ?_) (fun hb23 hr => ?_)
   ·refine .seq ?_
    obtain ⟨hg24, hr⟩ := gd hr
    obtain ⟨v25, hc26, hr⟩ := bd hr
    refine .g1 G (ok0 (integer_short_ok n a (gt b 0) v25 hc26)) (.mu 2 (.p0 (v := .pp (b.flatMap (iC .u32)) ((0 : Int).toNat * 1)) (tr (ofP_guard hg24)) (.p0 (v := aU32 (gt b 0)) (tr (ofP_some (flat_get (iC_len .u32) (inR_lt hg24) (by decide : 0 < 1) (by omega : (0 : Int).toNat * 1 = (0 : Int).toNat * 1 + 0) (by kernel_rfl)))) (.ca cf0 (.mu 5 (.done (.nh [10, 11] [] (.seq ?_))))))))
    obtain ⟨v27, hc28, hr⟩ := bd hr
    refine .g1 G (ok0 (integer_split_ok n (wrapF .u64 v25.2) v27 hc28)) (.mu 3 (.ca cf0 (.mu 2 (.done (.ret ?_)))))
    obtain rfl := oi hr
    exact FinQ.ret (vs := [sU32 v25.1, sU32 v27]) (by kernel_rfl) (Sn.tup (SnL.cons (Sn.pure rfl) (SnL.cons (Sn.pure rfl) SnL.nil)))
   ·refine .skip (.seq ?_)
    obtain ⟨v29, hc30, hr⟩ := bd hr
    refine .g1 G (ok0 (integer_long_ok n a b v29 hc30)) (.mu 2 (.ca cf0 (.mu 4 (.done (.ret ?_)))))
    obtain rfl := oi hr
    exact FinQ.ret (vs := [sU32 v29.1, sU32 v29.2]) (by kernel_rfl) (Sn.tup (SnL.cons (Sn.pure rfl) (SnL.cons (Sn.pure rfl) SnL.nil)))

theorem integer_Gcd_ok (n : Nat) (x' : api_Int) (y : api_Int) (r : api_Int) (hr : integer_Gcd n x' y = some r) : FnOk Tryz.prog 111 [.agg (api_Int.c x'), .agg (api_Int.c y)] (.agg (api_Int.c r)) := by
 unfold integer_Gcd at hr
 refine FnOk.bd G Tryz.func111 [.cell 4 50] ?_
 unfold Tryz.f111
 simp only [Option.getD_some]
 refine .seq (.r2 G 54 [(2, .hp 0 0), (3, .hp 1 0), (4, .hp 2 0)] [.own (api_Int.c x'), .own (api_Int.c y), .own [aB false, nS]] (.seq ?_))
 obtain ⟨v1, hc2, v3, hc4, hr⟩ := bd2 hr
 refine .tn G (ca1 (ok0 (integer_groups_ok n x' v1 hc2)) (ca3 (ok0 (integer_groups_ok n y v3 hc4)))) (.mu 1 (.ca cf0 (.mu 1 (.ca (cfA (fun h => by rw [sv hc4 hc2 (integer_groups_cg n h)]) cf0) (.mu 2 ?_)))))
 refine .done ⟨by kernel_rfl, ?_⟩
 refine .nh [4, 5, 6] [.own (api_Int.c x'), .own (api_Int.c y), .own [aB false, nS]] (.seq (.block ?_))
 replace hr := bd hr; obtain ⟨o61, hL62, hr⟩ := hr
 refine .loopO (σ := fun z0 => match z0 with | (a_5, b_6) => ⟨mkS 54 0 [(4, .hp 0 0), (5, sU32 a_5), (6, sU32 b_6)], [.own [aB false, nS]]⟩) (Q := fun x st' => match (generalizing := false) o61 with | .inl a_33 => x = .exit 0 ∧ Wk 0 st' ⟨mkS 54 0 [(4, .hp 0 0), (5, sU32 a_33)], [.own [aB false, nS]]⟩ | .inr (r0) => x = .ret ∧ FinQ Tryz.prog [.cell 4 50] (.agg (api_Int.c r0)) .ret st') hL62 ((Wk.gc [4, 5, 6] [(2, true)] rfl trivial).to) ?_ ?_
 ·clear hr
  rintro m ⟨a_5, b_6⟩ hr
  show CQ _ _ _ _ _ ⟨_, _⟩
  refine .seq (.seq (.r4 G [4, 5, 6] [(19, aB (decide ((b_6.length : Int) > 0)))] ?_))
  refine .cd hr (fun hb35 hr => ?_) (fun hb35 hr => ?_)
  ·refine .skip (.block (.seq ?_))
   obtain ⟨v36, hc37, hr⟩ := bd hr
   refine .g1 G (ok0 (integer_word_ok n a_5 v36 hc37)) (.mu 1 (.ca cf0 (.mu 5 (.done (.nh [4, 5, 6, 7, 8] [.own [aB false, nS]] (.seq ?_))))))
   obtain ⟨v38, hc39, hr⟩ := bd hr
   refine .g1 G (ok0 (integer_word_ok n b_6 v38 hc39)) (.mu 1 (.ca cf0 (.mu 5 (.done (.nh [4, 5, 6, 7, 8, 9, 10] [.own [aB false, nS]] (.seq (.seq ?_)))))))
   rcases Bool.eq_false_or_eq_true v36.2 with hb40 | hb40
   ·replace hr := cd_t hb40 hr
    refine .r0 G (.p0 (v := aB true) (eB hb40) (.mu 3 (.done (.nh [4, 5, 6, 7, 9, 33] [.own [aB false, nS]] ?_))))
    refine .cd hr (fun hb41 hr => ?_) (fun hb41 hr => ?_)
    ·refine .seq (.block ?_)
     replace hr := bd hr; obtain ⟨m_46, hL51, hr⟩ := hr
     refine .loopO (σ := fun z0 => match z0 with | (m_42, n_43) => ⟨mkS 54 0 [(4, .hp 0 0), (7, aU64 m_42), (9, aU64 n_43)], [.own [aB false, nS]]⟩) (Q := fun x st' => x = .exit 2 ∧ Wk 0 st' ⟨mkS 54 0 [(4, .hp 0 0), (7, aU64 m_46)], [.own [aB false, nS]]⟩) hL51 ((Wk.gc [4, 7, 9] [(0, true)] rfl trivial).to) ?_ ?_
     ·clear hr
      rintro m ⟨m_42, n_43⟩ hr
      show CQ _ _ _ _ _ ⟨_, _⟩
      refine .seq (.seq (.r4 G [4, 7, 9] [(35, aB (decide (n_43 > 0)))] ?_))
      refine .cd hr (fun hb48 hr => ?_) (fun hb48 hr => ?_)
      ·refine .skip (.block ?_)
       obtain ⟨hg49, hr⟩ := gd hr
       refine .regionT G callOf_nil (.mu 3 (.pure (v := aU64 (m_42.tmod n_43)) (by kernel_rfl) (op_rem (x := m_42) (y := n_43) (by kernel_rfl) (by kernel_rfl) hg49) (by kernel_rfl) (.mu 2 ?_)))
       refine .done ⟨by kernel_rfl, ?_⟩
       refine .pop ?_
       exact loopF_back (n_43, m_42.tmod n_43) hr ((Wk.gc [4, 7, 9] [(0, true)] rfl trivial).to)
      ·refine .leave rfl ?_
       obtain rfl := oi hr
       exact ⟨rfl, ((Wk.gc [4, 7] [(0, true)] rfl trivial).to)⟩
     ·rintro x st' hq52
      clear hL51
      obtain ⟨rfl, hq52⟩ := hq52
      refine CQ_exit _ rfl (.wk hq52 (.seq ?_))
      obtain ⟨v53, hc54, v55, hc56, hr⟩ := bd2 hr
      refine .gn G (ca1 (ok0 (integer_split_ok n m_46 v53 hc54)) (ca3 (ok0 (integer_made_ok n false v53 v55 hc56)))) (.mu 1 (.ca cf0 (.ca (cfF cf0) (.mu 1 (.done (.nh [4] [.own (api_Int.c v55)] (.ret ?_)))))))
      obtain rfl := oi hr
      exact ⟨rfl, FinQ.ret (vs := [.agg (api_Int.c v55)]) (by kernel_rfl) (Sn.pure rfl)⟩
    ·refine .skip (.seq ?_)
     obtain ⟨v57, hc58, hr⟩ := bd hr
     refine .g1 G (ok0 (integer_over_ok n a_5 b_6 v57 hc58)) (.mu 2 (.ca cf0 (.mu 5 (.done (.nh [4, 6, 12] [.own [aB false, nS]] (.ru G (.pop ?_)))))))
     exact loopF_back (b_6, v57.2) hr ((Wk.gc [4, 5, 6] [(0, true)] rfl trivial).to)
   ·replace hr := cd_f hb40 hr
    refine .r0 G (.p0 (v := aB false) (eB hb40) (.mu 3 (.done (.nh [4, 5, 6, 7, 9, 33] [.own [aB false, nS]] (.cF (by kernel_rfl) (.skip (.seq ?_)))))))
    obtain ⟨v59, hc60, hr⟩ := bd hr
    refine .g1 G (ok0 (integer_over_ok n a_5 b_6 v59 hc60)) (.mu 2 (.ca cf0 (.mu 5 (.done (.nh [4, 6, 12] [.own [aB false, nS]] (.ru G (.pop ?_)))))))
    exact loopF_back (b_6, v59.2) hr ((Wk.gc [4, 5, 6] [(0, true)] rfl trivial).to)
  ·refine .leave rfl ?_
   obtain rfl := oi hr
   exact ⟨rfl, ((Wk.gc [4, 5] [(0, true)] rfl trivial).to)⟩
 ·rcases o61 with a_33 | r0
  ·rintro x st' hq63
   clear hL62
   obtain ⟨rfl, hq63⟩ := hq63
   refine CQ_exit _ rfl (.wk hq63 (.seq ?_))
   obtain ⟨v64, hc65, v66, hc67, hr⟩ := bd2 hr
   refine .gn G (ca1 (ok0 (slices_Clone_uint32_uint32_ok n a_33 v64 hc65)) (ca3 (ok0 (integer_made_ok n false v64 v66 hc67)))) (.mu 1 (.ca cf0 (.ca (cfF cf0) (.mu 1 (.done (.nh [4] [.own (api_Int.c v66)] (.ret ?_)))))))
   obtain rfl := oi hr
   exact FinQ.r1 [.agg (api_Int.c v66)]
  ·rintro x st' hq63
   clear hL62
   obtain ⟨rfl, hq63⟩ := hq63
   obtain rfl := oi hr
   exact CQ_ret _ hq63
end Go.L
