/- The program's functions compute what the plain Lean programs compute, part 1; printed by a program. -/
import Derived.Test.YtkhmlbchphhokaaGreatHisLD
import Derived.Test.YtkhmlbchphhokaaGreatL0kcdjoajj
import Derived.Test.YtkhmlbchphhokaaGreatChecked
import Derived.KernelRfl
set_option linter.unusedVariables false
set_option linter.unusedSimpArgs false
set_option maxRecDepth 100000
set_option maxHeartbeats 4000000
namespace Go.L
open Go Go.Eng Go.Proofs
theorem fiduciallaw59_banded_ok (n : Nat) (err : Int) (z : List Int) (r : api_Banded) (hr : fiduciallaw59_banded n err z = some r) : FnOk Tryz.prog 38 [aI64 err, sI64 z] (.agg (api_Banded.c r)) := by
 unfold fiduciallaw59_banded at hr
 refine FnOk.bd fine Tryz.func38 [.cell 4 33] ?_
 unfold Tryz.f38
 simp only [Option.getD_some]
 refine .seq <| .r2 fine 13 [(0, aI64 err), (1, sI64 z), (4, .hp 0 0)] [.own [aI64 0, aI64 0, aI64 0, aI64 0, aI64 0, nS, nS]] <| .seq <| .r2 fine 13 [(4, .hp 0 0)] [.own [aI64 0, aI64 0, aI64 2, aI64 2, aI64 2, sI64 z, .hs 1 0 4 1], .own [aI64 err, aI64 err, aI64 err, aI64 err]] <| .ret ?_
 obtain rfl := Option.some.inj hr
 exact FinQ.ret (vs := [.agg [aI64 0, aI64 0, aI64 2, aI64 2, aI64 2, sI64 z, .hs 1 0 4 1]]) (by kernel_rfl) (Sn.agg (SnL.cons (Sn.pure rfl) (SnL.cons (Sn.pure rfl) (SnL.cons (Sn.pure rfl) (SnL.cons (Sn.pure rfl) (SnL.cons (Sn.pure rfl) (SnL.cons (Sn.pure rfl) (SnL.cons (Sn.hs rfl (.inl rfl) (SnC.cons (Sn.pure rfl) (SnC.cons (Sn.pure rfl) (SnC.cons (Sn.pure rfl) (SnC.cons (Sn.pure rfl) SnC.nil)))) (fun h => nomatch h)) SnL.nil))))))))

theorem terrain_Check_1_inj {n' : Int} {n'_ : Int} (h : ([.at (.int .i64 n')] : List AV) = [.at (.int .i64 n'_)]) : n' = n'_ := by
 simp only [List.cons.injEq, AV.agg.injEq, AV.at.injEq, Value.int.injEq, Value.bool.injEq, AV.fn.injEq, AV.pp.injEq, true_and, and_true] at h
 simp_all
theorem terrain_Check_1_cg (n : Nat) {n' : Int} {n'_ : Int} (h : ([.at (.int .i64 n')] : List AV) = [.at (.int .i64 n'_)]) : terrain_Check_1 n n' = terrain_Check_1 n n'_ := by
 obtain rfl := terrain_Check_1_inj h
 rfl
theorem terrain_Check_1_ok (n : Nat) (n' : Int) (r : Bool) (hr : terrain_Check_1 n n' = some r) : FnOk Tryz.prog 183 [aI64 n'] (aB r) := by
 unfold terrain_Check_1 at hr
 refine FnOk.bd fine Tryz.func183 [.tmp 2] ?_
 unfold Tryz.f183
 simp only [Option.getD_some]
 refine .seq <| .r3 fine 9 [(0, aI64 n')] <| .seq ?_
 rcases Bool.eq_false_or_eq_true (decide (n' ≥ 2)) with hb1 | hb1
 ·replace hr := cd_t hb1 hr
  refine .r0 fine <| .mu 1 <| .p0 (v := aB true) (Eq.trans (b := some (.pure (aB (decide (n' ≥ 2))))) (by kernel_rfl) (by rw [hb1])) <| .mu 5 <| .done <| .ret ?_
  obtain rfl := Option.some.inj hr
  exact FinQ.r1 [aB (decide (n' ≤ 64))]
 ·replace hr := cd_f hb1 hr
  refine .r0 fine <| .mu 1 <| .p0 (v := aB false) (Eq.trans (b := some (.pure (aB (decide (n' ≥ 2))))) (by kernel_rfl) (by rw [hb1])) <| .mu 5 <| .done <| .ret ?_
  obtain rfl := Option.some.inj hr
  exact FinQ.r1 [aB false]

theorem terrain_far_inj {n' : Int} {n'_ : Int} (h : ([.at (.int .i64 n')] : List AV) = [.at (.int .i64 n'_)]) : n' = n'_ := by
 simp only [List.cons.injEq, AV.agg.injEq, AV.at.injEq, Value.int.injEq, Value.bool.injEq, AV.fn.injEq, AV.pp.injEq, true_and, and_true] at h
 simp_all
theorem terrain_far_cg (n : Nat) {n' : Int} {n'_ : Int} (h : ([.at (.int .i64 n')] : List AV) = [.at (.int .i64 n'_)]) : terrain_far n n' = terrain_far n n'_ := by
 obtain rfl := terrain_far_inj h
 rfl
theorem terrain_far_ok (n : Nat) (n' : Int) (r : Bool) (hr : terrain_far n n' = some r) : FnOk Tryz.prog 184 [aI64 n'] (aB r) := by
 unfold terrain_far at hr
 refine FnOk.bd fine Tryz.func184 [.tmp 2] ?_
 unfold Tryz.f184
 simp only [Option.getD_some]
 refine .seq <| .r3 fine 9 [(0, aI64 n')] <| .seq ?_
 rcases Bool.eq_false_or_eq_true (decide (n' < (-1048576))) with hb1 | hb1
 ·replace hr := cd_t hb1 hr
  refine .r0 fine <| .mu 1 <| .p0 (v := aB true) (Eq.trans (b := some (.pure (aB (decide (n' < (-1048576)))))) (by kernel_rfl) (by rw [hb1])) <| .mu 5 <| .done <| .ret ?_
  obtain rfl := Option.some.inj hr
  exact FinQ.r1 [aB true]
 ·replace hr := cd_f hb1 hr
  refine .r0 fine <| .mu 1 <| .p0 (v := aB false) (Eq.trans (b := some (.pure (aB (decide (n' < (-1048576)))))) (by kernel_rfl) (by rw [hb1])) <| .mu 5 <| .done <| .ret ?_
  obtain rfl := Option.some.inj hr
  exact FinQ.r1 [aB (decide (n' > 1048576))]

theorem terrain_Check_2_ok (n : Nat) (z : Int) (r : Bool) (hr : terrain_Check_2 n z = some r) : FnOk Tryz.prog 185 [aI64 z] (aB r) := by
 unfold terrain_Check_2 at hr
 refine FnOk.bd fine Tryz.func185 [.tmp 2] ?_
 unfold Tryz.f185
 simp only [Option.getD_some]
 refine .seq <| .r3 fine 9 [(0, aI64 z)] <| .seq ?_
 rcases Bool.eq_false_or_eq_true ((z : Int) != (-2147483648)) with hb1 | hb1
 ·replace hr := cd_t hb1 hr
  obtain ⟨v2, hc3, hr⟩ := bd hr
  refine .g1 fine (ok0 (terrain_far_ok n z v2 hc3)) <| .mu 1 <| .p0 (v := aB true) (Eq.trans (b := some (.pure (aB ((z : Int) != (-2147483648))))) (by kernel_rfl) (by rw [hb1])) <| .mu 2 <| .ca cf0 <| .mu 2 <| .done <| .ret ?_
  obtain rfl := Option.some.inj hr
  exact FinQ.r1 [aB v2]
 ·replace hr := cd_f hb1 hr
  refine .r0 fine <| .mu 1 <| .p0 (v := aB false) (Eq.trans (b := some (.pure (aB ((z : Int) != (-2147483648))))) (by kernel_rfl) (by rw [hb1])) <| .mu 5 <| .done <| .ret ?_
  obtain rfl := Option.some.inj hr
  exact FinQ.r1 [aB false]

theorem slices_IndexFunc_int_int_of_terrain_Check_2_ok (n : Nat) (s : List Int) (r : Int) (hr : slices_IndexFunc_int_int_of_terrain_Check_2 n s = some r) : FnOk Tryz.prog 103 [sI64 s, .fn 185 [] []] (aI64 r) := by
 unfold slices_IndexFunc_int_int_of_terrain_Check_2 at hr
 refine FnOk.bd fine Tryz.func103 [.tmp 4] ?_
 unfold Tryz.f103
 simp only [Option.getD_some]
 refine .seq <| .r3 fine 19 [(0, sI64 s), (1, .fn 185 [] [])] <| .seq <| .seq <| .r3 fine 19 [(0, sI64 s), (1, .fn 185 [] []), (7, aI64 (s.length : Int)), (8, aI64 0)] <| .block ?_
 replace hr := bd hr; obtain ⟨o13, hL14, hr⟩ := hr
 refine .loopO (σ := fun z0 => match z0 with | x_1 => ⟨mkS 19 0 [(0, sI64 s), (1, .fn 185 [] []), (7, aI64 (s.length : Int)), (8, aI64 x_1)], []⟩) (Q := fun x st' => match (generalizing := false) o13 with | .inl _ => x = .exit 0 ∧ Wk 0 st' ⟨mkS 19 0 [], []⟩ | .inr (r0) => x = .ret ∧ FinQ Tryz.prog [.tmp 4] (aI64 r0) .ret st') hL14 ((Wk.gc [0, 1, 7, 8] [] rfl pK0).to (by kernel_rfl)) ?_ ?_
 ·clear hr
  rintro m x_1 hr
  show CQ _ _ _ _ _ ⟨_, _⟩
  refine .seq <| .r3 fine 19 [(0, sI64 s), (1, .fn 185 [] []), (7, aI64 (s.length : Int)), (8, aI64 x_1), (9, aB (decide (x_1 < (s.length : Int))))] <| .seq ?_
  refine .cd hr (fun hb8 hr => ?_) (fun hb8 hr => ?_)
  ·refine .skip <| .seq <| .block <| .seq <| .r3 fine 19 [(0, sI64 s), (1, .fn 185 [] []), (5, aI64 x_1), (7, aI64 (s.length : Int)), (8, aI64 x_1)] <| .seq ?_
   obtain ⟨hg9, hr⟩ := gd hr
   obtain ⟨v10, hc11, hr⟩ := bd hr
   refine .g1 fine (ok0 (terrain_Check_2_ok n (gt s x_1) v10 hc11)) <| .mu 3 <| .p0 (v := .pp (s.flatMap (iC .i64)) (x_1.toNat * 1)) (Eq.trans (b := ORes.ofP (guardV (inR x_1 s.length) (.pp (s.flatMap (iC .i64)) (x_1.toNat * 1)))) (by kernel_rfl) (ofP_guard hg9)) <| .p0 (v := aI64 (gt s x_1)) (Eq.trans (b := ORes.ofP ((s.flatMap (iC .i64))[x_1.toNat * 1]?)) (by kernel_rfl) (ofP_some (flat_get (iC_len _) (inR_lt hg9) (by decide : 0 < 1) (by omega : x_1.toNat * 1 = x_1.toNat * 1 + 0) (by kernel_rfl)))) <| .ca cf0 <| .done <| .n2 19 [(0, sI64 s), (1, .fn 185 [] []), (5, aI64 x_1), (7, aI64 (s.length : Int)), (8, aI64 x_1), (16, aB v10)] [] ?_
   refine .cd hr (fun hb12 hr => ?_) (fun hb12 hr => ?_)
   ·refine .seq <| .ru fine <| .ret ?_
    obtain rfl := Option.some.inj hr
    exact ⟨rfl, FinQ.ret (vs := [aI64 x_1]) (by kernel_rfl) (Sn.pure rfl)⟩
   ·refine .skip <| .pop <| .ru fine ?_
    exact loopF_back (wrapF .i64 (x_1 + 1)) hr ((Wk.gc [0, 1, 7, 8] [] rfl pK0).to (by kernel_rfl))
  ·refine .leave rfl ?_
   obtain rfl := Option.some.inj hr
   exact ⟨rfl, ((Wk.gc [] [] rfl pK0).to (by kernel_rfl))⟩
 ·rcases o13 with ⟨⟩ | r0
  ·rintro x st' hq15
   clear hL14
   obtain ⟨rfl, hq15⟩ := hq15
   refine CQ_exit _ rfl <| .wk hq15 <| .seq <| .ru fine <| .ret ?_
   obtain rfl := Option.some.inj hr
   exact FinQ.r1 [aI64 (-1)]
  ·rintro x st' hq15
   clear hL14
   obtain ⟨rfl, hq15⟩ := hq15
   obtain rfl := Option.some.inj hr
   exact CQ_ret _ hq15

theorem slices_ContainsFunc_int_int_of_terrain_Check_2_ok (n : Nat) (s : List Int) (r : Bool) (hr : slices_ContainsFunc_int_int_of_terrain_Check_2 n s = some r) : FnOk Tryz.prog 57 [sI64 s, .fn 185 [] []] (aB r) := by
 unfold slices_ContainsFunc_int_int_of_terrain_Check_2 at hr
 refine FnOk.bd fine Tryz.func57 [.tmp 4] ?_
 unfold Tryz.f57
 simp only [Option.getD_some]
 refine .seq <| .r3 fine 9 [(0, sI64 s), (1, .fn 185 [] [])] <| .seq ?_
 obtain ⟨v1, hc2, hr⟩ := bd hr
 refine .g1 fine (ok0 (slices_IndexFunc_int_int_of_terrain_Check_2_ok n s v1 hc2)) <| .mu 2 <| .ca cf0 <| .mu 2 <| .done <| .ret ?_
 obtain rfl := Option.some.inj hr
 exact FinQ.r1 [aB (decide (v1 ≥ 0))]

theorem terrain_Check_ok (n : Nat) (g : api_Grid) (r : Int) (hr : terrain_Check n g = some r) : FnOk Tryz.prog 133 [.agg (api_Grid.c g)] (aI64 r) := by
 unfold terrain_Check at hr
 refine FnOk.bd fine Tryz.func133 [.tmp 2] ?_
 unfold Tryz.f133
 simp only [Option.getD_some]
 refine .seq <| .r2 fine 54 [(1, .hp 0 0)] [.own (api_Grid.c g)] <| .seq <| .r3 fine 54 [(1, .hp 0 0), (3, .fn 183 [] [])] <| .seq <| .seq ?_
 obtain ⟨v1, hc2, hr⟩ := bd hr
 rcases Bool.eq_false_or_eq_true (!v1) with hb3 | hb3
 ·replace hr := cd_t hb3 hr
  refine .g1 fine (ok0 (terrain_Check_1_ok n g.Width v1 hc2)) <| .mu 3 <| .ca cf0 <| .p0 (v := aB true) (Eq.trans (b := some (.pure (aB (!v1)))) (by kernel_rfl) (by rw [hb3])) <| .mu 33 <| .done <| .n2 54 [(1, .hp 0 0), (41, aB true)] [.own (api_Grid.c g)] <| .cT (by kernel_rfl) <| .seq <| .ru fine <| .ret ?_
  obtain rfl := Option.some.inj hr
  exact FinQ.r1 [aI64 2]
 ·replace hr := cd_f hb3 hr
  obtain ⟨v4, hc5, hr⟩ := bd hr
  rcases Bool.eq_false_or_eq_true (!v4) with hb6 | hb6
  ·replace hr := cd_t hb6 hr
   refine .gn fine (ca1 (ok0 (terrain_Check_1_ok n g.Width v1 hc2)) (ca3 (ok0 (terrain_Check_1_ok n g.Height v4 hc5)))) <| .mu 3 <| .ca cf0 <| .p0 (v := aB false) (Eq.trans (b := some (.pure (aB (!v1)))) (by kernel_rfl) (by rw [hb3])) <| .mu 4 <| .ca (cfA (fun h => by rw [sv hc5 hc2 (terrain_Check_1_cg n h)]) cf0) <| .pure (v := aB true) (by kernel_rfl) (Eq.trans (b := some (.pure (aB (!v4)))) (by kernel_rfl) (by rw [hb6])) <| .mu 27 <| .done <| .n2 54 [(1, .hp 0 0), (41, aB true)] [.own (api_Grid.c g)] <| .cT (by kernel_rfl) <| .seq <| .ru fine <| .ret ?_
   obtain rfl := Option.some.inj hr
   exact FinQ.r1 [aI64 2]
  ·replace hr := cd_f hb6 hr
   rcases Bool.eq_false_or_eq_true (decide (g.Step < 2)) with hb7 | hb7
   ·replace hr := cd_t hb7 hr
    refine .gn fine (ca1 (ok0 (terrain_Check_1_ok n g.Width v1 hc2)) (ca3 (ok0 (terrain_Check_1_ok n g.Height v4 hc5)))) <| .mu 3 <| .ca cf0 <| .p0 (v := aB false) (Eq.trans (b := some (.pure (aB (!v1)))) (by kernel_rfl) (by rw [hb3])) <| .mu 4 <| .ca (cfA (fun h => by rw [sv hc5 hc2 (terrain_Check_1_cg n h)]) cf0) <| .pure (v := aB false) (by kernel_rfl) (Eq.trans (b := some (.pure (aB (!v4)))) (by kernel_rfl) (by rw [hb6])) <| .mu 4 <| .pure (v := aB true) (by kernel_rfl) (Eq.trans (b := some (.pure (aB (decide (g.Step < 2))))) (by kernel_rfl) (by rw [hb7])) <| .mu 22 <| .done <| .n2 54 [(1, .hp 0 0), (41, aB true)] [.own (api_Grid.c g)] <| .cT (by kernel_rfl) <| .seq <| .ru fine <| .ret ?_
    obtain rfl := Option.some.inj hr
    exact FinQ.r1 [aI64 2]
   ·replace hr := cd_f hb7 hr
    rcases Bool.eq_false_or_eq_true (decide (g.Step > 65536)) with hb8 | hb8
    ·replace hr := cd_t hb8 hr
     refine .gn fine (ca1 (ok0 (terrain_Check_1_ok n g.Width v1 hc2)) (ca3 (ok0 (terrain_Check_1_ok n g.Height v4 hc5)))) <| .mu 3 <| .ca cf0 <| .p0 (v := aB false) (Eq.trans (b := some (.pure (aB (!v1)))) (by kernel_rfl) (by rw [hb3])) <| .mu 4 <| .ca (cfA (fun h => by rw [sv hc5 hc2 (terrain_Check_1_cg n h)]) cf0) <| .pure (v := aB false) (by kernel_rfl) (Eq.trans (b := some (.pure (aB (!v4)))) (by kernel_rfl) (by rw [hb6])) <| .mu 4 <| .pure (v := aB false) (by kernel_rfl) (Eq.trans (b := some (.pure (aB (decide (g.Step < 2))))) (by kernel_rfl) (by rw [hb7])) <| .mu 4 <| .pure (v := aB true) (by kernel_rfl) (Eq.trans (b := some (.pure (aB (decide (g.Step > 65536))))) (by kernel_rfl) (by rw [hb8])) <| .mu 17 <| .done <| .n2 54 [(1, .hp 0 0), (41, aB true)] [.own (api_Grid.c g)] <| .cT (by kernel_rfl) <| .seq <| .ru fine <| .ret ?_
     obtain rfl := Option.some.inj hr
     exact FinQ.r1 [aI64 2]
    ·replace hr := cd_f hb8 hr
     rcases Bool.eq_false_or_eq_true (((g.Step.tmod 2) : Int) != 0) with hb9 | hb9
     ·replace hr := cd_t hb9 hr
      refine .gn fine (ca1 (ok0 (terrain_Check_1_ok n g.Width v1 hc2)) (ca3 (ok0 (terrain_Check_1_ok n g.Height v4 hc5)))) <| .mu 3 <| .ca cf0 <| .p0 (v := aB false) (Eq.trans (b := some (.pure (aB (!v1)))) (by kernel_rfl) (by rw [hb3])) <| .mu 4 <| .ca (cfA (fun h => by rw [sv hc5 hc2 (terrain_Check_1_cg n h)]) cf0) <| .pure (v := aB false) (by kernel_rfl) (Eq.trans (b := some (.pure (aB (!v4)))) (by kernel_rfl) (by rw [hb6])) <| .mu 4 <| .pure (v := aB false) (by kernel_rfl) (Eq.trans (b := some (.pure (aB (decide (g.Step < 2))))) (by kernel_rfl) (by rw [hb7])) <| .mu 4 <| .pure (v := aB false) (by kernel_rfl) (Eq.trans (b := some (.pure (aB (decide (g.Step > 65536))))) (by kernel_rfl) (by rw [hb8])) <| .mu 5 <| .pure (v := aB true) (by kernel_rfl) (Eq.trans (b := some (.pure (aB (((g.Step.tmod 2) : Int) != 0)))) (by kernel_rfl) (by rw [hb9])) <| .mu 11 <| .done <| .n2 54 [(1, .hp 0 0), (41, aB true)] [.own (api_Grid.c g)] <| .cT (by kernel_rfl) <| .seq <| .ru fine <| .ret ?_
      obtain rfl := Option.some.inj hr
      exact FinQ.r1 [aI64 2]
     ·replace hr := cd_f hb9 hr
      obtain ⟨v10, hc11, hr⟩ := bd hr
      rcases Bool.eq_false_or_eq_true v10 with hb12 | hb12
      ·subst hb12
       replace hr := cd_t rfl hr
       refine .gn fine (ca1 (ok0 (terrain_Check_1_ok n g.Width v1 hc2)) (ca1 (ok0 (terrain_Check_1_ok n g.Height v4 hc5)) (ca3 (ok0 (terrain_far_ok n g.X0 true hc11))))) <| .mu 3 <| .ca cf0 <| .p0 (v := aB false) (Eq.trans (b := some (.pure (aB (!v1)))) (by kernel_rfl) (by rw [hb3])) <| .mu 4 <| .ca (cfA (fun h => by rw [sv hc5 hc2 (terrain_Check_1_cg n h)]) cf0) <| .pure (v := aB false) (by kernel_rfl) (Eq.trans (b := some (.pure (aB (!v4)))) (by kernel_rfl) (by rw [hb6])) <| .mu 4 <| .pure (v := aB false) (by kernel_rfl) (Eq.trans (b := some (.pure (aB (decide (g.Step < 2))))) (by kernel_rfl) (by rw [hb7])) <| .mu 4 <| .pure (v := aB false) (by kernel_rfl) (Eq.trans (b := some (.pure (aB (decide (g.Step > 65536))))) (by kernel_rfl) (by rw [hb8])) <| .mu 5 <| .pure (v := aB false) (by kernel_rfl) (Eq.trans (b := some (.pure (aB (((g.Step.tmod 2) : Int) != 0)))) (by kernel_rfl) (by rw [hb9])) <| .mu 4 <| .ca (cfF (cfF cf0)) <| .mu 6 <| .done <| .n2 54 [(1, .hp 0 0), (41, aB true)] [.own (api_Grid.c g)] <| .cT (by kernel_rfl) <| .seq <| .ru fine <| .ret ?_
       obtain rfl := Option.some.inj hr
       exact FinQ.r1 [aI64 2]
      ·subst hb12
       replace hr := cd_f rfl hr
       obtain ⟨v13, hc14, hr⟩ := bd hr
       refine .gn fine (ca1 (ok0 (terrain_Check_1_ok n g.Width v1 hc2)) (ca1 (ok0 (terrain_Check_1_ok n g.Height v4 hc5)) (ca1 (ok0 (terrain_far_ok n g.X0 false hc11)) (ca3 (ok0 (terrain_far_ok n g.Y0 v13 hc14)))))) <| .mu 3 <| .ca cf0 <| .p0 (v := aB false) (Eq.trans (b := some (.pure (aB (!v1)))) (by kernel_rfl) (by rw [hb3])) <| .mu 4 <| .ca (cfA (fun h => by rw [sv hc5 hc2 (terrain_Check_1_cg n h)]) cf0) <| .pure (v := aB false) (by kernel_rfl) (Eq.trans (b := some (.pure (aB (!v4)))) (by kernel_rfl) (by rw [hb6])) <| .mu 4 <| .pure (v := aB false) (by kernel_rfl) (Eq.trans (b := some (.pure (aB (decide (g.Step < 2))))) (by kernel_rfl) (by rw [hb7])) <| .mu 4 <| .pure (v := aB false) (by kernel_rfl) (Eq.trans (b := some (.pure (aB (decide (g.Step > 65536))))) (by kernel_rfl) (by rw [hb8])) <| .mu 5 <| .pure (v := aB false) (by kernel_rfl) (Eq.trans (b := some (.pure (aB (((g.Step.tmod 2) : Int) != 0)))) (by kernel_rfl) (by rw [hb9])) <| .mu 4 <| .ca (cfF (cfF cf0)) <| .mu 4 <| .ca (cfF (cfF (cfA (fun h => by rw [sv hc14 hc11 (terrain_far_cg n h)]) cf0))) <| .mu 1 <| .done <| .n2 54 [(1, .hp 0 0), (41, aB v13)] [.own (api_Grid.c g)] ?_
       refine .cd hr (fun hb15 hr => ?_) (fun hb15 hr => ?_)
       ·refine .seq <| .ru fine <| .ret ?_
        obtain rfl := Option.some.inj hr
        exact FinQ.r1 [aI64 2]
       ·refine .skip <| .seq <| .seq <| .r3 fine 54 [(1, .hp 0 0), (50, aB (((g.Z.length : Int) : Int) != (wrapF .i64 (g.Width * g.Height))))] ?_
        refine .cd hr (fun hb16 hr => ?_) (fun hb16 hr => ?_)
        ·refine .seq <| .ru fine <| .ret ?_
         obtain rfl := Option.some.inj hr
         exact FinQ.r1 [aI64 4]
        ·refine .skip <| .seq <| .seq ?_
         obtain ⟨v17, hc18, hr⟩ := bd hr
         refine .g1 fine (ok0 (slices_ContainsFunc_int_int_of_terrain_Check_2_ok n g.Z v17 hc18)) <| .mu 2 <| .ca cf0 <| .done <| .n2 54 [(53, aB v17)] [.own (api_Grid.c g)] ?_
         refine .cd hr (fun hb19 hr => ?_) (fun hb19 hr => ?_)
         ·refine .seq <| .ru fine <| .ret ?_
          obtain rfl := Option.some.inj hr
          exact FinQ.r1 [aI64 2]
         ·refine .skip <| .seq <| .ru fine <| .ret ?_
          obtain rfl := Option.some.inj hr
          exact FinQ.r1 [aI64 0]

theorem change_Check_1_ok (n : Nat) (n' : Int) (r : Bool) (hr : change_Check_1 n n' = some r) : FnOk Tryz.prog 134 [aI64 n'] (aB r) := by
 unfold change_Check_1 at hr
 refine FnOk.bd fine Tryz.func134 [.tmp 2] ?_
 unfold Tryz.f134
 simp only [Option.getD_some]
 refine .seq <| .r3 fine 9 [(0, aI64 n')] <| .seq ?_
 rcases Bool.eq_false_or_eq_true (decide (n' < 0)) with hb1 | hb1
 ·replace hr := cd_t hb1 hr
  refine .r0 fine <| .mu 1 <| .p0 (v := aB true) (Eq.trans (b := some (.pure (aB (decide (n' < 0))))) (by kernel_rfl) (by rw [hb1])) <| .mu 5 <| .done <| .ret ?_
  obtain rfl := Option.some.inj hr
  exact FinQ.r1 [aB true]
 ·replace hr := cd_f hb1 hr
  refine .r0 fine <| .mu 1 <| .p0 (v := aB false) (Eq.trans (b := some (.pure (aB (decide (n' < 0))))) (by kernel_rfl) (by rw [hb1])) <| .mu 5 <| .done <| .ret ?_
  obtain rfl := Option.some.inj hr
  exact FinQ.r1 [aB (decide (n' > 1048576))]

theorem slices_IndexFunc_int_int_of_change_Check_1_ok (n : Nat) (s : List Int) (r : Int) (hr : slices_IndexFunc_int_int_of_change_Check_1 n s = some r) : FnOk Tryz.prog 103 [sI64 s, .fn 134 [] []] (aI64 r) := by
 unfold slices_IndexFunc_int_int_of_change_Check_1 at hr
 refine FnOk.bd fine Tryz.func103 [.tmp 4] ?_
 unfold Tryz.f103
 simp only [Option.getD_some]
 refine .seq <| .r3 fine 19 [(0, sI64 s), (1, .fn 134 [] [])] <| .seq <| .seq <| .r3 fine 19 [(0, sI64 s), (1, .fn 134 [] []), (7, aI64 (s.length : Int)), (8, aI64 0)] <| .block ?_
 replace hr := bd hr; obtain ⟨o13, hL14, hr⟩ := hr
 refine .loopO (σ := fun z0 => match z0 with | x_1 => ⟨mkS 19 0 [(0, sI64 s), (1, .fn 134 [] []), (7, aI64 (s.length : Int)), (8, aI64 x_1)], []⟩) (Q := fun x st' => match (generalizing := false) o13 with | .inl _ => x = .exit 0 ∧ Wk 0 st' ⟨mkS 19 0 [], []⟩ | .inr (r0) => x = .ret ∧ FinQ Tryz.prog [.tmp 4] (aI64 r0) .ret st') hL14 ((Wk.gc [0, 1, 7, 8] [] rfl pK0).to (by kernel_rfl)) ?_ ?_
 ·clear hr
  rintro m x_1 hr
  show CQ _ _ _ _ _ ⟨_, _⟩
  refine .seq <| .r3 fine 19 [(0, sI64 s), (1, .fn 134 [] []), (7, aI64 (s.length : Int)), (8, aI64 x_1), (9, aB (decide (x_1 < (s.length : Int))))] <| .seq ?_
  refine .cd hr (fun hb8 hr => ?_) (fun hb8 hr => ?_)
  ·refine .skip <| .seq <| .block <| .seq <| .r3 fine 19 [(0, sI64 s), (1, .fn 134 [] []), (5, aI64 x_1), (7, aI64 (s.length : Int)), (8, aI64 x_1)] <| .seq ?_
   obtain ⟨hg9, hr⟩ := gd hr
   obtain ⟨v10, hc11, hr⟩ := bd hr
   refine .g1 fine (ok0 (change_Check_1_ok n (gt s x_1) v10 hc11)) <| .mu 3 <| .p0 (v := .pp (s.flatMap (iC .i64)) (x_1.toNat * 1)) (Eq.trans (b := ORes.ofP (guardV (inR x_1 s.length) (.pp (s.flatMap (iC .i64)) (x_1.toNat * 1)))) (by kernel_rfl) (ofP_guard hg9)) <| .p0 (v := aI64 (gt s x_1)) (Eq.trans (b := ORes.ofP ((s.flatMap (iC .i64))[x_1.toNat * 1]?)) (by kernel_rfl) (ofP_some (flat_get (iC_len _) (inR_lt hg9) (by decide : 0 < 1) (by omega : x_1.toNat * 1 = x_1.toNat * 1 + 0) (by kernel_rfl)))) <| .ca cf0 <| .done <| .n2 19 [(0, sI64 s), (1, .fn 134 [] []), (5, aI64 x_1), (7, aI64 (s.length : Int)), (8, aI64 x_1), (16, aB v10)] [] ?_
   refine .cd hr (fun hb12 hr => ?_) (fun hb12 hr => ?_)
   ·refine .seq <| .ru fine <| .ret ?_
    obtain rfl := Option.some.inj hr
    exact ⟨rfl, FinQ.ret (vs := [aI64 x_1]) (by kernel_rfl) (Sn.pure rfl)⟩
   ·refine .skip <| .pop <| .ru fine ?_
    exact loopF_back (wrapF .i64 (x_1 + 1)) hr ((Wk.gc [0, 1, 7, 8] [] rfl pK0).to (by kernel_rfl))
  ·refine .leave rfl ?_
   obtain rfl := Option.some.inj hr
   exact ⟨rfl, ((Wk.gc [] [] rfl pK0).to (by kernel_rfl))⟩
 ·rcases o13 with ⟨⟩ | r0
  ·rintro x st' hq15
   clear hL14
   obtain ⟨rfl, hq15⟩ := hq15
   refine CQ_exit _ rfl <| .wk hq15 <| .seq <| .ru fine <| .ret ?_
   obtain rfl := Option.some.inj hr
   exact FinQ.r1 [aI64 (-1)]
  ·rintro x st' hq15
   clear hL14
   obtain ⟨rfl, hq15⟩ := hq15
   obtain rfl := Option.some.inj hr
   exact CQ_ret _ hq15

theorem slices_ContainsFunc_int_int_of_change_Check_1_ok (n : Nat) (s : List Int) (r : Bool) (hr : slices_ContainsFunc_int_int_of_change_Check_1 n s = some r) : FnOk Tryz.prog 57 [sI64 s, .fn 134 [] []] (aB r) := by
 unfold slices_ContainsFunc_int_int_of_change_Check_1 at hr
 refine FnOk.bd fine Tryz.func57 [.tmp 4] ?_
 unfold Tryz.f57
 simp only [Option.getD_some]
 refine .seq <| .r3 fine 9 [(0, sI64 s), (1, .fn 134 [] [])] <| .seq ?_
 obtain ⟨v1, hc2, hr⟩ := bd hr
 refine .g1 fine (ok0 (slices_IndexFunc_int_int_of_change_Check_1_ok n s v1 hc2)) <| .mu 2 <| .ca cf0 <| .mu 2 <| .done <| .ret ?_
 obtain rfl := Option.some.inj hr
 exact FinQ.r1 [aB (decide (v1 ≥ 0))]

theorem change_Check_ok (n : Nat) (b : api_Banded) (r : Int) (hr : change_Check n b = some r) : FnOk Tryz.prog 96 [.agg (api_Banded.c b)] (aI64 r) := by
 unfold change_Check at hr
 refine FnOk.bd fine Tryz.func96 [.tmp 2] ?_
 unfold Tryz.f96
 simp only [Option.getD_some]
 refine .seq <| .r2 fine 21 [(1, .hp 0 0)] [.own (api_Banded.c b)] <| .seq <| .seq ?_
 obtain ⟨v1, hc2, hr⟩ := bd hr
 refine .g1 fine (ok0 (terrain_Check_ok n b.Grid v1 hc2)) <| .mu 2 <| .ca cf0 <| .mu 1 <| .done <| .n2 21 [(1, .hp 0 0), (3, aI64 v1)] [.own (api_Banded.c b)] <| .seq <| .r3 fine 21 [(1, .hp 0 0), (3, aI64 v1), (8, aB ((v1 : Int) != 0))] ?_
 refine .cd hr (fun hb3 hr => ?_) (fun hb3 hr => ?_)
 ·refine .seq <| .ru fine <| .ret ?_
  obtain rfl := Option.some.inj hr
  exact FinQ.r1 [aI64 v1]
 ·refine .skip <| .seq <| .seq <| .r3 fine 21 [(1, .hp 0 0), (17, aB (((b.Err.length : Int) : Int) != (b.Grid.Z.length : Int)))] ?_
  refine .cd hr (fun hb4 hr => ?_) (fun hb4 hr => ?_)
  ·refine .seq <| .ru fine <| .ret ?_
   obtain rfl := Option.some.inj hr
   exact FinQ.r1 [aI64 4]
  ·refine .skip <| .seq <| .seq ?_
   obtain ⟨v5, hc6, hr⟩ := bd hr
   refine .g1 fine (ok0 (slices_ContainsFunc_int_int_of_change_Check_1_ok n b.Err v5 hc6)) <| .mu 2 <| .ca cf0 <| .done <| .n2 21 [(20, aB v5)] [.own (api_Banded.c b)] ?_
   refine .cd hr (fun hb7 hr => ?_) (fun hb7 hr => ?_)
   ·refine .seq <| .ru fine <| .ret ?_
    obtain rfl := Option.some.inj hr
    exact FinQ.r1 [aI64 2]
   ·refine .skip <| .seq <| .ru fine <| .ret ?_
    obtain rfl := Option.some.inj hr
    exact FinQ.r1 [aI64 0]

theorem change_fit_ok (n : Nat) (l : List api_Banded) (r : Int) (hr : change_fit n l = some r) : FnOk Tryz.prog 45 [slT api_Banded.c l] (aI64 r) := by
 unfold change_fit at hr
 refine FnOk.bd fine Tryz.func45 [.tmp 2] ?_
 unfold Tryz.f45
 simp only [Option.getD_some]
 refine .seq <| .r3 fine 68 [(0, slT api_Banded.c l)] <| .seq <| .seq <| .r3 fine 68 [(0, slT api_Banded.c l), (10, slT api_Banded.c l), (11, aI64 (l.length : Int)), (12, aI64 0)] <| .block ?_
 replace hr := bd hr; obtain ⟨o13, hL14, hr⟩ := hr
 refine .loopO (σ := fun z0 => match z0 with | x_1 => ⟨mkS 68 0 [(0, slT api_Banded.c l), (10, slT api_Banded.c l), (11, aI64 (l.length : Int)), (12, aI64 x_1)], []⟩) (Q := fun x st' => match (generalizing := false) o13 with | .inl _ => x = .exit 0 ∧ Wk 0 st' ⟨mkS 68 0 [(0, slT api_Banded.c l)], []⟩ | .inr (r0) => x = .ret ∧ FinQ Tryz.prog [.tmp 2] (aI64 r0) .ret st') hL14 ((Wk.gc [0, 10, 11, 12] [] rfl pK0).to (by kernel_rfl)) ?_ ?_
 ·clear hr
  rintro m x_1 hr
  show CQ _ _ _ _ _ ⟨_, _⟩
  refine .seq <| .r3 fine 68 [(0, slT api_Banded.c l), (10, slT api_Banded.c l), (11, aI64 (l.length : Int)), (12, aI64 x_1), (13, aB (decide (x_1 < (l.length : Int))))] <| .seq ?_
  refine .cd hr (fun hb8 hr => ?_) (fun hb8 hr => ?_)
  ·refine .skip <| .seq <| .block <| .seq ?_
   obtain ⟨hg9, hr⟩ := gd hr
   refine .r0 fine <| .p0 (v := .pp (l.flatMap api_Banded.c) (x_1.toNat * 7)) (Eq.trans (b := ORes.ofP (guardV (inR x_1 l.length) (.pp (l.flatMap api_Banded.c) (x_1.toNat * 7)))) (by kernel_rfl) (ofP_guard hg9)) <| .p0 (v := .agg (api_Banded.c (gt l x_1))) (Eq.trans (b := ORes.ofP (guardV (decide (7 ≤ ((l.flatMap api_Banded.c).drop (x_1.toNat * 7)).length)) (.agg (((l.flatMap api_Banded.c).drop (x_1.toNat * 7)).take 7)))) (by kernel_rfl) (flat_load api_Banded.len (inR_lt hg9) (by decide) (by omega : x_1.toNat * 7 = x_1.toNat * 7 + 0) (by kernel_rfl))) <| .mu 2 <| .done <| .n2 68 [(0, slT api_Banded.c l), (4, .hp 0 0), (10, slT api_Banded.c l), (11, aI64 (l.length : Int)), (12, aI64 x_1)] [.own (api_Banded.c (gt l x_1))] <| .seq ?_
   obtain ⟨v10, hc11, hr⟩ := bd hr
   refine .g1 fine (ok0 (change_Check_ok n (gt l x_1) v10 hc11)) <| .mu 1 <| .ca cf0 <| .mu 1 <| .done <| .n2 68 [(0, slT api_Banded.c l), (5, aI64 v10), (10, slT api_Banded.c l), (11, aI64 (l.length : Int)), (12, aI64 x_1)] [.own (api_Banded.c (gt l x_1))] <| .seq <| .r3 fine 68 [(0, slT api_Banded.c l), (5, aI64 v10), (10, slT api_Banded.c l), (11, aI64 (l.length : Int)), (12, aI64 x_1), (19, aB ((v10 : Int) != 0))] ?_
   refine .cd hr (fun hb12 hr => ?_) (fun hb12 hr => ?_)
   ·refine .seq <| .ru fine <| .ret ?_
    obtain rfl := Option.some.inj hr
    exact ⟨rfl, FinQ.ret (vs := [aI64 v10]) (by kernel_rfl) (Sn.pure rfl)⟩
   ·refine .skip <| .pop <| .ru fine ?_
    exact loopF_back (wrapF .i64 (x_1 + 1)) hr ((Wk.gc [0, 10, 11, 12] [] rfl pK0).to (by kernel_rfl))
  ·refine .leave rfl ?_
   obtain rfl := Option.some.inj hr
   exact ⟨rfl, ((Wk.gc [0] [] rfl pK0).to (by kernel_rfl))⟩
 ·rcases o13 with ⟨⟩ | r0
  ·rintro x st' hq15
   clear hL14
   obtain ⟨rfl, hq15⟩ := hq15
   refine CQ_exit _ rfl <| .wk hq15 <| .seq <| .seq <| .r3 fine 68 [(0, slT api_Banded.c l), (22, slT api_Banded.c l), (23, aI64 (l.length : Int)), (24, aI64 0)] <| .block ?_
   replace hr := bd hr; obtain ⟨o34, hL35, hr⟩ := hr
   refine .loopO (σ := fun z0 => match z0 with | x_16 => ⟨mkS 68 0 [(0, slT api_Banded.c l), (22, slT api_Banded.c l), (23, aI64 (l.length : Int)), (24, aI64 x_16)], []⟩) (Q := fun x st' => match (generalizing := false) o34 with | .inl _ => x = .exit 2 ∧ Wk 0 st' ⟨mkS 68 0 [], []⟩ | .inr (r0) => x = .ret ∧ FinQ Tryz.prog [.tmp 2] (aI64 r0) .ret st') hL35 ((Wk.gc [0, 22, 23, 24] [] rfl pK0).to (by kernel_rfl)) ?_ ?_
   ·clear hr
    rintro m x_16 hr
    show CQ _ _ _ _ _ ⟨_, _⟩
    refine .seq <| .r3 fine 68 [(0, slT api_Banded.c l), (22, slT api_Banded.c l), (23, aI64 (l.length : Int)), (24, aI64 x_16), (25, aB (decide (x_16 < (l.length : Int))))] <| .seq ?_
    refine .cd hr (fun hb26 hr => ?_) (fun hb26 hr => ?_)
    ·refine .skip <| .seq <| .block <| .seq ?_
     obtain ⟨hg27, hr⟩ := gd hr
     refine .r0 fine <| .p0 (v := .pp (l.flatMap api_Banded.c) (x_16.toNat * 7)) (Eq.trans (b := ORes.ofP (guardV (inR x_16 l.length) (.pp (l.flatMap api_Banded.c) (x_16.toNat * 7)))) (by kernel_rfl) (ofP_guard hg27)) <| .p0 (v := .agg (api_Banded.c (gt l x_16))) (Eq.trans (b := ORes.ofP (guardV (decide (7 ≤ ((l.flatMap api_Banded.c).drop (x_16.toNat * 7)).length)) (.agg (((l.flatMap api_Banded.c).drop (x_16.toNat * 7)).take 7)))) (by kernel_rfl) (flat_load api_Banded.len (inR_lt hg27) (by decide) (by omega : x_16.toNat * 7 = x_16.toNat * 7 + 0) (by kernel_rfl))) <| .mu 2 <| .done <| .n2 68 [(0, slT api_Banded.c l), (7, .hp 0 0), (22, slT api_Banded.c l), (23, aI64 (l.length : Int)), (24, aI64 x_16)] [.own (api_Banded.c (gt l x_16))] <| .seq ?_
     obtain ⟨hg28, hr⟩ := gd hr
     refine .regionT fine callOf_nil <| .mu 1 <| .pure (v := .pp (l.flatMap api_Banded.c) ((0 : Int).toNat * 7)) (by kernel_rfl) (Eq.trans (b := ORes.ofP (guardV (inR 0 l.length) (.pp (l.flatMap api_Banded.c) ((0 : Int).toNat * 7)))) (by kernel_rfl) (ofP_guard hg28)) (by kernel_rfl) <| .mu 1 <| .pure (v := .agg (api_Grid.c (gt l 0).Grid)) (by kernel_rfl) (Eq.trans (b := ORes.ofP (guardV (decide (6 ≤ ((l.flatMap api_Banded.c).drop ((0 : Int).toNat * 7 + 0)).length)) (.agg (((l.flatMap api_Banded.c).drop ((0 : Int).toNat * 7 + 0)).take 6)))) (by kernel_rfl) (flat_load api_Banded.len (inR_lt hg28) (by decide) (by omega : (0 : Int).toNat * 7 + 0 = (0 : Int).toNat * 7 + 0) (by kernel_rfl))) (by kernel_rfl) <| .mu 6 ?_
     refine .done ⟨by kernel_rfl, ?_⟩
     refine .n2 68 [(0, slT api_Banded.c l), (8, .hp 1 0), (9, .hp 2 0), (22, slT api_Banded.c l), (23, aI64 (l.length : Int)), (24, aI64 x_16)] [.own (api_Banded.c (gt l x_16)), .own (api_Grid.c (gt l 0).Grid), .own (api_Grid.c (gt l x_16).Grid)] <| .seq ?_
     rcases Bool.eq_false_or_eq_true (((gt l 0).Grid.X0 : Int) != (gt l x_16).Grid.X0) with hb29 | hb29
     ·replace hr := cd_t hb29 hr
      refine .r0 fine <| .mu 4 <| .p0 (v := aB true) (Eq.trans (b := some (.pure (aB (((gt l 0).Grid.X0 : Int) != (gt l x_16).Grid.X0)))) (by kernel_rfl) (by rw [hb29])) <| .mu 28 <| .done <| .n2 68 [(0, slT api_Banded.c l), (22, slT api_Banded.c l), (23, aI64 (l.length : Int)), (24, aI64 x_16), (66, aB true)] [.own (api_Banded.c (gt l x_16)), .own (api_Grid.c (gt l 0).Grid), .own (api_Grid.c (gt l x_16).Grid)] <| .cT (by kernel_rfl) <| .seq <| .ru fine <| .ret ?_
      obtain rfl := Option.some.inj hr
      exact ⟨rfl, FinQ.ret (vs := [aI64 4]) (by kernel_rfl) (Sn.pure rfl)⟩
     ·replace hr := cd_f hb29 hr
      rcases Bool.eq_false_or_eq_true (((gt l 0).Grid.Y0 : Int) != (gt l x_16).Grid.Y0) with hb30 | hb30
      ·replace hr := cd_t hb30 hr
       refine .r0 fine <| .mu 4 <| .p0 (v := aB false) (Eq.trans (b := some (.pure (aB (((gt l 0).Grid.X0 : Int) != (gt l x_16).Grid.X0)))) (by kernel_rfl) (by rw [hb29])) <| .mu 5 <| .pure (v := aB true) (by kernel_rfl) (Eq.trans (b := some (.pure (aB (((gt l 0).Grid.Y0 : Int) != (gt l x_16).Grid.Y0)))) (by kernel_rfl) (by rw [hb30])) <| .mu 22 <| .done <| .n2 68 [(0, slT api_Banded.c l), (22, slT api_Banded.c l), (23, aI64 (l.length : Int)), (24, aI64 x_16), (66, aB true)] [.own (api_Banded.c (gt l x_16)), .own (api_Grid.c (gt l 0).Grid), .own (api_Grid.c (gt l x_16).Grid)] <| .cT (by kernel_rfl) <| .seq <| .ru fine <| .ret ?_
       obtain rfl := Option.some.inj hr
       exact ⟨rfl, FinQ.ret (vs := [aI64 4]) (by kernel_rfl) (Sn.pure rfl)⟩
      ·replace hr := cd_f hb30 hr
       rcases Bool.eq_false_or_eq_true (((gt l 0).Grid.Step : Int) != (gt l x_16).Grid.Step) with hb31 | hb31
       ·replace hr := cd_t hb31 hr
        refine .r0 fine <| .mu 4 <| .p0 (v := aB false) (Eq.trans (b := some (.pure (aB (((gt l 0).Grid.X0 : Int) != (gt l x_16).Grid.X0)))) (by kernel_rfl) (by rw [hb29])) <| .mu 5 <| .pure (v := aB false) (by kernel_rfl) (Eq.trans (b := some (.pure (aB (((gt l 0).Grid.Y0 : Int) != (gt l x_16).Grid.Y0)))) (by kernel_rfl) (by rw [hb30])) <| .mu 6 <| .pure (v := aB true) (by kernel_rfl) (Eq.trans (b := some (.pure (aB (((gt l 0).Grid.Step : Int) != (gt l x_16).Grid.Step)))) (by kernel_rfl) (by rw [hb31])) <| .mu 15 <| .done <| .n2 68 [(0, slT api_Banded.c l), (22, slT api_Banded.c l), (23, aI64 (l.length : Int)), (24, aI64 x_16), (66, aB true)] [.own (api_Banded.c (gt l x_16)), .own (api_Grid.c (gt l 0).Grid), .own (api_Grid.c (gt l x_16).Grid)] <| .cT (by kernel_rfl) <| .seq <| .ru fine <| .ret ?_
        obtain rfl := Option.some.inj hr
        exact ⟨rfl, FinQ.ret (vs := [aI64 4]) (by kernel_rfl) (Sn.pure rfl)⟩
       ·replace hr := cd_f hb31 hr
        rcases Bool.eq_false_or_eq_true (((gt l 0).Grid.Width : Int) != (gt l x_16).Grid.Width) with hb32 | hb32
        ·replace hr := cd_t hb32 hr
         refine .r0 fine <| .mu 4 <| .p0 (v := aB false) (Eq.trans (b := some (.pure (aB (((gt l 0).Grid.X0 : Int) != (gt l x_16).Grid.X0)))) (by kernel_rfl) (by rw [hb29])) <| .mu 5 <| .pure (v := aB false) (by kernel_rfl) (Eq.trans (b := some (.pure (aB (((gt l 0).Grid.Y0 : Int) != (gt l x_16).Grid.Y0)))) (by kernel_rfl) (by rw [hb30])) <| .mu 6 <| .pure (v := aB false) (by kernel_rfl) (Eq.trans (b := some (.pure (aB (((gt l 0).Grid.Step : Int) != (gt l x_16).Grid.Step)))) (by kernel_rfl) (by rw [hb31])) <| .mu 6 <| .pure (v := aB true) (by kernel_rfl) (Eq.trans (b := some (.pure (aB (((gt l 0).Grid.Width : Int) != (gt l x_16).Grid.Width)))) (by kernel_rfl) (by rw [hb32])) <| .mu 8 <| .done <| .n2 68 [(0, slT api_Banded.c l), (22, slT api_Banded.c l), (23, aI64 (l.length : Int)), (24, aI64 x_16), (66, aB true)] [.own (api_Banded.c (gt l x_16)), .own (api_Grid.c (gt l 0).Grid), .own (api_Grid.c (gt l x_16).Grid)] <| .cT (by kernel_rfl) <| .seq <| .ru fine <| .ret ?_
         obtain rfl := Option.some.inj hr
         exact ⟨rfl, FinQ.ret (vs := [aI64 4]) (by kernel_rfl) (Sn.pure rfl)⟩
        ·replace hr := cd_f hb32 hr
         refine .r0 fine <| .mu 4 <| .p0 (v := aB false) (Eq.trans (b := some (.pure (aB (((gt l 0).Grid.X0 : Int) != (gt l x_16).Grid.X0)))) (by kernel_rfl) (by rw [hb29])) <| .mu 5 <| .pure (v := aB false) (by kernel_rfl) (Eq.trans (b := some (.pure (aB (((gt l 0).Grid.Y0 : Int) != (gt l x_16).Grid.Y0)))) (by kernel_rfl) (by rw [hb30])) <| .mu 6 <| .pure (v := aB false) (by kernel_rfl) (Eq.trans (b := some (.pure (aB (((gt l 0).Grid.Step : Int) != (gt l x_16).Grid.Step)))) (by kernel_rfl) (by rw [hb31])) <| .mu 6 <| .pure (v := aB false) (by kernel_rfl) (Eq.trans (b := some (.pure (aB (((gt l 0).Grid.Width : Int) != (gt l x_16).Grid.Width)))) (by kernel_rfl) (by rw [hb32])) <| .mu 8 <| .done <| .n2 68 [(0, slT api_Banded.c l), (22, slT api_Banded.c l), (23, aI64 (l.length : Int)), (24, aI64 x_16), (66, aB (((gt l 0).Grid.Height : Int) != (gt l x_16).Grid.Height))] [.own (api_Banded.c (gt l x_16)), .own (api_Grid.c (gt l 0).Grid), .own (api_Grid.c (gt l x_16).Grid)] ?_
         refine .cd hr (fun hb33 hr => ?_) (fun hb33 hr => ?_)
         ·refine .seq <| .ru fine <| .ret ?_
          obtain rfl := Option.some.inj hr
          exact ⟨rfl, FinQ.ret (vs := [aI64 4]) (by kernel_rfl) (Sn.pure rfl)⟩
         ·refine .skip <| .pop <| .ru fine ?_
          exact loopF_back (wrapF .i64 (x_16 + 1)) hr ((Wk.gc [0, 22, 23, 24] [] rfl pK0).to (by kernel_rfl))
    ·refine .leave rfl ?_
     obtain rfl := Option.some.inj hr
     exact ⟨rfl, ((Wk.gc [] [] rfl pK0).to (by kernel_rfl))⟩
   ·rcases o34 with ⟨⟩ | r0
    ·rintro x st' hq36
     clear hL35
     obtain ⟨rfl, hq36⟩ := hq36
     refine CQ_exit _ rfl <| .wk hq36 <| .seq <| .ru fine <| .ret ?_
     obtain rfl := Option.some.inj hr
     exact FinQ.r1 [aI64 0]
    ·rintro x st' hq36
     clear hL35
     obtain ⟨rfl, hq36⟩ := hq36
     obtain rfl := Option.some.inj hr
     exact CQ_ret _ hq36
  ·rintro x st' hq15
   clear hL14
   obtain ⟨rfl, hq15⟩ := hq15
   obtain rfl := Option.some.inj hr
   exact CQ_ret _ hq15

theorem change_difference_ok (n : Nat) (a : api_Banded) (b : api_Banded) (k : Int) (r : Int × Int × Bool) (hr : change_difference n a b k = some r) : FnOk Tryz.prog 92 [.agg (api_Banded.c a), .agg (api_Banded.c b), aI64 k] (.tup [aI64 r.1, aI64 r.2.1, aB r.2.2]) := by
 unfold change_difference at hr
 refine FnOk.bd fine Tryz.func92 [.tmp 6, .tmp 7, .tmp 8] ?_
 unfold Tryz.f92
 simp only [Option.getD_some]
 refine .seq <| .r2 fine 49 [(2, aI64 k), (3, .hp 0 0), (4, .hp 1 0)] [.own (api_Banded.c a), .own (api_Banded.c b)] <| .seq <| .seq ?_
 obtain ⟨hg1, hr⟩ := gd hr
 rcases Bool.eq_false_or_eq_true (((gt a.Grid.Z k) : Int) == (-2147483648)) with hb2 | hb2
 ·replace hr := cd_t hb2 hr
  refine .r0 fine <| .mu 4 <| .p0 (v := .pp (a.Grid.Z.flatMap (iC .i64)) (k.toNat * 1)) (Eq.trans (b := ORes.ofP (guardV (inR k a.Grid.Z.length) (.pp (a.Grid.Z.flatMap (iC .i64)) (k.toNat * 1)))) (by kernel_rfl) (ofP_guard hg1)) <| .p0 (v := aI64 (gt a.Grid.Z k)) (Eq.trans (b := ORes.ofP ((a.Grid.Z.flatMap (iC .i64))[k.toNat * 1]?)) (by kernel_rfl) (ofP_some (flat_get (iC_len _) (inR_lt hg1) (by decide : 0 < 1) (by omega : k.toNat * 1 = k.toNat * 1 + 0) (by kernel_rfl)))) <| .p0 (v := aB true) (Eq.trans (b := some (.pure (aB (((gt a.Grid.Z k) : Int) == (-2147483648))))) (by kernel_rfl) (by rw [hb2])) <| .mu 9 <| .done <| .n2 49 [(2, aI64 k), (3, .hp 0 0), (4, .hp 1 0), (24, aB true)] [.own (api_Banded.c a), .own (api_Banded.c b)] <| .cT (by kernel_rfl) <| .seq <| .ru fine <| .ret ?_
  obtain rfl := Option.some.inj hr
  exact FinQ.ret (vs := [aI64 0, aI64 0, aB false]) (by kernel_rfl) (Sn.tup (SnL.cons (Sn.pure rfl) (SnL.cons (Sn.pure rfl) (SnL.cons (Sn.pure rfl) SnL.nil))))
 ·replace hr := cd_f hb2 hr
  obtain ⟨hg3, hr⟩ := gd hr
  refine .r0 fine <| .mu 4 <| .p0 (v := .pp (a.Grid.Z.flatMap (iC .i64)) (k.toNat * 1)) (Eq.trans (b := ORes.ofP (guardV (inR k a.Grid.Z.length) (.pp (a.Grid.Z.flatMap (iC .i64)) (k.toNat * 1)))) (by kernel_rfl) (ofP_guard hg1)) <| .p0 (v := aI64 (gt a.Grid.Z k)) (Eq.trans (b := ORes.ofP ((a.Grid.Z.flatMap (iC .i64))[k.toNat * 1]?)) (by kernel_rfl) (ofP_some (flat_get (iC_len _) (inR_lt hg1) (by decide : 0 < 1) (by omega : k.toNat * 1 = k.toNat * 1 + 0) (by kernel_rfl)))) <| .p0 (v := aB false) (Eq.trans (b := some (.pure (aB (((gt a.Grid.Z k) : Int) == (-2147483648))))) (by kernel_rfl) (by rw [hb2])) <| .mu 5 <| .pure (v := .pp (b.Grid.Z.flatMap (iC .i64)) (k.toNat * 1)) (by kernel_rfl) (Eq.trans (b := ORes.ofP (guardV (inR k b.Grid.Z.length) (.pp (b.Grid.Z.flatMap (iC .i64)) (k.toNat * 1)))) (by kernel_rfl) (ofP_guard hg3)) <| .pure (v := aI64 (gt b.Grid.Z k)) (by kernel_rfl) (Eq.trans (b := ORes.ofP ((b.Grid.Z.flatMap (iC .i64))[k.toNat * 1]?)) (by kernel_rfl) (ofP_some (flat_get (iC_len _) (inR_lt hg3) (by decide : 0 < 1) (by omega : k.toNat * 1 = k.toNat * 1 + 0) (by kernel_rfl)))) <| .mu 2 <| .done <| .n2 49 [(2, aI64 k), (3, .hp 0 0), (4, .hp 1 0), (24, aB (((gt b.Grid.Z k) : Int) == (-2147483648)))] [.own (api_Banded.c a), .own (api_Banded.c b)] ?_
  refine .cd hr (fun hb4 hr => ?_) (fun hb4 hr => ?_)
  ·refine .seq <| .ru fine <| .ret ?_
   obtain rfl := Option.some.inj hr
   exact FinQ.ret (vs := [aI64 0, aI64 0, aB false]) (by kernel_rfl) (Sn.tup (SnL.cons (Sn.pure rfl) (SnL.cons (Sn.pure rfl) (SnL.cons (Sn.pure rfl) SnL.nil))))
  ·refine .skip <| .seq ?_
   obtain ⟨hg5, hg6, hr⟩ := gd2 hr
   refine .regionT fine callOf_nil <| .mu 4 <| .pure (v := .pp (b.Grid.Z.flatMap (iC .i64)) (k.toNat * 1)) (by kernel_rfl) (Eq.trans (b := ORes.ofP (guardV (inR k b.Grid.Z.length) (.pp (b.Grid.Z.flatMap (iC .i64)) (k.toNat * 1)))) (by kernel_rfl) (ofP_guard hg3)) (by kernel_rfl) <| .pure (v := aI64 (gt b.Grid.Z k)) (by kernel_rfl) (Eq.trans (b := ORes.ofP ((b.Grid.Z.flatMap (iC .i64))[k.toNat * 1]?)) (by kernel_rfl) (ofP_some (flat_get (iC_len _) (inR_lt hg3) (by decide : 0 < 1) (by omega : k.toNat * 1 = k.toNat * 1 + 0) (by kernel_rfl)))) (by kernel_rfl) <| .mu 4 <| .pure (v := .pp (a.Grid.Z.flatMap (iC .i64)) (k.toNat * 1)) (by kernel_rfl) (Eq.trans (b := ORes.ofP (guardV (inR k a.Grid.Z.length) (.pp (a.Grid.Z.flatMap (iC .i64)) (k.toNat * 1)))) (by kernel_rfl) (ofP_guard hg1)) (by kernel_rfl) <| .pure (v := aI64 (gt a.Grid.Z k)) (by kernel_rfl) (Eq.trans (b := ORes.ofP ((a.Grid.Z.flatMap (iC .i64))[k.toNat * 1]?)) (by kernel_rfl) (ofP_some (flat_get (iC_len _) (inR_lt hg1) (by decide : 0 < 1) (by omega : k.toNat * 1 = k.toNat * 1 + 0) (by kernel_rfl)))) (by kernel_rfl) <| .mu 4 <| .pure (v := .pp (a.Err.flatMap (iC .i64)) (k.toNat * 1)) (by kernel_rfl) (Eq.trans (b := ORes.ofP (guardV (inR k a.Err.length) (.pp (a.Err.flatMap (iC .i64)) (k.toNat * 1)))) (by kernel_rfl) (ofP_guard hg5)) (by kernel_rfl) <| .pure (v := aI64 (gt a.Err k)) (by kernel_rfl) (Eq.trans (b := ORes.ofP ((a.Err.flatMap (iC .i64))[k.toNat * 1]?)) (by kernel_rfl) (ofP_some (flat_get (iC_len _) (inR_lt hg5) (by decide : 0 < 1) (by omega : k.toNat * 1 = k.toNat * 1 + 0) (by kernel_rfl)))) (by kernel_rfl) <| .mu 3 <| .pure (v := .pp (b.Err.flatMap (iC .i64)) (k.toNat * 1)) (by kernel_rfl) (Eq.trans (b := ORes.ofP (guardV (inR k b.Err.length) (.pp (b.Err.flatMap (iC .i64)) (k.toNat * 1)))) (by kernel_rfl) (ofP_guard hg6)) (by kernel_rfl) <| .pure (v := aI64 (gt b.Err k)) (by kernel_rfl) (Eq.trans (b := ORes.ofP ((b.Err.flatMap (iC .i64))[k.toNat * 1]?)) (by kernel_rfl) (ofP_some (flat_get (iC_len _) (inR_lt hg6) (by decide : 0 < 1) (by omega : k.toNat * 1 = k.toNat * 1 + 0) (by kernel_rfl)))) (by kernel_rfl) <| .mu 4 ?_
   refine .done ⟨by kernel_rfl, ?_⟩
   refine .ret ?_
   obtain rfl := Option.some.inj hr
   exact FinQ.ret (vs := [aI64 (wrapF .i64 ((gt b.Grid.Z k) - (gt a.Grid.Z k))), aI64 (wrapF .i64 ((gt a.Err k) + (gt b.Err k))), aB true]) (by kernel_rfl) (Sn.tup (SnL.cons (Sn.pure rfl) (SnL.cons (Sn.pure rfl) (SnL.cons (Sn.pure rfl) SnL.nil))))

theorem change_verdict_ok (n : Nat) (a : api_Banded) (b : api_Banded) (k : Int) (r : Int) (hr : change_verdict n a b k = some r) : FnOk Tryz.prog 48 [.agg (api_Banded.c a), .agg (api_Banded.c b), aI64 k] (aI64 r) := by
 unfold change_verdict at hr
 refine FnOk.bd fine Tryz.func48 [.tmp 6] ?_
 unfold Tryz.f48
 simp only [Option.getD_some]
 refine .seq <| .r2 fine 30 [(2, aI64 k), (3, .hp 0 0), (4, .hp 1 0)] [.own (api_Banded.c a), .own (api_Banded.c b)] <| .seq ?_
 obtain ⟨v1, hc2, hr⟩ := bd hr
 refine .g1 fine (ok0 (change_difference_ok n a b k v1 hc2)) <| .mu 3 <| .ca cf0 <| .mu 7 <| .done <| .n2 30 [(7, aI64 v1.1), (8, aI64 v1.2.1), (9, aB v1.2.2)] [.own (api_Banded.c a), .own (api_Banded.c b)] <| .seq <| .block <| .seq <| .r3 fine 30 [(7, aI64 v1.1), (8, aI64 v1.2.1), (18, aB (!v1.2.2))] ?_
 refine .cd hr (fun hb3 hr => ?_) (fun hb3 hr => ?_)
 ·refine .seq <| .ru fine <| .ret ?_
  obtain rfl := Option.some.inj hr
  exact FinQ.r1 [aI64 3]
 ·refine .seq <| .r3 fine 30 [(7, aI64 v1.1), (8, aI64 v1.2.1), (21, aB (decide (v1.1 > v1.2.1)))] ?_
  refine .cd hr (fun hb4 hr => ?_) (fun hb4 hr => ?_)
  ·refine .seq <| .ru fine <| .ret ?_
   obtain rfl := Option.some.inj hr
   exact FinQ.r1 [aI64 1]
  ·refine .seq <| .r0 fine <| .mu 2 <| .p0 (v := aI64 (wrapF .i64 (0 - v1.2.1))) (Eq.trans (b := some (.pure (aI64 (IntKind.wrap .i64 (0 - v1.2.1))))) (by kernel_rfl) wrap_at) <| .mu 2 <| .done <| .n2 30 [(25, aB (decide (v1.1 < (wrapF .i64 (0 - v1.2.1)))))] [.own (api_Banded.c a), .own (api_Banded.c b)] ?_
   refine .cd hr (fun hb5 hr => ?_) (fun hb5 hr => ?_)
   ·refine .seq <| .ru fine <| .ret ?_
    obtain rfl := Option.some.inj hr
    exact FinQ.r1 [aI64 2]
   ·refine .skip <| .pop <| .seq <| .ru fine <| .ret ?_
    obtain rfl := Option.some.inj hr
    exact FinQ.r1 [aI64 0]

theorem change_verdicts_ok (n : Nat) (a : api_Banded) (b : api_Banded) (r : List Int) (hr : change_verdicts n a b = some r) : FnOk Tryz.prog 91 [.agg (api_Banded.c a), .agg (api_Banded.c b)] (sI64 r) := by
 unfold change_verdicts at hr
 refine FnOk.bd fine Tryz.func91 [.tmp 4] ?_
 unfold Tryz.f91
 simp only [Option.getD_some]
 refine .seq <| .r2 fine 23 [(2, .hp 0 0), (3, .hp 1 0)] [.own (api_Banded.c a), .own (api_Banded.c b)] <| .seq <| .r3 fine 23 [(2, .hp 0 0), (3, .hp 1 0), (5, nS)] <| .seq <| .seq <| .r3 fine 23 [(2, .hp 0 0), (3, .hp 1 0), (5, nS), (10, aI64 (a.Grid.Z.length : Int)), (11, aI64 0)] <| .block ?_
 replace hr := bd hr; obtain ⟨out_8, hL16, hr⟩ := hr
 refine .loopO (σ := fun z0 => match z0 with | (out_1, x_2) => ⟨mkS 23 0 [(2, .hp 0 0), (3, .hp 1 0), (5, .hs 2 0 out_1.length 1), (10, aI64 (a.Grid.Z.length : Int)), (11, aI64 x_2)], [.own (api_Banded.c a), .own (api_Banded.c b), .own (out_1.flatMap (iC .i64))]⟩) (Q := fun x st' => x = .exit 0 ∧ Wk 0 st' ⟨mkS 23 0 [(5, .hs 0 0 out_8.length 1)], [.own (out_8.flatMap (iC .i64))]⟩) hL16 ((Wk.nil 5 1 (by kernel_rfl)).trans ((Wk.gc [2, 3, 5, 10, 11] [(0, true), (1, true), (2, false)] rfl (pKt (pKt (pKc trivial)))).to (by kernel_rfl))) ?_ ?_
 ·clear hr
  rintro m ⟨out_1, x_2⟩ hr
  show CQ _ _ _ _ _ ⟨_, _⟩
  refine .seq <| .r3 fine 23 [(2, .hp 0 0), (3, .hp 1 0), (5, .hs 2 0 out_1.length 1), (10, aI64 (a.Grid.Z.length : Int)), (11, aI64 x_2), (12, aB (decide (x_2 < (a.Grid.Z.length : Int))))] <| .seq ?_
  refine .cd hr (fun hb10 hr => ?_) (fun hb10 hr => ?_)
  ·refine .skip <| .seq <| .block <| .seq <| .r3 fine 23 [(2, .hp 0 0), (3, .hp 1 0), (5, .hs 2 0 out_1.length 1), (6, aI64 x_2), (10, aI64 (a.Grid.Z.length : Int)), (11, aI64 x_2)] ?_
   obtain ⟨v11, hc12, hr⟩ := bd hr
   obtain ⟨hg13, hg14, hr⟩ := gd2 hr
   refine .g1 fine (ok0 (change_verdict_ok n a b x_2 v11 hc12)) <| .mu 4 <| .ca cf0 <| .mu 1 <| .e0 (v := .hs 4 0 (out_1 ++ [v11]).length 1) (ws := [(2, .dead), (4, .own ((out_1 ++ [v11]).flatMap (iC .i64)))]) (Eq.trans (b := guardO (decide (0 + out_1.length * 1 ≤ (out_1.flatMap (iC .i64)).length) && decide ((out_1.length + 1) * 8 ≤ 140737488355328) && decide (out_1.length + 1 ≤ 4611686018427387904)) (some (.eff (.hs 4 0 (out_1.length + 1) 1) [(2, .dead), (4, .own (((out_1.flatMap (iC .i64)).drop 0).take (out_1.length * 1) ++ [aI64 v11]))]))) (by kernel_rfl) (app_own (l := out_1) (xs := [v11]) (iC_len _) rfl rfl (by kernel_rfl) hg13 hg14)) <| .mu 1 <| .done <| .pop <| .ru fine ?_
   exact loopF_back (out_1 ++ [v11], wrapF .i64 (x_2 + 1)) hr ((Wk.gc [2, 3, 5, 10, 11] [(0, true), (1, true), (4, false)] rfl (pKt (pKt (pKo (iC .i64) (iC_pure _) (out_1 ++ [v11]) trivial)))).to (by kernel_rfl))
  ·refine .leave rfl ?_
   obtain rfl := Option.some.inj hr
   exact ⟨rfl, ((Wk.gc [5] [(2, false)] rfl (pKo (iC .i64) (iC_pure _) out_1 trivial)).to (by kernel_rfl))⟩
 ·rintro x st' hq17
  clear hL16
  obtain ⟨rfl, hq17⟩ := hq17
  refine CQ_exit _ rfl <| .wk hq17 <| .seq <| .r3 fine 23 [(4, .hs 0 0 out_8.length 1)] <| .ret ?_
  obtain rfl := Option.some.inj hr
  exact FinQ.ret (vs := [.hs 0 0 out_8.length 1]) (by kernel_rfl) (Sn.hs rfl (.inl rfl) (SnC.pure (ids_flat (iC_pure _) _)) (fun h => flat_nil0 h))

theorem change_Compare_ok (n : Nat) (a : api_Banded) (b : api_Banded) (r : List Int × Int) (hr : change_Compare n a b = some r) : FnOk Tryz.prog 39 [.agg (api_Banded.c a), .agg (api_Banded.c b)] (.tup [sI64 r.1, aI64 r.2]) := by
 unfold change_Compare at hr
 refine FnOk.bd fine Tryz.func39 [.tmp 4, .tmp 5] ?_
 unfold Tryz.f39
 simp only [Option.getD_some]
 refine .seq <| .r2 fine 17 [(2, .hp 0 0), (3, .hp 1 0)] [.own (api_Banded.c a), .own (api_Banded.c b)] <| .seq <| .seq ?_
 obtain ⟨v1, hc2, hr⟩ := bd hr
 refine .gn fine (ca4 [.own (api_Banded.c a), .own (api_Banded.c b), .own [aI64 a.Grid.X0, aI64 a.Grid.Y0, aI64 a.Grid.Step, aI64 a.Grid.Width, aI64 a.Grid.Height, sI64 a.Grid.Z, sI64 a.Err, aI64 b.Grid.X0, aI64 b.Grid.Y0, aI64 b.Grid.Step, aI64 b.Grid.Width, aI64 b.Grid.Height, sI64 b.Grid.Z, sI64 b.Err]] (callOk_val (args := [.hs 2 0 2 7]) (l := [2]) rfl (SnL.cons (Sn.hs rfl (.inl rfl) (SnC.cons (Sn.pure rfl) (SnC.cons (Sn.pure rfl) (SnC.cons (Sn.pure rfl) (SnC.cons (Sn.pure rfl) (SnC.cons (Sn.pure rfl) (SnC.cons (Sn.pure rfl) (SnC.cons (Sn.pure rfl) (SnC.cons (Sn.pure rfl) (SnC.cons (Sn.pure rfl) (SnC.cons (Sn.pure rfl) (SnC.cons (Sn.pure rfl) (SnC.cons (Sn.pure rfl) (SnC.cons (Sn.pure rfl) (SnC.cons (Sn.pure rfl) SnC.nil)))))))))))))) (fun h => nomatch h)) SnL.nil) (change_fit_ok n [a, b] v1 hc2))) <| .mu 3 <| .ca cf0 <| .mu 1 <| .done <| .n2 17 [(2, .hp 0 0), (3, .hp 1 0), (6, aI64 v1)] [.own (api_Banded.c a), .own (api_Banded.c b), .own [aI64 a.Grid.X0, aI64 a.Grid.Y0, aI64 a.Grid.Step, aI64 a.Grid.Width, aI64 a.Grid.Height, sI64 a.Grid.Z, sI64 a.Err, aI64 b.Grid.X0, aI64 b.Grid.Y0, aI64 b.Grid.Step, aI64 b.Grid.Width, aI64 b.Grid.Height, sI64 b.Grid.Z, sI64 b.Err]] <| .seq <| .r3 fine 17 [(2, .hp 0 0), (3, .hp 1 0), (6, aI64 v1), (12, aB ((v1 : Int) != 0))] ?_
 refine .cd hr (fun hb3 hr => ?_) (fun hb3 hr => ?_)
 ·refine .seq <| .r3 fine 17 [(4, nS), (5, aI64 v1)] <| .ret ?_
  obtain rfl := Option.some.inj hr
  exact FinQ.ret (vs := [nS, aI64 v1]) (by kernel_rfl) (Sn.tup (SnL.cons Sn.nilsl (SnL.cons (Sn.pure rfl) SnL.nil)))
 ·refine .skip <| .seq ?_
  obtain ⟨v4, hc5, hr⟩ := bd hr
  refine .g1 fine (ok0 (change_verdicts_ok n a b v4 hc5)) <| .mu 2 <| .ca cf0 <| .mu 2 <| .done <| .ret ?_
  obtain rfl := Option.some.inj hr
  exact FinQ.ret (vs := [sI64 v4, aI64 0]) (by kernel_rfl) (Sn.tup (SnL.cons (Sn.pure rfl) (SnL.cons (Sn.pure rfl) SnL.nil)))

theorem integer_split_inj {n' : Int} {n'_ : Int} (h : ([.at (.int .u64 n')] : List AV) = [.at (.int .u64 n'_)]) : n' = n'_ := by
 simp only [List.cons.injEq, AV.agg.injEq, AV.at.injEq, Value.int.injEq, Value.bool.injEq, AV.fn.injEq, AV.pp.injEq, true_and, and_true] at h
 simp_all
theorem integer_split_cg (n : Nat) {n' : Int} {n'_ : Int} (h : ([.at (.int .u64 n')] : List AV) = [.at (.int .u64 n'_)]) : integer_split n n' = integer_split n n'_ := by
 obtain rfl := integer_split_inj h
 rfl
theorem integer_split_ok (n : Nat) (n' : Int) (r : List Int) (hr : integer_split n n' = some r) : FnOk Tryz.prog 146 [aU64 n'] (sU32 r) := by
 unfold integer_split at hr
 refine FnOk.bd fine Tryz.func146 [.tmp 2] ?_
 unfold Tryz.f146
 simp only [Option.getD_some]
 refine .seq <| .r3 fine 15 [(0, aU64 n')] <| .seq <| .r3 fine 15 [(0, aU64 n'), (3, nS)] <| .seq <| .block ?_
 replace hr := bd hr; obtain ⟨g_6, hL12, hr⟩ := hr
 refine .loopO (σ := fun z0 => match z0 with | (n_1, g_2) => ⟨mkS 15 0 [(0, aU64 n_1), (3, .hs 0 0 g_2.length 1)], [.own (g_2.flatMap (iC .u32))]⟩) (Q := fun x st' => x = .exit 0 ∧ Wk 0 st' ⟨mkS 15 0 [(3, .hs 0 0 g_6.length 1)], [.own (g_6.flatMap (iC .u32))]⟩) hL12 ((Wk.nil 3 1 (by kernel_rfl)).trans ((Wk.gc [0, 3] [(0, false)] rfl (pKc trivial)).to (by kernel_rfl))) ?_ ?_
 ·clear hr
  rintro m ⟨n_1, g_2⟩ hr
  show CQ _ _ _ _ _ ⟨_, _⟩
  refine .seq <| .seq <| .r3 fine 15 [(0, aU64 n_1), (3, .hs 0 0 g_2.length 1), (5, aB (decide (n_1 > 0)))] ?_
  refine .cd hr (fun hb8 hr => ?_) (fun hb8 hr => ?_)
  ·refine .skip <| .seq <| .block ?_
   obtain ⟨hg9, hg10, hr⟩ := gd2 hr
   refine .r0 fine <| .mu 5 <| .e0 (v := .hs 2 0 (g_2 ++ [wrapF .u32 (n_1.tmod 1000000000)]).length 1) (ws := [(0, .dead), (2, .own ((g_2 ++ [wrapF .u32 (n_1.tmod 1000000000)]).flatMap (iC .u32)))]) (Eq.trans (b := guardO (decide (0 + g_2.length * 1 ≤ (g_2.flatMap (iC .u32)).length) && decide ((g_2.length + 1) * 4 ≤ 140737488355328) && decide (g_2.length + 1 ≤ 4611686018427387904)) (some (.eff (.hs 2 0 (g_2.length + 1) 1) [(0, .dead), (2, .own (((g_2.flatMap (iC .u32)).drop 0).take (g_2.length * 1) ++ [aU32 (wrapF .u32 (n_1.tmod 1000000000))]))]))) (by kernel_rfl) (app_own (l := g_2) (xs := [wrapF .u32 (n_1.tmod 1000000000)]) (iC_len _) rfl rfl (by kernel_rfl) hg9 hg10)) <| .mu 1 <| .done <| .pop <| .ru fine ?_
   exact loopF_back (wrapF .u64 (n_1.tdiv 1000000000), g_2 ++ [wrapF .u32 (n_1.tmod 1000000000)]) hr ((Wk.gc [0, 3] [(2, false)] rfl (pKo (iC .u32) (iC_pure _) (g_2 ++ [wrapF .u32 (n_1.tmod 1000000000)]) trivial)).to (by kernel_rfl))
  ·refine .leave rfl ?_
   obtain rfl := Option.some.inj hr
   exact ⟨rfl, ((Wk.gc [3] [(0, false)] rfl (pKo (iC .u32) (iC_pure _) g_2 trivial)).to (by kernel_rfl))⟩
 ·rintro x st' hq13
  clear hL12
  obtain ⟨rfl, hq13⟩ := hq13
  refine CQ_exit _ rfl <| .wk hq13 <| .seq <| .r3 fine 15 [(2, .hs 0 0 g_6.length 1)] <| .ret ?_
  obtain rfl := Option.some.inj hr
  exact FinQ.ret (vs := [.hs 0 0 g_6.length 1]) (by kernel_rfl) (Sn.hs rfl (.inl rfl) (SnC.pure (ids_flat (iC_pure _) _)) (fun h => flat_nil0 h))

theorem integer_trim_ok (n : Nat) (g : List Int) (r : List Int) (hr : integer_trim n g = some r) : FnOk Tryz.prog 197 [sU32 g] (sU32 r) := by
 unfold integer_trim at hr
 refine FnOk.bd fine Tryz.func197 [.tmp 2] ?_
 unfold Tryz.f197
 simp only [Option.getD_some]
 refine .seq <| .r3 fine 21 [(0, sU32 g)] <| .seq <| .block ?_
 replace hr := bd hr; obtain ⟨g_6, hL13, hr⟩ := hr
 refine .loopO (σ := fun z0 => match z0 with | g_1 => ⟨mkS 21 0 [(0, sU32 g_1)], []⟩) (Q := fun x st' => x = .exit 0 ∧ Wk 0 st' ⟨mkS 21 0 [(0, sU32 g_6)], []⟩) hL13 ((Wk.gc [0] [] rfl pK0).to (by kernel_rfl)) ?_ ?_
 ·clear hr
  rintro m g_1 hr
  show CQ _ _ _ _ _ ⟨_, _⟩
  refine .seq <| .seq ?_
  rcases Bool.eq_false_or_eq_true (decide ((g_1.length : Int) > 0)) with hb8 | hb8
  ·replace hr := cd_t hb8 hr
   obtain ⟨hg9, hr⟩ := gd hr
   refine .r0 fine <| .mu 2 <| .p0 (v := aB true) (Eq.trans (b := some (.pure (aB (decide ((g_1.length : Int) > 0))))) (by kernel_rfl) (by rw [hb8])) <| .mu 5 <| .pure (v := .pp (g_1.flatMap (iC .u32)) ((wrapF .i64 ((g_1.length : Int) - 1)).toNat * 1)) (by kernel_rfl) (Eq.trans (b := ORes.ofP (guardV (inR (wrapF .i64 ((g_1.length : Int) - 1)) g_1.length) (.pp (g_1.flatMap (iC .u32)) ((wrapF .i64 ((g_1.length : Int) - 1)).toNat * 1)))) (by kernel_rfl) (ofP_guard hg9)) <| .pure (v := aU32 (gt g_1 (wrapF .i64 ((g_1.length : Int) - 1)))) (by kernel_rfl) (Eq.trans (b := ORes.ofP ((g_1.flatMap (iC .u32))[(wrapF .i64 ((g_1.length : Int) - 1)).toNat * 1]?)) (by kernel_rfl) (ofP_some (flat_get (iC_len _) (inR_lt hg9) (by decide : 0 < 1) (by omega : (wrapF .i64 ((g_1.length : Int) - 1)).toNat * 1 = (wrapF .i64 ((g_1.length : Int) - 1)).toNat * 1 + 0) (by kernel_rfl)))) <| .mu 2 <| .done <| .n2 21 [(0, sU32 g_1), (14, aB (((gt g_1 (wrapF .i64 ((g_1.length : Int) - 1))) : Int) == 0))] [] ?_
   refine .cd hr (fun hb10 hr => ?_) (fun hb10 hr => ?_)
   ·refine .skip <| .block ?_
    obtain ⟨hg11, hr⟩ := gd hr
    refine .r0 fine <| .mu 4 <| .p0 (v := sU32 ((g_1.drop (0 : Int).toNat).take ((wrapF .i64 ((g_1.length : Int) - 1)).toNat - (0 : Int).toNat))) (Eq.trans (b := slO (inS 0 (wrapF .i64 ((g_1.length : Int) - 1)) g_1.length) (0 : Int).toNat (wrapF .i64 ((g_1.length : Int) - 1)).toNat (fun z1 z2 => .sl true (((g_1.flatMap (iC .u32)).drop (z1 * 1)).take ((z2 - z1) * 1)) (z2 - z1))) (by kernel_rfl) (slO_t hg11 (sub_sl (iC_len _) (inS_le hg11)))) <| .mu 1 <| .done <| .pop ?_
    exact loopF_back ((g_1.drop (0 : Int).toNat).take ((wrapF .i64 ((g_1.length : Int) - 1)).toNat - (0 : Int).toNat)) hr ((Wk.gc [0] [] rfl pK0).to (by kernel_rfl))
   ·refine .leave rfl ?_
    obtain rfl := Option.some.inj hr
    exact ⟨rfl, ((Wk.gc [0] [] rfl pK0).to (by kernel_rfl))⟩
  ·replace hr := cd_f hb8 hr
   refine .r0 fine <| .mu 2 <| .p0 (v := aB false) (Eq.trans (b := some (.pure (aB (decide ((g_1.length : Int) > 0))))) (by kernel_rfl) (by rw [hb8])) <| .mu 9 <| .done <| .n2 21 [(0, sU32 g_1), (14, aB false)] [] <| .cF (by kernel_rfl) <| .leave rfl ?_
   obtain rfl := Option.some.inj hr
   exact ⟨rfl, ((Wk.gc [0] [] rfl pK0).to (by kernel_rfl))⟩
 ·rintro x st' hq14
  clear hL13
  obtain ⟨rfl, hq14⟩ := hq14
  refine CQ_exit _ rfl <| .wk hq14 <| .seq <| .ru fine <| .ret ?_
  obtain rfl := Option.some.inj hr
  exact FinQ.r1 [sU32 g_6]

theorem integer_made_inj {negative : Bool} {g : List Int} {negative_ : Bool} {g_ : List Int} (h : ([.at (.bool negative), slT (iC .u32) g] : List AV) = [.at (.bool negative_), slT (iC .u32) g_]) : negative = negative_ ∧ g = g_ := by
 simp only [List.cons.injEq, AV.agg.injEq, AV.at.injEq, Value.int.injEq, Value.bool.injEq, AV.fn.injEq, AV.pp.injEq, true_and, and_true, slT_inj_int] at h
 simp_all
theorem integer_made_cg (n : Nat) {negative : Bool} {g : List Int} {negative_ : Bool} {g_ : List Int} (h : ([.at (.bool negative), slT (iC .u32) g] : List AV) = [.at (.bool negative_), slT (iC .u32) g_]) : integer_made n negative g = integer_made n negative_ g_ := by
 obtain ⟨rfl, rfl⟩ := integer_made_inj h
 rfl
theorem integer_made_ok (n : Nat) (negative : Bool) (g : List Int) (r : api_Int) (hr : integer_made n negative g = some r) : FnOk Tryz.prog 145 [aB negative, sU32 g] (.agg (api_Int.c r)) := by
 unfold integer_made at hr
 refine FnOk.bd fine Tryz.func145 [.cell 4 72] ?_
 unfold Tryz.f145
 simp only [Option.getD_some]
 refine .seq <| .r2 fine 14 [(0, aB negative), (1, sU32 g), (4, .hp 0 0)] [.own [aB false, nS]] <| .seq ?_
 obtain ⟨v1, hc2, hr⟩ := bd hr
 refine .g1 fine (ok0 (integer_trim_ok n g v1 hc2)) <| .mu 1 <| .ca cf0 <| .mu 1 <| .done <| .n2 14 [(0, aB negative), (1, sU32 v1), (4, .hp 0 0)] [.own [aB false, nS]] <| .seq <| .seq <| .r3 fine 14 [(0, aB negative), (1, sU32 v1), (4, .hp 0 0), (9, aB (((v1.length : Int) : Int) == 0))] ?_
 refine .cd hr (fun hb3 hr => ?_) (fun hb3 hr => ?_)
 ·refine .seq <| .r3 fine 14 [(4, .hp 0 0)] <| .ret ?_
  obtain rfl := Option.some.inj hr
  exact FinQ.ret (vs := [.agg [aB false, nS]]) (by kernel_rfl) (Sn.agg (SnL.cons (Sn.pure rfl) (SnL.cons Sn.nilsl SnL.nil)))
 ·refine .skip <| .seq <| .r2 fine 14 [(4, .hp 0 0)] [.own [aB negative, sU32 v1]] <| .ret ?_
  obtain rfl := Option.some.inj hr
  exact FinQ.r1 [.agg [aB negative, sU32 v1]]

theorem integer_Of_inj {n' : Int} {n'_ : Int} (h : ([.at (.int .i64 n')] : List AV) = [.at (.int .i64 n'_)]) : n' = n'_ := by
 simp only [List.cons.injEq, AV.agg.injEq, AV.at.injEq, Value.int.injEq, Value.bool.injEq, AV.fn.injEq, AV.pp.injEq, true_and, and_true] at h
 simp_all
theorem integer_Of_cg (n : Nat) {n' : Int} {n'_ : Int} (h : ([.at (.int .i64 n')] : List AV) = [.at (.int .i64 n'_)]) : integer_Of n n' = integer_Of n n'_ := by
 obtain rfl := integer_Of_inj h
 rfl
theorem integer_Of_ok (n : Nat) (n' : Int) (r : api_Int) (hr : integer_Of n n' = some r) : FnOk Tryz.prog 111 [aI64 n'] (.agg (api_Int.c r)) := by
 unfold integer_Of at hr
 refine FnOk.bd fine Tryz.func111 [.cell 2 72] ?_
 unfold Tryz.f111
 simp only [Option.getD_some]
 refine .seq <| .r2 fine 15 [(0, aI64 n'), (2, .hp 0 0)] [.own [aB false, nS]] <| .seq <| .r3 fine 15 [(0, aI64 n'), (2, .hp 0 0), (3, aU64 (wrapF .u64 n'))] <| .seq <| .seq <| .r3 fine 15 [(0, aI64 n'), (2, .hp 0 0), (3, aU64 (wrapF .u64 n')), (7, aB (decide (n' < 0)))] ?_
 refine .cd hr (fun hb1 hr => ?_) (fun hb1 hr => ?_)
 ·refine .r0 fine <| .mu 1 <| .p0 (v := aU64 (wrapF .u64 (0 - (wrapF .u64 n')))) (Eq.trans (b := some (.pure (aU64 (IntKind.wrap .u64 (0 - (wrapF .u64 n')))))) (by kernel_rfl) wrap_at) <| .mu 1 <| .done <| .n2 15 [(0, aI64 n'), (2, .hp 0 0), (3, aU64 (wrapF .u64 (0 - (wrapF .u64 n'))))] [.own [aB false, nS]] <| .seq ?_
  obtain ⟨v2, hc3, v4, hc5, hr⟩ := bd2 hr
  refine .gn fine (ca1 (ok0 (integer_split_ok n (wrapF .u64 (0 - (wrapF .u64 n'))) v2 hc3)) (ca3 (ok0 (integer_made_ok n true v2 v4 hc5)))) <| .mu 1 <| .p0 (v := aB true) (Eq.trans (b := some (.pure (aB (decide (n' < 0))))) (by kernel_rfl) (by rw [hb1])) <| .mu 1 <| .ca cf0 <| .ca (cfF cf0) <| .mu 1 <| .done <| .n2 15 [(2, .hp 0 0)] [.own (api_Int.c v4)] <| .ret ?_
  obtain rfl := Option.some.inj hr
  exact FinQ.r1 [.agg (api_Int.c v4)]
 ·refine .skip <| .seq ?_
  obtain ⟨v6, hc7, v8, hc9, hr⟩ := bd2 hr
  refine .gn fine (ca1 (ok0 (integer_split_ok n (wrapF .u64 n') v6 hc7)) (ca3 (ok0 (integer_made_ok n false v6 v8 hc9)))) <| .mu 1 <| .p0 (v := aB false) (Eq.trans (b := some (.pure (aB (decide (n' < 0))))) (by kernel_rfl) (by rw [hb1])) <| .mu 1 <| .ca cf0 <| .ca (cfF cf0) <| .mu 1 <| .done <| .n2 15 [(2, .hp 0 0)] [.own (api_Int.c v8)] <| .ret ?_
  obtain rfl := Option.some.inj hr
  exact FinQ.r1 [.agg (api_Int.c v8)]

theorem fraction_Whole_inj {n' : Int} {n'_ : Int} (h : ([.at (.int .i64 n')] : List AV) = [.at (.int .i64 n'_)]) : n' = n'_ := by
 simp only [List.cons.injEq, AV.agg.injEq, AV.at.injEq, Value.int.injEq, Value.bool.injEq, AV.fn.injEq, AV.pp.injEq, true_and, and_true] at h
 simp_all
theorem fraction_Whole_cg (n : Nat) {n' : Int} {n'_ : Int} (h : ([.at (.int .i64 n')] : List AV) = [.at (.int .i64 n'_)]) : fraction_Whole n n' = fraction_Whole n n'_ := by
 obtain rfl := fraction_Whole_inj h
 rfl
theorem fraction_Whole_ok (n : Nat) (n' : Int) (r : api_Rat) (hr : fraction_Whole n n' = some r) : FnOk Tryz.prog 108 [aI64 n'] (.agg (api_Rat.c r)) := by
 unfold fraction_Whole at hr
 refine FnOk.bd fine Tryz.func108 [.cell 2 74] ?_
 unfold Tryz.f108
 simp only [Option.getD_some]
 refine .seq <| .r2 fine 7 [(0, aI64 n'), (2, .hp 0 0)] [.own [aB false, nS, aB false, nS]] <| .seq ?_
 obtain ⟨v1, hc2, v3, hc4, hr⟩ := bd2 hr
 refine .gn fine (ca1 (ok0 (integer_Of_ok n n' v1 hc2)) (ca3 (ok0 (integer_Of_ok n 1 v3 hc4)))) <| .mu 1 <| .ca cf0 <| .ca (cfA (fun h => by rw [sv hc4 hc2 (integer_Of_cg n h)]) cf0) <| .mu 2 <| .done <| .n2 7 [(2, .hp 0 0)] [.own [aB v1.Negative, sU32 v1.Groups, aB v3.Negative, sU32 v3.Groups]] <| .ret ?_
 obtain rfl := Option.some.inj hr
 exact FinQ.r1 [.agg [aB v1.Negative, sU32 v1.Groups, aB v3.Negative, sU32 v3.Groups]]

theorem integer_Valid_1_ok (n : Nat) (g : Int) (r : Bool) (hr : integer_Valid_1 n g = some r) : FnOk Tryz.prog 205 [aU32 g] (aB r) := by
 unfold integer_Valid_1 at hr
 refine FnOk.bd fine Tryz.func205 [.tmp 2] ?_
 unfold Tryz.f205
 simp only [Option.getD_some]
 refine .seq <| .r3 fine 5 [(0, aU32 g)] <| .seq <| .ru fine <| .ret ?_
 obtain rfl := Option.some.inj hr
 exact FinQ.r1 [aB (decide (g ≥ 1000000000))]

theorem slices_IndexFunc_uint32_uint32_of_integer_Valid_1_ok (n : Nat) (s : List Int) (r : Int) (hr : slices_IndexFunc_uint32_uint32_of_integer_Valid_1 n s = some r) : FnOk Tryz.prog 226 [sU32 s, .fn 205 [] []] (aI64 r) := by
 unfold slices_IndexFunc_uint32_uint32_of_integer_Valid_1 at hr
 refine FnOk.bd fine Tryz.func226 [.tmp 4] ?_
 unfold Tryz.f226
 simp only [Option.getD_some]
 refine .seq <| .r3 fine 19 [(0, sU32 s), (1, .fn 205 [] [])] <| .seq <| .seq <| .r3 fine 19 [(0, sU32 s), (1, .fn 205 [] []), (7, aI64 (s.length : Int)), (8, aI64 0)] <| .block ?_
 replace hr := bd hr; obtain ⟨o13, hL14, hr⟩ := hr
 refine .loopO (σ := fun z0 => match z0 with | x_1 => ⟨mkS 19 0 [(0, sU32 s), (1, .fn 205 [] []), (7, aI64 (s.length : Int)), (8, aI64 x_1)], []⟩) (Q := fun x st' => match (generalizing := false) o13 with | .inl _ => x = .exit 0 ∧ Wk 0 st' ⟨mkS 19 0 [], []⟩ | .inr (r0) => x = .ret ∧ FinQ Tryz.prog [.tmp 4] (aI64 r0) .ret st') hL14 ((Wk.gc [0, 1, 7, 8] [] rfl pK0).to (by kernel_rfl)) ?_ ?_
 ·clear hr
  rintro m x_1 hr
  show CQ _ _ _ _ _ ⟨_, _⟩
  refine .seq <| .r3 fine 19 [(0, sU32 s), (1, .fn 205 [] []), (7, aI64 (s.length : Int)), (8, aI64 x_1), (9, aB (decide (x_1 < (s.length : Int))))] <| .seq ?_
  refine .cd hr (fun hb8 hr => ?_) (fun hb8 hr => ?_)
  ·refine .skip <| .seq <| .block <| .seq <| .r3 fine 19 [(0, sU32 s), (1, .fn 205 [] []), (5, aI64 x_1), (7, aI64 (s.length : Int)), (8, aI64 x_1)] <| .seq ?_
   obtain ⟨hg9, hr⟩ := gd hr
   obtain ⟨v10, hc11, hr⟩ := bd hr
   refine .g1 fine (ok0 (integer_Valid_1_ok n (gt s x_1) v10 hc11)) <| .mu 3 <| .p0 (v := .pp (s.flatMap (iC .u32)) (x_1.toNat * 1)) (Eq.trans (b := ORes.ofP (guardV (inR x_1 s.length) (.pp (s.flatMap (iC .u32)) (x_1.toNat * 1)))) (by kernel_rfl) (ofP_guard hg9)) <| .p0 (v := aU32 (gt s x_1)) (Eq.trans (b := ORes.ofP ((s.flatMap (iC .u32))[x_1.toNat * 1]?)) (by kernel_rfl) (ofP_some (flat_get (iC_len _) (inR_lt hg9) (by decide : 0 < 1) (by omega : x_1.toNat * 1 = x_1.toNat * 1 + 0) (by kernel_rfl)))) <| .ca cf0 <| .done <| .n2 19 [(0, sU32 s), (1, .fn 205 [] []), (5, aI64 x_1), (7, aI64 (s.length : Int)), (8, aI64 x_1), (16, aB v10)] [] ?_
   refine .cd hr (fun hb12 hr => ?_) (fun hb12 hr => ?_)
   ·refine .seq <| .ru fine <| .ret ?_
    obtain rfl := Option.some.inj hr
    exact ⟨rfl, FinQ.ret (vs := [aI64 x_1]) (by kernel_rfl) (Sn.pure rfl)⟩
   ·refine .skip <| .pop <| .ru fine ?_
    exact loopF_back (wrapF .i64 (x_1 + 1)) hr ((Wk.gc [0, 1, 7, 8] [] rfl pK0).to (by kernel_rfl))
  ·refine .leave rfl ?_
   obtain rfl := Option.some.inj hr
   exact ⟨rfl, ((Wk.gc [] [] rfl pK0).to (by kernel_rfl))⟩
 ·rcases o13 with ⟨⟩ | r0
  ·rintro x st' hq15
   clear hL14
   obtain ⟨rfl, hq15⟩ := hq15
   refine CQ_exit _ rfl <| .wk hq15 <| .seq <| .ru fine <| .ret ?_
   obtain rfl := Option.some.inj hr
   exact FinQ.r1 [aI64 (-1)]
  ·rintro x st' hq15
   clear hL14
   obtain ⟨rfl, hq15⟩ := hq15
   obtain rfl := Option.some.inj hr
   exact CQ_ret _ hq15

theorem slices_ContainsFunc_uint32_uint32_of_integer_Valid_1_ok (n : Nat) (s : List Int) (r : Bool) (hr : slices_ContainsFunc_uint32_uint32_of_integer_Valid_1 n s = some r) : FnOk Tryz.prog 204 [sU32 s, .fn 205 [] []] (aB r) := by
 unfold slices_ContainsFunc_uint32_uint32_of_integer_Valid_1 at hr
 refine FnOk.bd fine Tryz.func204 [.tmp 4] ?_
 unfold Tryz.f204
 simp only [Option.getD_some]
 refine .seq <| .r3 fine 9 [(0, sU32 s), (1, .fn 205 [] [])] <| .seq ?_
 obtain ⟨v1, hc2, hr⟩ := bd hr
 refine .g1 fine (ok0 (slices_IndexFunc_uint32_uint32_of_integer_Valid_1_ok n s v1 hc2)) <| .mu 2 <| .ca cf0 <| .mu 2 <| .done <| .ret ?_
 obtain rfl := Option.some.inj hr
 exact FinQ.r1 [aB (decide (v1 ≥ 0))]

theorem integer_Valid_inj {x' : api_Int} {x'_ : api_Int} (h : ([.agg [.at (.bool x'.Negative), slT (iC .u32) x'.Groups]] : List AV) = [.agg [.at (.bool x'_.Negative), slT (iC .u32) x'_.Groups]]) : x' = x'_ := by
 obtain ⟨_, _⟩ := x'
 obtain ⟨_, _⟩ := x'_
 simp only [List.cons.injEq, AV.agg.injEq, AV.at.injEq, Value.int.injEq, Value.bool.injEq, AV.fn.injEq, AV.pp.injEq, true_and, and_true, slT_inj_int] at h
 simp_all
theorem integer_Valid_cg (n : Nat) {x' : api_Int} {x'_ : api_Int} (h : ([.agg [.at (.bool x'.Negative), slT (iC .u32) x'.Groups]] : List AV) = [.agg [.at (.bool x'_.Negative), slT (iC .u32) x'_.Groups]]) : integer_Valid n x' = integer_Valid n x'_ := by
 obtain rfl := integer_Valid_inj h
 rfl
theorem integer_Valid_ok (n : Nat) (x' : api_Int) (r : Bool) (hr : integer_Valid n x' = some r) : FnOk Tryz.prog 164 [.agg (api_Int.c x')] (aB r) := by
 unfold integer_Valid at hr
 refine FnOk.bd fine Tryz.func164 [.tmp 2] ?_
 unfold Tryz.f164
 simp only [Option.getD_some]
 refine .seq <| .r2 fine 25 [(1, .hp 0 0)] [.own (api_Int.c x')] <| .seq <| .r3 fine 25 [(1, .hp 0 0), (3, aI64 (x'.Groups.length : Int))] <| .seq <| .seq <| .r3 fine 25 [(1, .hp 0 0), (3, aI64 (x'.Groups.length : Int)), (8, aB (((x'.Groups.length : Int) : Int) == 0))] ?_
 refine .cd hr (fun hb1 hr => ?_) (fun hb1 hr => ?_)
 ·refine .seq <| .ru fine <| .ret ?_
  obtain rfl := Option.some.inj hr
  exact FinQ.r1 [aB (!x'.Negative)]
 ·refine .skip <| .seq ?_
  obtain ⟨hg2, hr⟩ := gd hr
  rcases Bool.eq_false_or_eq_true (((gt x'.Groups (wrapF .i64 ((x'.Groups.length : Int) - 1))) : Int) != 0) with hb3 | hb3
  ·replace hr := cd_t hb3 hr
   obtain ⟨v4, hc5, hr⟩ := bd hr
   refine .g1 fine (ok0 (slices_ContainsFunc_uint32_uint32_of_integer_Valid_1_ok n x'.Groups v4 hc5)) <| .mu 4 <| .p0 (v := .pp (x'.Groups.flatMap (iC .u32)) ((wrapF .i64 ((x'.Groups.length : Int) - 1)).toNat * 1)) (Eq.trans (b := ORes.ofP (guardV (inR (wrapF .i64 ((x'.Groups.length : Int) - 1)) x'.Groups.length) (.pp (x'.Groups.flatMap (iC .u32)) ((wrapF .i64 ((x'.Groups.length : Int) - 1)).toNat * 1)))) (by kernel_rfl) (ofP_guard hg2)) <| .p0 (v := aU32 (gt x'.Groups (wrapF .i64 ((x'.Groups.length : Int) - 1)))) (Eq.trans (b := ORes.ofP ((x'.Groups.flatMap (iC .u32))[(wrapF .i64 ((x'.Groups.length : Int) - 1)).toNat * 1]?)) (by kernel_rfl) (ofP_some (flat_get (iC_len _) (inR_lt hg2) (by decide : 0 < 1) (by omega : (wrapF .i64 ((x'.Groups.length : Int) - 1)).toNat * 1 = (wrapF .i64 ((x'.Groups.length : Int) - 1)).toNat * 1 + 0) (by kernel_rfl)))) <| .p0 (v := aB true) (Eq.trans (b := some (.pure (aB (((gt x'.Groups (wrapF .i64 ((x'.Groups.length : Int) - 1))) : Int) != 0)))) (by kernel_rfl) (by rw [hb3])) <| .mu 3 <| .ca cf0 <| .mu 3 <| .done <| .ret ?_
   obtain rfl := Option.some.inj hr
   exact FinQ.r1 [aB (!v4)]
  ·replace hr := cd_f hb3 hr
   refine .r0 fine <| .mu 4 <| .p0 (v := .pp (x'.Groups.flatMap (iC .u32)) ((wrapF .i64 ((x'.Groups.length : Int) - 1)).toNat * 1)) (Eq.trans (b := ORes.ofP (guardV (inR (wrapF .i64 ((x'.Groups.length : Int) - 1)) x'.Groups.length) (.pp (x'.Groups.flatMap (iC .u32)) ((wrapF .i64 ((x'.Groups.length : Int) - 1)).toNat * 1)))) (by kernel_rfl) (ofP_guard hg2)) <| .p0 (v := aU32 (gt x'.Groups (wrapF .i64 ((x'.Groups.length : Int) - 1)))) (Eq.trans (b := ORes.ofP ((x'.Groups.flatMap (iC .u32))[(wrapF .i64 ((x'.Groups.length : Int) - 1)).toNat * 1]?)) (by kernel_rfl) (ofP_some (flat_get (iC_len _) (inR_lt hg2) (by decide : 0 < 1) (by omega : (wrapF .i64 ((x'.Groups.length : Int) - 1)).toNat * 1 = (wrapF .i64 ((x'.Groups.length : Int) - 1)).toNat * 1 + 0) (by kernel_rfl)))) <| .p0 (v := aB false) (Eq.trans (b := some (.pure (aB (((gt x'.Groups (wrapF .i64 ((x'.Groups.length : Int) - 1))) : Int) != 0)))) (by kernel_rfl) (by rw [hb3])) <| .mu 7 <| .done <| .ret ?_
   obtain rfl := Option.some.inj hr
   exact FinQ.r1 [aB false]

theorem integer_groups_inj {x' : api_Int} {x'_ : api_Int} (h : ([.agg [.at (.bool x'.Negative), slT (iC .u32) x'.Groups]] : List AV) = [.agg [.at (.bool x'_.Negative), slT (iC .u32) x'_.Groups]]) : x' = x'_ := by
 obtain ⟨_, _⟩ := x'
 obtain ⟨_, _⟩ := x'_
 simp only [List.cons.injEq, AV.agg.injEq, AV.at.injEq, Value.int.injEq, Value.bool.injEq, AV.fn.injEq, AV.pp.injEq, true_and, and_true, slT_inj_int] at h
 simp_all
theorem integer_groups_cg (n : Nat) {x' : api_Int} {x'_ : api_Int} (h : ([.agg [.at (.bool x'.Negative), slT (iC .u32) x'.Groups]] : List AV) = [.agg [.at (.bool x'_.Negative), slT (iC .u32) x'_.Groups]]) : integer_groups n x' = integer_groups n x'_ := by
 obtain rfl := integer_groups_inj h
 rfl
theorem integer_groups_ok (n : Nat) (x' : api_Int) (r : List Int) (hr : integer_groups n x' = some r) : FnOk Tryz.prog 127 [.agg (api_Int.c x')] (sU32 r) := by
 unfold integer_groups at hr
 refine FnOk.bd fine Tryz.func127 [.tmp 2] ?_
 unfold Tryz.f127
 simp only [Option.getD_some]
 refine .seq <| .r2 fine 8 [(1, .hp 0 0)] [.own (api_Int.c x')] <| .seq <| .seq ?_
 obtain ⟨v1, hc2, hr⟩ := bd hr
 refine .g1 fine (ok0 (integer_Valid_ok n x' v1 hc2)) <| .mu 1 <| .ca cf0 <| .mu 1 <| .done <| .n2 8 [(1, .hp 0 0), (5, aB (!v1))] [.own (api_Int.c x')] ?_
 refine .cd hr (fun hb3 hr => ?_) (fun hb3 hr => ?_)
 ·refine .seq <| .r3 fine 8 [(2, nS)] <| .ret ?_
  obtain rfl := Option.some.inj hr
  exact FinQ.ret (vs := [nS]) (by kernel_rfl) Sn.nilsl
 ·refine .skip <| .seq <| .ru fine <| .ret ?_
  obtain rfl := Option.some.inj hr
  exact FinQ.r1 [sU32 x'.Groups]

theorem integer_Sign_inj {x' : api_Int} {x'_ : api_Int} (h : ([.agg [.at (.bool x'.Negative), slT (iC .u32) x'.Groups]] : List AV) = [.agg [.at (.bool x'_.Negative), slT (iC .u32) x'_.Groups]]) : x' = x'_ := by
 obtain ⟨_, _⟩ := x'
 obtain ⟨_, _⟩ := x'_
 simp only [List.cons.injEq, AV.agg.injEq, AV.at.injEq, Value.int.injEq, Value.bool.injEq, AV.fn.injEq, AV.pp.injEq, true_and, and_true, slT_inj_int] at h
 simp_all
theorem integer_Sign_cg (n : Nat) {x' : api_Int} {x'_ : api_Int} (h : ([.agg [.at (.bool x'.Negative), slT (iC .u32) x'.Groups]] : List AV) = [.agg [.at (.bool x'_.Negative), slT (iC .u32) x'_.Groups]]) : integer_Sign n x' = integer_Sign n x'_ := by
 obtain rfl := integer_Sign_inj h
 rfl
theorem integer_Sign_ok (n : Nat) (x' : api_Int) (r : Int) (hr : integer_Sign n x' = some r) : FnOk Tryz.prog 116 [.agg (api_Int.c x')] (aI64 r) := by
 unfold integer_Sign at hr
 refine FnOk.bd fine Tryz.func116 [.tmp 2] ?_
 unfold Tryz.f116
 simp only [Option.getD_some]
 refine .seq <| .r2 fine 11 [(1, .hp 0 0)] [.own (api_Int.c x')] <| .seq <| .block <| .seq ?_
 obtain ⟨v1, hc2, hr⟩ := bd hr
 refine .g1 fine (ok0 (integer_groups_ok n x' v1 hc2)) <| .mu 1 <| .ca cf0 <| .mu 3 <| .done <| .n2 11 [(1, .hp 0 0), (3, aB (((v1.length : Int) : Int) == 0))] [.own (api_Int.c x')] ?_
 refine .cd hr (fun hb3 hr => ?_) (fun hb3 hr => ?_)
 ·refine .seq <| .ru fine <| .ret ?_
  obtain rfl := Option.some.inj hr
  exact FinQ.r1 [aI64 0]
 ·refine .seq <| .r3 fine 11 [(8, aB x'.Negative)] ?_
  refine .cd hr (fun hb4 hr => ?_) (fun hb4 hr => ?_)
  ·refine .seq <| .ru fine <| .ret ?_
   obtain rfl := Option.some.inj hr
   exact FinQ.r1 [aI64 (-1)]
  ·refine .skip <| .pop <| .seq <| .ru fine <| .ret ?_
   obtain rfl := Option.some.inj hr
   exact FinQ.r1 [aI64 1]




theorem integer_times_ok (n : Nat) (a : List Int) (b : List Int) (r : List Int) (hr : integer_times n a b = some r) : FnOk Tryz.prog 148 [sU32 a, sU32 b] (sU32 r) := by
 unfold integer_times at hr
 refine FnOk.bd fine Tryz.func148 [.tmp 4] ?_
 unfold Tryz.f148
 simp only [Option.getD_some]
 refine .seq <| .r3 fine 69 [(0, sU32 a), (1, sU32 b)] <| .seq ?_
 obtain ⟨hg1, hg2, hg3, hr⟩ := gd3 hr
 refine .r0 fine <| .mu 5 <| .e0 (v := .hs 0 0 (List.replicate (wrapF .i64 ((a.length : Int) + (b.length : Int))).toNat ((0 : Int) : Int)).length 1) (ws := [(0, .own ((List.replicate (wrapF .i64 ((a.length : Int) + (b.length : Int))).toNat ((0 : Int) : Int)).flatMap (iC .u32)))]) (Eq.trans (b := guardO (decide (0 ≤ (wrapF .i64 ((a.length : Int) + (b.length : Int)))) && decide ((wrapF .i64 ((a.length : Int) + (b.length : Int))) ≤ (wrapF .i64 ((a.length : Int) + (b.length : Int)))) && decide ((4 : Int) * (wrapF .i64 ((a.length : Int) + (b.length : Int))) ≤ 281474976710656) && decide ((wrapF .i64 ((a.length : Int) + (b.length : Int))) ≤ 9223372036854775807) && true && true && true) (some (.eff (.hs 0 0 (wrapF .i64 ((a.length : Int) + (b.length : Int))).toNat 1) [(0, .own (zerosA [aU32 0] (wrapF .i64 ((a.length : Int) + (b.length : Int))).toNat))]))) (by kernel_rfl) (make_own (c := (iC .u32)) (z := (0 : Int)) (n := wrapF .i64 ((a.length : Int) + (b.length : Int))) (by_ := 4) rfl hg1 hg2 hg3)) <| .mu 1 <| .done <| .n2 69 [(0, sU32 a), (1, sU32 b), (5, .hs 0 0 (List.replicate (wrapF .i64 ((a.length : Int) + (b.length : Int))).toNat ((0 : Int) : Int)).length 1)] [.own ((List.replicate (wrapF .i64 ((a.length : Int) + (b.length : Int))).toNat ((0 : Int) : Int)).flatMap (iC .u32))] <| .seq <| .seq <| .r3 fine 69 [(1, sU32 b), (5, .hs 0 0 (List.replicate (wrapF .i64 ((a.length : Int) + (b.length : Int))).toNat ((0 : Int) : Int)).length 1), (18, sU32 a), (19, aI64 (a.length : Int)), (20, aI64 0)] <| .block ?_
 replace hr := bd hr; obtain ⟨out_24, hL45, hr⟩ := hr
 refine .loopO (σ := fun z0 => match z0 with | (out_4, x_5) => ⟨mkS 69 0 [(1, sU32 b), (5, .hs 0 0 out_4.length 1), (18, sU32 a), (19, aI64 (a.length : Int)), (20, aI64 x_5)], [.own (out_4.flatMap (iC .u32))]⟩) (Q := fun x st' => x = .exit 0 ∧ Wk 0 st' ⟨mkS 69 0 [(5, .hs 0 0 out_24.length 1)], [.own (out_24.flatMap (iC .u32))]⟩) hL45 ((Wk.gc [1, 5, 18, 19, 20] [(0, false)] rfl (pKo (iC .u32) (iC_pure _) (List.replicate (wrapF .i64 ((a.length : Int) + (b.length : Int))).toNat ((0 : Int) : Int)) trivial)).to (by kernel_rfl)) ?_ ?_
 ·clear hr
  rintro m ⟨out_4, x_5⟩ hr
  show CQ _ _ _ _ _ ⟨_, _⟩
  refine .seq <| .r3 fine 69 [(1, sU32 b), (5, .hs 0 0 out_4.length 1), (18, sU32 a), (19, aI64 (a.length : Int)), (20, aI64 x_5), (21, aB (decide (x_5 < (a.length : Int))))] <| .seq ?_
  refine .cd hr (fun hb26 hr => ?_) (fun hb26 hr => ?_)
  ·refine .skip <| .seq <| .block <| .seq ?_
   obtain ⟨hg27, hr⟩ := gd hr
   refine .r0 fine <| .mu 1 <| .p0 (v := .pp (a.flatMap (iC .u32)) (x_5.toNat * 1)) (Eq.trans (b := ORes.ofP (guardV (inR x_5 a.length) (.pp (a.flatMap (iC .u32)) (x_5.toNat * 1)))) (by kernel_rfl) (ofP_guard hg27)) <| .p0 (v := aU32 (gt a x_5)) (Eq.trans (b := ORes.ofP ((a.flatMap (iC .u32))[x_5.toNat * 1]?)) (by kernel_rfl) (ofP_some (flat_get (iC_len _) (inR_lt hg27) (by decide : 0 < 1) (by omega : x_5.toNat * 1 = x_5.toNat * 1 + 0) (by kernel_rfl)))) <| .mu 2 <| .done <| .n2 69 [(1, sU32 b), (5, .hs 0 0 out_4.length 1), (6, aI64 x_5), (7, aU32 (gt a x_5)), (18, sU32 a), (19, aI64 (a.length : Int)), (20, aI64 x_5)] [.own (out_4.flatMap (iC .u32))] <| .seq <| .r3 fine 69 [(1, sU32 b), (5, .hs 0 0 out_4.length 1), (6, aI64 x_5), (7, aU32 (gt a x_5)), (8, aU64 0), (18, sU32 a), (19, aI64 (a.length : Int)), (20, aI64 x_5)] <| .seq <| .seq <| .r3 fine 69 [(1, sU32 b), (5, .hs 0 0 out_4.length 1), (6, aI64 x_5), (7, aU32 (gt a x_5)), (8, aU64 0), (18, sU32 a), (19, aI64 (a.length : Int)), (20, aI64 x_5), (25, sU32 b), (26, aI64 (b.length : Int)), (27, aI64 0)] <| .block ?_
   replace hr := bd hr; obtain ⟨o40, hL41, hr⟩ := hr
   refine .loopO (σ := fun z0 => match z0 with | (out_28, carry_29, x_30) => ⟨mkS 69 0 [(1, sU32 b), (5, .hs 0 0 out_28.length 1), (6, aI64 x_5), (7, aU32 (gt a x_5)), (8, aU64 carry_29), (18, sU32 a), (19, aI64 (a.length : Int)), (20, aI64 x_5), (25, sU32 b), (26, aI64 (b.length : Int)), (27, aI64 x_30)], [.own (out_28.flatMap (iC .u32))]⟩) (Q := fun x st' => match (generalizing := false) o40 with | (out_34, carry_35) => x = .exit 2 ∧ Wk 0 st' ⟨mkS 69 0 [(1, sU32 b), (5, .hs 0 0 out_34.length 1), (6, aI64 x_5), (8, aU64 carry_35), (18, sU32 a), (19, aI64 (a.length : Int)), (20, aI64 x_5)], [.own (out_34.flatMap (iC .u32))]⟩) hL41 ((Wk.gc [1, 5, 6, 7, 8, 18, 19, 20, 25, 26, 27] [(0, false)] rfl (pKo (iC .u32) (iC_pure _) out_4 trivial)).to (by kernel_rfl)) ?_ ?_
   ·clear hr
    rintro m ⟨out_28, carry_29, x_30⟩ hr
    show CQ _ _ _ _ _ ⟨_, _⟩
    refine .seq <| .r3 fine 69 [(1, sU32 b), (5, .hs 0 0 out_28.length 1), (6, aI64 x_5), (7, aU32 (gt a x_5)), (8, aU64 carry_29), (18, sU32 a), (19, aI64 (a.length : Int)), (20, aI64 x_5), (25, sU32 b), (26, aI64 (b.length : Int)), (27, aI64 x_30), (28, aB (decide (x_30 < (b.length : Int))))] <| .seq ?_
    refine .cd hr (fun hb37 hr => ?_) (fun hb37 hr => ?_)
    ·refine .skip <| .seq <| .block <| .seq ?_
     obtain ⟨hg38, hr⟩ := gd hr
     refine .r0 fine <| .mu 1 <| .p0 (v := .pp (b.flatMap (iC .u32)) (x_30.toNat * 1)) (Eq.trans (b := ORes.ofP (guardV (inR x_30 b.length) (.pp (b.flatMap (iC .u32)) (x_30.toNat * 1)))) (by kernel_rfl) (ofP_guard hg38)) <| .p0 (v := aU32 (gt b x_30)) (Eq.trans (b := ORes.ofP ((b.flatMap (iC .u32))[x_30.toNat * 1]?)) (by kernel_rfl) (ofP_some (flat_get (iC_len _) (inR_lt hg38) (by decide : 0 < 1) (by omega : x_30.toNat * 1 = x_30.toNat * 1 + 0) (by kernel_rfl)))) <| .mu 2 <| .done <| .n2 69 [(1, sU32 b), (5, .hs 0 0 out_28.length 1), (6, aI64 x_5), (7, aU32 (gt a x_5)), (8, aU64 carry_29), (9, aI64 x_30), (10, aU32 (gt b x_30)), (18, sU32 a), (19, aI64 (a.length : Int)), (20, aI64 x_5), (25, sU32 b), (26, aI64 (b.length : Int)), (27, aI64 x_30)] [.own (out_28.flatMap (iC .u32))] <| .seq ?_
     obtain ⟨hg39, hr⟩ := gd hr
     refine .r0 fine <| .mu 4 <| .p0 (v := .hp 0 (0 + (wrapF .i64 (x_5 + x_30)).toNat * 1)) (Eq.trans (b := ORes.ofP (guardV (inR (wrapF .i64 (x_5 + x_30)) out_28.length) (.hp 0 (0 + (wrapF .i64 (x_5 + x_30)).toNat * 1)))) (by kernel_rfl) (ofP_guard hg39)) <| .p0 (v := aU32 (gt out_28 (wrapF .i64 (x_5 + x_30)))) (Eq.trans (b := ORes.ofP ((out_28.flatMap (iC .u32))[0 + (wrapF .i64 (x_5 + x_30)).toNat * 1]?)) (by kernel_rfl) (ofP_some (flat_get (iC_len _) (inR_lt hg39) (by decide : 0 < 1) (by omega : 0 + (wrapF .i64 (x_5 + x_30)).toNat * 1 = (wrapF .i64 (x_5 + x_30)).toNat * 1 + 0) (by kernel_rfl)))) <| .mu 10 <| .done <| .n2 69 [(1, sU32 b), (5, .hs 0 0 out_28.length 1), (6, aI64 x_5), (7, aU32 (gt a x_5)), (9, aI64 x_30), (11, aU64 (wrapF .u64 ((wrapF .u64 ((wrapF .u64 (gt out_28 (wrapF .i64 (x_5 + x_30)))) + (wrapF .u64 ((wrapF .u64 (gt a x_5)) * (wrapF .u64 (gt b x_30)))))) + carry_29))), (18, sU32 a), (19, aI64 (a.length : Int)), (20, aI64 x_5), (25, sU32 b), (26, aI64 (b.length : Int)), (27, aI64 x_30)] [.own (out_28.flatMap (iC .u32))] <| .r0 fine <| .mu 9 <| .p0 (v := .hp 0 (0 + (wrapF .i64 (x_5 + x_30)).toNat * 1)) (Eq.trans (b := ORes.ofP (guardV (inR (wrapF .i64 (x_5 + x_30)) out_28.length) (.hp 0 (0 + (wrapF .i64 (x_5 + x_30)).toNat * 1)))) (by kernel_rfl) (ofP_guard hg39)) <| .e0 (v := .unk) (ws := [(0, .own ((out_28.set (wrapF .i64 (x_5 + x_30)).toNat (wrapF .u32 ((wrapF .u64 ((wrapF .u64 ((wrapF .u64 (gt out_28 (wrapF .i64 (x_5 + x_30)))) + (wrapF .u64 ((wrapF .u64 (gt a x_5)) * (wrapF .u64 (gt b x_30)))))) + carry_29)).tmod 1000000000))).flatMap (iC .u32)))]) (Eq.trans (b := stO (decide ((0 + (wrapF .i64 (x_5 + x_30)).toNat * 1) + 1 ≤ (out_28.flatMap (iC .u32)).length) && true) [(0, .own (setCells (out_28.flatMap (iC .u32)) (0 + (wrapF .i64 (x_5 + x_30)).toNat * 1) [aU32 (wrapF .u32 ((wrapF .u64 ((wrapF .u64 ((wrapF .u64 (gt out_28 (wrapF .i64 (x_5 + x_30)))) + (wrapF .u64 ((wrapF .u64 (gt a x_5)) * (wrapF .u64 (gt b x_30)))))) + carry_29)).tmod 1000000000))]))]) (by kernel_rfl) (stO_t (and_t (flat_fits (iC_len _) (inR_lt hg39) (Nat.le_of_ble_eq_true rfl) (by omega : 0 + (wrapF .i64 (x_5 + x_30)).toNat * 1 = (wrapF .i64 (x_5 + x_30)).toNat * 1 + 0))) (congrArg Blk.own (flat_set (iC_len _) (inR_lt hg39) (Nat.le_of_ble_eq_true rfl) (by omega : 0 + (wrapF .i64 (x_5 + x_30)).toNat * 1 = (wrapF .i64 (x_5 + x_30)).toNat * 1 + 0) (by kernel_rfl))))) <| .mu 1 <| .done <| .pop <| .ru fine ?_
     exact loopF_back (out_28.set (wrapF .i64 (x_5 + x_30)).toNat (wrapF .u32 ((wrapF .u64 ((wrapF .u64 ((wrapF .u64 (gt out_28 (wrapF .i64 (x_5 + x_30)))) + (wrapF .u64 ((wrapF .u64 (gt a x_5)) * (wrapF .u64 (gt b x_30)))))) + carry_29)).tmod 1000000000)), wrapF .u64 ((wrapF .u64 ((wrapF .u64 ((wrapF .u64 (gt out_28 (wrapF .i64 (x_5 + x_30)))) + (wrapF .u64 ((wrapF .u64 (gt a x_5)) * (wrapF .u64 (gt b x_30)))))) + carry_29)).tdiv 1000000000), wrapF .i64 (x_30 + 1)) hr ((Wk.relen 5 (b := 0) (es := 1) (len := out_28.length) (out_28.set (wrapF .i64 (x_5 + x_30)).toNat (wrapF .u32 ((wrapF .u64 ((wrapF .u64 ((wrapF .u64 (gt out_28 (wrapF .i64 (x_5 + x_30)))) + (wrapF .u64 ((wrapF .u64 (gt a x_5)) * (wrapF .u64 (gt b x_30)))))) + carry_29)).tmod 1000000000))).length (by kernel_rfl) (Eq.symm (List.length_set.trans rfl))).trans ((Wk.gc [1, 5, 6, 7, 8, 18, 19, 20, 25, 26, 27] [(0, false)] rfl (pKo (iC .u32) (iC_pure _) (out_28.set (wrapF .i64 (x_5 + x_30)).toNat (wrapF .u32 ((wrapF .u64 ((wrapF .u64 ((wrapF .u64 (gt out_28 (wrapF .i64 (x_5 + x_30)))) + (wrapF .u64 ((wrapF .u64 (gt a x_5)) * (wrapF .u64 (gt b x_30)))))) + carry_29)).tmod 1000000000))) trivial)).to (by kernel_rfl)))
    ·refine .leave rfl ?_
     obtain rfl := Option.some.inj hr
     exact ⟨rfl, ((Wk.gc [1, 5, 6, 8, 18, 19, 20] [(0, false)] rfl (pKo (iC .u32) (iC_pure _) out_28 trivial)).to (by kernel_rfl))⟩
   ·rcases o40 with ⟨out_34, carry_35⟩
    rintro x st' hq42
    clear hL41
    obtain ⟨rfl, hq42⟩ := hq42
    refine CQ_exit _ rfl <| .wk hq42 ?_
    obtain ⟨hg43, hr⟩ := gd hr
    refine .r0 fine <| .mu 7 <| .p0 (v := .hp 0 (0 + (wrapF .i64 (x_5 + (b.length : Int))).toNat * 1)) (Eq.trans (b := ORes.ofP (guardV (inR (wrapF .i64 (x_5 + (b.length : Int))) out_34.length) (.hp 0 (0 + (wrapF .i64 (x_5 + (b.length : Int))).toNat * 1)))) (by kernel_rfl) (ofP_guard hg43)) <| .e0 (v := .unk) (ws := [(0, .own ((out_34.set (wrapF .i64 (x_5 + (b.length : Int))).toNat (wrapF .u32 carry_35)).flatMap (iC .u32)))]) (Eq.trans (b := stO (decide ((0 + (wrapF .i64 (x_5 + (b.length : Int))).toNat * 1) + 1 ≤ (out_34.flatMap (iC .u32)).length) && true) [(0, .own (setCells (out_34.flatMap (iC .u32)) (0 + (wrapF .i64 (x_5 + (b.length : Int))).toNat * 1) [aU32 (wrapF .u32 carry_35)]))]) (by kernel_rfl) (stO_t (and_t (flat_fits (iC_len _) (inR_lt hg43) (Nat.le_of_ble_eq_true rfl) (by omega : 0 + (wrapF .i64 (x_5 + (b.length : Int))).toNat * 1 = (wrapF .i64 (x_5 + (b.length : Int))).toNat * 1 + 0))) (congrArg Blk.own (flat_set (iC_len _) (inR_lt hg43) (Nat.le_of_ble_eq_true rfl) (by omega : 0 + (wrapF .i64 (x_5 + (b.length : Int))).toNat * 1 = (wrapF .i64 (x_5 + (b.length : Int))).toNat * 1 + 0) (by kernel_rfl))))) <| .done <| .pop <| .ru fine ?_
    exact loopF_back (out_34.set (wrapF .i64 (x_5 + (b.length : Int))).toNat (wrapF .u32 carry_35), wrapF .i64 (x_5 + 1)) hr ((Wk.relen 5 (b := 0) (es := 1) (len := out_34.length) (out_34.set (wrapF .i64 (x_5 + (b.length : Int))).toNat (wrapF .u32 carry_35)).length (by kernel_rfl) (Eq.symm (List.length_set.trans rfl))).trans ((Wk.gc [1, 5, 18, 19, 20] [(0, false)] rfl (pKo (iC .u32) (iC_pure _) (out_34.set (wrapF .i64 (x_5 + (b.length : Int))).toNat (wrapF .u32 carry_35)) trivial)).to (by kernel_rfl)))
  ·refine .leave rfl ?_
   obtain rfl := Option.some.inj hr
   exact ⟨rfl, ((Wk.gc [5] [(0, false)] rfl (pKo (iC .u32) (iC_pure _) out_4 trivial)).to (by kernel_rfl))⟩
 ·rintro x st' hq46
  clear hL45
  obtain ⟨rfl, hq46⟩ := hq46
  refine CQ_exit _ rfl <| .wk hq46 <| .seq ?_
  obtain ⟨v47, hc48, hr⟩ := bd hr
  refine .g1 fine (callOk_ref (args := [.hs 0 0 out_24.length 1]) (l := [0]) (SnL.cons (Sn.hs rfl (.inl rfl) (SnC.pure (ids_flat (iC_pure _) _)) (fun h => flat_nil0 h)) SnL.nil) (integer_trim_ok n out_24 v47 hc48)) <| .mu 1 <| .ca cf0 <| .mu 1 <| .done <| .ret ?_
  obtain rfl := Option.some.inj hr
  exact FinQ.r1 [sU32 v47]

theorem integer_trim_w_ok (n : Nat) (g : List Int) (r : List Int) (hr : integer_trim_w n g = some r) : FnMut 1 Tryz.prog 197 [.hs 0 0 g.length 1] [.own (g.flatMap (iC .u32))] (.hs 0 0 r.length 1) [.own (r.flatMap (iC .u32))] := by
 unfold integer_trim_w at hr
 refine FnMut.bodyW fine Tryz.func197 (c := (Tryz.f197.body).getD .skip) rfl (us := [.hs 0 0 r.length 1]) (s := mkS 21 0 [(0, .hs 0 0 g.length 1)]) (by kernel_rfl) (rs := [.tmp 2]) rfl ?_
 unfold Tryz.f197
 simp only [Option.getD_some]
 refine .seq <| .r3 fine 21 [(0, .hs 0 0 g.length 1)] <| .seq <| .block ?_
 replace hr := bd hr; obtain ⟨g_21, hL28, hr⟩ := hr
 refine .loopO (σ := fun z0 => match z0 with | g_16 => ⟨mkS 21 0 [(0, .hs 0 0 g_16.length 1)], [.own (g_16.flatMap (iC .u32))]⟩) (Q := fun x st' => x = .exit 0 ∧ Wk 1 st' ⟨mkS 21 0 [(0, .hs 0 0 g_21.length 1)], [.own (g_21.flatMap (iC .u32))]⟩) hL28 ((Wk.gc [0] [(0, false)] rfl (pKo (iC .u32) (iC_pure _) g trivial)).to (by kernel_rfl)) ?_ ?_
 ·clear hr
  rintro m g_16 hr
  show CQ _ _ _ _ _ ⟨_, _⟩
  refine .seq <| .seq ?_
  rcases Bool.eq_false_or_eq_true (decide ((g_16.length : Int) > 0)) with hb23 | hb23
  ·replace hr := cd_t hb23 hr
   obtain ⟨hg24, hr⟩ := gd hr
   refine .r0 fine <| .mu 2 <| .p0 (v := aB true) (Eq.trans (b := some (.pure (aB (decide ((g_16.length : Int) > 0))))) (by kernel_rfl) (by rw [hb23])) <| .mu 5 <| .pure (v := .hp 0 (0 + (wrapF .i64 ((g_16.length : Int) - 1)).toNat * 1)) (by kernel_rfl) (Eq.trans (b := ORes.ofP (guardV (inR (wrapF .i64 ((g_16.length : Int) - 1)) g_16.length) (.hp 0 (0 + (wrapF .i64 ((g_16.length : Int) - 1)).toNat * 1)))) (by kernel_rfl) (ofP_guard hg24)) <| .pure (v := aU32 (gt g_16 (wrapF .i64 ((g_16.length : Int) - 1)))) (by kernel_rfl) (Eq.trans (b := ORes.ofP ((g_16.flatMap (iC .u32))[0 + (wrapF .i64 ((g_16.length : Int) - 1)).toNat * 1]?)) (by kernel_rfl) (ofP_some (flat_get (iC_len _) (inR_lt hg24) (by decide : 0 < 1) (by omega : 0 + (wrapF .i64 ((g_16.length : Int) - 1)).toNat * 1 = (wrapF .i64 ((g_16.length : Int) - 1)).toNat * 1 + 0) (by kernel_rfl)))) <| .mu 2 <| .done <| .n2 21 [(0, .hs 0 0 g_16.length 1), (14, aB (((gt g_16 (wrapF .i64 ((g_16.length : Int) - 1))) : Int) == 0))] [.own (g_16.flatMap (iC .u32))] ?_
   refine .cd hr (fun hb25 hr => ?_) (fun hb25 hr => ?_)
   ·refine .skip <| .block ?_
    obtain ⟨hg26, hr⟩ := gd hr
    refine .r0 fine <| .mu 4 <| .p0 (v := .hs 0 0 (wrapF .i64 ((g_16.length : Int) - 1)).toNat 1) (Eq.trans (b := slH (inS 0 (wrapF .i64 ((g_16.length : Int) - 1)) g_16.length) true ((0 : Int).toNat) ((wrapF .i64 ((g_16.length : Int) - 1)).toNat) (fun z1 z2 => .hs 0 (0 + z1 * 1) (z2 - z1) 1)) (by kernel_rfl) (slH_t hg26 (by kernel_rfl))) <| .mu 1 <| .done <| .pop ?_
    exact loopF_back (g_16.take (wrapF .i64 ((g_16.length : Int) - 1)).toNat) hr ((Wk.cutS (c := (iC .u32)) (es := 1) 0 0 (iC_len _) g_16 (wrapF .i64 ((g_16.length : Int) - 1)).toNat (inS_le hg26) (by kernel_rfl) (by kernel_rfl)).trans ((Wk.gc [0] [(0, false)] rfl (pKo (iC .u32) (iC_pure _) (g_16.take (wrapF .i64 ((g_16.length : Int) - 1)).toNat) trivial)).to (by kernel_rfl)))
   ·refine .leave rfl ?_
    obtain rfl := Option.some.inj hr
    exact ⟨rfl, ((Wk.gc [0] [(0, false)] rfl (pKo (iC .u32) (iC_pure _) g_16 trivial)).to (by kernel_rfl))⟩
  ·replace hr := cd_f hb23 hr
   refine .r0 fine <| .mu 2 <| .p0 (v := aB false) (Eq.trans (b := some (.pure (aB (decide ((g_16.length : Int) > 0))))) (by kernel_rfl) (by rw [hb23])) <| .mu 9 <| .done <| .n2 21 [(0, .hs 0 0 g_16.length 1), (14, aB false)] [.own (g_16.flatMap (iC .u32))] <| .cF (by kernel_rfl) <| .leave rfl ?_
   obtain rfl := Option.some.inj hr
   exact ⟨rfl, ((Wk.gc [0] [(0, false)] rfl (pKo (iC .u32) (iC_pure _) g_16 trivial)).to (by kernel_rfl))⟩
 ·rintro x st' hq29
  clear hL28
  obtain ⟨rfl, hq29⟩ := hq29
  refine CQ_exit _ rfl <| .wk hq29 <| .seq <| .r3 fine 21 [(2, .hs 0 0 g_21.length 1)] <| .ret ?_
  obtain rfl := Option.some.inj hr
  exact FinMW.ret [.hs 0 0 g_21.length 1] ((Wk.gc [0] [(0, false)] rfl (pKo (iC .u32) (iC_pure _) g_21 trivial)).to (by kernel_rfl))

theorem integer_times_w_ok (n : Nat) (a : List Int) (b : List Int) (r : List Int) (hr : integer_times_w n a b = some r) : FnMut 1 Tryz.prog 148 [sU32 a, .hs 0 0 b.length 1] [.own (b.flatMap (iC .u32))] (.hs 1 0 r.length 1) [.own (b.flatMap (iC .u32)), .own (r.flatMap (iC .u32))] := by
 unfold integer_times_w at hr
 refine FnMut.bodyW fine Tryz.func148 (c := (Tryz.f148.body).getD .skip) rfl (us := [.hs 1 0 r.length 1]) (s := mkS 69 0 [(0, sU32 a), (1, .hs 0 0 b.length 1)]) (by kernel_rfl) (rs := [.tmp 4]) rfl ?_
 unfold Tryz.f148
 simp only [Option.getD_some]
 refine .seq <| .r3 fine 69 [(0, sU32 a), (1, .hs 0 0 b.length 1)] <| .seq ?_
 obtain ⟨hg50, hg51, hg52, hr⟩ := gd3 hr
 refine .r0 fine <| .mu 5 <| .e0 (v := .hs 1 0 (List.replicate (wrapF .i64 ((a.length : Int) + (b.length : Int))).toNat ((0 : Int) : Int)).length 1) (ws := [(1, .own ((List.replicate (wrapF .i64 ((a.length : Int) + (b.length : Int))).toNat ((0 : Int) : Int)).flatMap (iC .u32)))]) (Eq.trans (b := guardO (decide (0 ≤ (wrapF .i64 ((a.length : Int) + (b.length : Int)))) && decide ((wrapF .i64 ((a.length : Int) + (b.length : Int))) ≤ (wrapF .i64 ((a.length : Int) + (b.length : Int)))) && decide ((4 : Int) * (wrapF .i64 ((a.length : Int) + (b.length : Int))) ≤ 281474976710656) && decide ((wrapF .i64 ((a.length : Int) + (b.length : Int))) ≤ 9223372036854775807) && true && true && true) (some (.eff (.hs 1 0 (wrapF .i64 ((a.length : Int) + (b.length : Int))).toNat 1) [(1, .own (zerosA [aU32 0] (wrapF .i64 ((a.length : Int) + (b.length : Int))).toNat))]))) (by kernel_rfl) (make_own (c := (iC .u32)) (z := (0 : Int)) (n := wrapF .i64 ((a.length : Int) + (b.length : Int))) (by_ := 4) rfl hg50 hg51 hg52)) <| .mu 1 <| .done <| .n2 69 [(0, sU32 a), (1, .hs 0 0 b.length 1), (5, .hs 1 0 (List.replicate (wrapF .i64 ((a.length : Int) + (b.length : Int))).toNat ((0 : Int) : Int)).length 1)] [.own (b.flatMap (iC .u32)), .own ((List.replicate (wrapF .i64 ((a.length : Int) + (b.length : Int))).toNat ((0 : Int) : Int)).flatMap (iC .u32))] <| .seq <| .seq <| .r3 fine 69 [(1, .hs 0 0 b.length 1), (5, .hs 1 0 (List.replicate (wrapF .i64 ((a.length : Int) + (b.length : Int))).toNat ((0 : Int) : Int)).length 1), (18, sU32 a), (19, aI64 (a.length : Int)), (20, aI64 0)] <| .block ?_
 replace hr := bd hr; obtain ⟨out_73, hL94, hr⟩ := hr
 refine .loopO (σ := fun z0 => match z0 with | (out_53, x_54) => ⟨mkS 69 0 [(1, .hs 0 0 b.length 1), (5, .hs 1 0 out_53.length 1), (18, sU32 a), (19, aI64 (a.length : Int)), (20, aI64 x_54)], [.own (b.flatMap (iC .u32)), .own (out_53.flatMap (iC .u32))]⟩) (Q := fun x st' => x = .exit 0 ∧ Wk 1 st' ⟨mkS 69 0 [(5, .hs 1 0 out_73.length 1)], [.own (b.flatMap (iC .u32)), .own (out_73.flatMap (iC .u32))]⟩) hL94 ((Wk.gc [1, 5, 18, 19, 20] [(0, false), (1, false)] rfl (pKo (iC .u32) (iC_pure _) b (pKo (iC .u32) (iC_pure _) (List.replicate (wrapF .i64 ((a.length : Int) + (b.length : Int))).toNat ((0 : Int) : Int)) trivial))).to (by kernel_rfl)) ?_ ?_
 ·clear hr
  rintro m ⟨out_53, x_54⟩ hr
  show CQ _ _ _ _ _ ⟨_, _⟩
  refine .seq <| .r3 fine 69 [(1, .hs 0 0 b.length 1), (5, .hs 1 0 out_53.length 1), (18, sU32 a), (19, aI64 (a.length : Int)), (20, aI64 x_54), (21, aB (decide (x_54 < (a.length : Int))))] <| .seq ?_
  refine .cd hr (fun hb75 hr => ?_) (fun hb75 hr => ?_)
  ·refine .skip <| .seq <| .block <| .seq ?_
   obtain ⟨hg76, hr⟩ := gd hr
   refine .r0 fine <| .mu 1 <| .p0 (v := .pp (a.flatMap (iC .u32)) (x_54.toNat * 1)) (Eq.trans (b := ORes.ofP (guardV (inR x_54 a.length) (.pp (a.flatMap (iC .u32)) (x_54.toNat * 1)))) (by kernel_rfl) (ofP_guard hg76)) <| .p0 (v := aU32 (gt a x_54)) (Eq.trans (b := ORes.ofP ((a.flatMap (iC .u32))[x_54.toNat * 1]?)) (by kernel_rfl) (ofP_some (flat_get (iC_len _) (inR_lt hg76) (by decide : 0 < 1) (by omega : x_54.toNat * 1 = x_54.toNat * 1 + 0) (by kernel_rfl)))) <| .mu 2 <| .done <| .n2 69 [(1, .hs 0 0 b.length 1), (5, .hs 1 0 out_53.length 1), (6, aI64 x_54), (7, aU32 (gt a x_54)), (18, sU32 a), (19, aI64 (a.length : Int)), (20, aI64 x_54)] [.own (b.flatMap (iC .u32)), .own (out_53.flatMap (iC .u32))] <| .seq <| .r3 fine 69 [(1, .hs 0 0 b.length 1), (5, .hs 1 0 out_53.length 1), (6, aI64 x_54), (7, aU32 (gt a x_54)), (8, aU64 0), (18, sU32 a), (19, aI64 (a.length : Int)), (20, aI64 x_54)] <| .seq <| .seq <| .r3 fine 69 [(1, .hs 0 0 b.length 1), (5, .hs 1 0 out_53.length 1), (6, aI64 x_54), (7, aU32 (gt a x_54)), (8, aU64 0), (18, sU32 a), (19, aI64 (a.length : Int)), (20, aI64 x_54), (25, .hs 0 0 b.length 1), (26, aI64 (b.length : Int)), (27, aI64 0)] <| .block ?_
   replace hr := bd hr; obtain ⟨o89, hL90, hr⟩ := hr
   refine .loopO (σ := fun z0 => match z0 with | (out_77, carry_78, x_79) => ⟨mkS 69 0 [(1, .hs 0 0 b.length 1), (5, .hs 1 0 out_77.length 1), (6, aI64 x_54), (7, aU32 (gt a x_54)), (8, aU64 carry_78), (18, sU32 a), (19, aI64 (a.length : Int)), (20, aI64 x_54), (25, .hs 0 0 b.length 1), (26, aI64 (b.length : Int)), (27, aI64 x_79)], [.own (b.flatMap (iC .u32)), .own (out_77.flatMap (iC .u32))]⟩) (Q := fun x st' => match (generalizing := false) o89 with | (out_83, carry_84) => x = .exit 2 ∧ Wk 1 st' ⟨mkS 69 0 [(1, .hs 0 0 b.length 1), (5, .hs 1 0 out_83.length 1), (6, aI64 x_54), (8, aU64 carry_84), (18, sU32 a), (19, aI64 (a.length : Int)), (20, aI64 x_54)], [.own (b.flatMap (iC .u32)), .own (out_83.flatMap (iC .u32))]⟩) hL90 ((Wk.gc [1, 5, 6, 7, 8, 18, 19, 20, 25, 26, 27] [(0, false), (1, false)] rfl (pKo (iC .u32) (iC_pure _) b (pKo (iC .u32) (iC_pure _) out_53 trivial))).to (by kernel_rfl)) ?_ ?_
   ·clear hr
    rintro m ⟨out_77, carry_78, x_79⟩ hr
    show CQ _ _ _ _ _ ⟨_, _⟩
    refine .seq <| .r3 fine 69 [(1, .hs 0 0 b.length 1), (5, .hs 1 0 out_77.length 1), (6, aI64 x_54), (7, aU32 (gt a x_54)), (8, aU64 carry_78), (18, sU32 a), (19, aI64 (a.length : Int)), (20, aI64 x_54), (25, .hs 0 0 b.length 1), (26, aI64 (b.length : Int)), (27, aI64 x_79), (28, aB (decide (x_79 < (b.length : Int))))] <| .seq ?_
    refine .cd hr (fun hb86 hr => ?_) (fun hb86 hr => ?_)
    ·refine .skip <| .seq <| .block <| .seq ?_
     obtain ⟨hg87, hr⟩ := gd hr
     refine .r0 fine <| .mu 1 <| .p0 (v := .hp 0 (0 + x_79.toNat * 1)) (Eq.trans (b := ORes.ofP (guardV (inR x_79 b.length) (.hp 0 (0 + x_79.toNat * 1)))) (by kernel_rfl) (ofP_guard hg87)) <| .p0 (v := aU32 (gt b x_79)) (Eq.trans (b := ORes.ofP ((b.flatMap (iC .u32))[0 + x_79.toNat * 1]?)) (by kernel_rfl) (ofP_some (flat_get (iC_len _) (inR_lt hg87) (by decide : 0 < 1) (by omega : 0 + x_79.toNat * 1 = x_79.toNat * 1 + 0) (by kernel_rfl)))) <| .mu 2 <| .done <| .n2 69 [(1, .hs 0 0 b.length 1), (5, .hs 1 0 out_77.length 1), (6, aI64 x_54), (7, aU32 (gt a x_54)), (8, aU64 carry_78), (9, aI64 x_79), (10, aU32 (gt b x_79)), (18, sU32 a), (19, aI64 (a.length : Int)), (20, aI64 x_54), (25, .hs 0 0 b.length 1), (26, aI64 (b.length : Int)), (27, aI64 x_79)] [.own (b.flatMap (iC .u32)), .own (out_77.flatMap (iC .u32))] <| .seq ?_
     obtain ⟨hg88, hr⟩ := gd hr
     refine .r0 fine <| .mu 4 <| .p0 (v := .hp 1 (0 + (wrapF .i64 (x_54 + x_79)).toNat * 1)) (Eq.trans (b := ORes.ofP (guardV (inR (wrapF .i64 (x_54 + x_79)) out_77.length) (.hp 1 (0 + (wrapF .i64 (x_54 + x_79)).toNat * 1)))) (by kernel_rfl) (ofP_guard hg88)) <| .p0 (v := aU32 (gt out_77 (wrapF .i64 (x_54 + x_79)))) (Eq.trans (b := ORes.ofP ((out_77.flatMap (iC .u32))[0 + (wrapF .i64 (x_54 + x_79)).toNat * 1]?)) (by kernel_rfl) (ofP_some (flat_get (iC_len _) (inR_lt hg88) (by decide : 0 < 1) (by omega : 0 + (wrapF .i64 (x_54 + x_79)).toNat * 1 = (wrapF .i64 (x_54 + x_79)).toNat * 1 + 0) (by kernel_rfl)))) <| .mu 10 <| .done <| .n2 69 [(1, .hs 0 0 b.length 1), (5, .hs 1 0 out_77.length 1), (6, aI64 x_54), (7, aU32 (gt a x_54)), (9, aI64 x_79), (11, aU64 (wrapF .u64 ((wrapF .u64 ((wrapF .u64 (gt out_77 (wrapF .i64 (x_54 + x_79)))) + (wrapF .u64 ((wrapF .u64 (gt a x_54)) * (wrapF .u64 (gt b x_79)))))) + carry_78))), (18, sU32 a), (19, aI64 (a.length : Int)), (20, aI64 x_54), (25, .hs 0 0 b.length 1), (26, aI64 (b.length : Int)), (27, aI64 x_79)] [.own (b.flatMap (iC .u32)), .own (out_77.flatMap (iC .u32))] <| .r0 fine <| .mu 9 <| .p0 (v := .hp 1 (0 + (wrapF .i64 (x_54 + x_79)).toNat * 1)) (Eq.trans (b := ORes.ofP (guardV (inR (wrapF .i64 (x_54 + x_79)) out_77.length) (.hp 1 (0 + (wrapF .i64 (x_54 + x_79)).toNat * 1)))) (by kernel_rfl) (ofP_guard hg88)) <| .e0 (v := .unk) (ws := [(1, .own ((out_77.set (wrapF .i64 (x_54 + x_79)).toNat (wrapF .u32 ((wrapF .u64 ((wrapF .u64 ((wrapF .u64 (gt out_77 (wrapF .i64 (x_54 + x_79)))) + (wrapF .u64 ((wrapF .u64 (gt a x_54)) * (wrapF .u64 (gt b x_79)))))) + carry_78)).tmod 1000000000))).flatMap (iC .u32)))]) (Eq.trans (b := stO (decide ((0 + (wrapF .i64 (x_54 + x_79)).toNat * 1) + 1 ≤ (out_77.flatMap (iC .u32)).length) && true) [(1, .own (setCells (out_77.flatMap (iC .u32)) (0 + (wrapF .i64 (x_54 + x_79)).toNat * 1) [aU32 (wrapF .u32 ((wrapF .u64 ((wrapF .u64 ((wrapF .u64 (gt out_77 (wrapF .i64 (x_54 + x_79)))) + (wrapF .u64 ((wrapF .u64 (gt a x_54)) * (wrapF .u64 (gt b x_79)))))) + carry_78)).tmod 1000000000))]))]) (by kernel_rfl) (stO_t (and_t (flat_fits (iC_len _) (inR_lt hg88) (Nat.le_of_ble_eq_true rfl) (by omega : 0 + (wrapF .i64 (x_54 + x_79)).toNat * 1 = (wrapF .i64 (x_54 + x_79)).toNat * 1 + 0))) (congrArg Blk.own (flat_set (iC_len _) (inR_lt hg88) (Nat.le_of_ble_eq_true rfl) (by omega : 0 + (wrapF .i64 (x_54 + x_79)).toNat * 1 = (wrapF .i64 (x_54 + x_79)).toNat * 1 + 0) (by kernel_rfl))))) <| .mu 1 <| .done <| .pop <| .ru fine ?_
     exact loopF_back (out_77.set (wrapF .i64 (x_54 + x_79)).toNat (wrapF .u32 ((wrapF .u64 ((wrapF .u64 ((wrapF .u64 (gt out_77 (wrapF .i64 (x_54 + x_79)))) + (wrapF .u64 ((wrapF .u64 (gt a x_54)) * (wrapF .u64 (gt b x_79)))))) + carry_78)).tmod 1000000000)), wrapF .u64 ((wrapF .u64 ((wrapF .u64 ((wrapF .u64 (gt out_77 (wrapF .i64 (x_54 + x_79)))) + (wrapF .u64 ((wrapF .u64 (gt a x_54)) * (wrapF .u64 (gt b x_79)))))) + carry_78)).tdiv 1000000000), wrapF .i64 (x_79 + 1)) hr ((Wk.relen 5 (b := 1) (es := 1) (len := out_77.length) (out_77.set (wrapF .i64 (x_54 + x_79)).toNat (wrapF .u32 ((wrapF .u64 ((wrapF .u64 ((wrapF .u64 (gt out_77 (wrapF .i64 (x_54 + x_79)))) + (wrapF .u64 ((wrapF .u64 (gt a x_54)) * (wrapF .u64 (gt b x_79)))))) + carry_78)).tmod 1000000000))).length (by kernel_rfl) (Eq.symm (List.length_set.trans rfl))).trans ((Wk.gc [1, 5, 6, 7, 8, 18, 19, 20, 25, 26, 27] [(0, false), (1, false)] rfl (pKo (iC .u32) (iC_pure _) b (pKo (iC .u32) (iC_pure _) (out_77.set (wrapF .i64 (x_54 + x_79)).toNat (wrapF .u32 ((wrapF .u64 ((wrapF .u64 ((wrapF .u64 (gt out_77 (wrapF .i64 (x_54 + x_79)))) + (wrapF .u64 ((wrapF .u64 (gt a x_54)) * (wrapF .u64 (gt b x_79)))))) + carry_78)).tmod 1000000000))) trivial))).to (by kernel_rfl)))
    ·refine .leave rfl ?_
     obtain rfl := Option.some.inj hr
     exact ⟨rfl, ((Wk.gc [1, 5, 6, 8, 18, 19, 20] [(0, false), (1, false)] rfl (pKo (iC .u32) (iC_pure _) b (pKo (iC .u32) (iC_pure _) out_77 trivial))).to (by kernel_rfl))⟩
   ·rcases o89 with ⟨out_83, carry_84⟩
    rintro x st' hq91
    clear hL90
    obtain ⟨rfl, hq91⟩ := hq91
    refine CQ_exit _ rfl <| .wk hq91 ?_
    obtain ⟨hg92, hr⟩ := gd hr
    refine .r0 fine <| .mu 7 <| .p0 (v := .hp 1 (0 + (wrapF .i64 (x_54 + (b.length : Int))).toNat * 1)) (Eq.trans (b := ORes.ofP (guardV (inR (wrapF .i64 (x_54 + (b.length : Int))) out_83.length) (.hp 1 (0 + (wrapF .i64 (x_54 + (b.length : Int))).toNat * 1)))) (by kernel_rfl) (ofP_guard hg92)) <| .e0 (v := .unk) (ws := [(1, .own ((out_83.set (wrapF .i64 (x_54 + (b.length : Int))).toNat (wrapF .u32 carry_84)).flatMap (iC .u32)))]) (Eq.trans (b := stO (decide ((0 + (wrapF .i64 (x_54 + (b.length : Int))).toNat * 1) + 1 ≤ (out_83.flatMap (iC .u32)).length) && true) [(1, .own (setCells (out_83.flatMap (iC .u32)) (0 + (wrapF .i64 (x_54 + (b.length : Int))).toNat * 1) [aU32 (wrapF .u32 carry_84)]))]) (by kernel_rfl) (stO_t (and_t (flat_fits (iC_len _) (inR_lt hg92) (Nat.le_of_ble_eq_true rfl) (by omega : 0 + (wrapF .i64 (x_54 + (b.length : Int))).toNat * 1 = (wrapF .i64 (x_54 + (b.length : Int))).toNat * 1 + 0))) (congrArg Blk.own (flat_set (iC_len _) (inR_lt hg92) (Nat.le_of_ble_eq_true rfl) (by omega : 0 + (wrapF .i64 (x_54 + (b.length : Int))).toNat * 1 = (wrapF .i64 (x_54 + (b.length : Int))).toNat * 1 + 0) (by kernel_rfl))))) <| .done <| .pop <| .ru fine ?_
    exact loopF_back (out_83.set (wrapF .i64 (x_54 + (b.length : Int))).toNat (wrapF .u32 carry_84), wrapF .i64 (x_54 + 1)) hr ((Wk.relen 5 (b := 1) (es := 1) (len := out_83.length) (out_83.set (wrapF .i64 (x_54 + (b.length : Int))).toNat (wrapF .u32 carry_84)).length (by kernel_rfl) (Eq.symm (List.length_set.trans rfl))).trans ((Wk.gc [1, 5, 18, 19, 20] [(0, false), (1, false)] rfl (pKo (iC .u32) (iC_pure _) b (pKo (iC .u32) (iC_pure _) (out_83.set (wrapF .i64 (x_54 + (b.length : Int))).toNat (wrapF .u32 carry_84)) trivial))).to (by kernel_rfl)))
  ·refine .leave rfl ?_
   obtain rfl := Option.some.inj hr
   exact ⟨rfl, ((Wk.gc [5] [(0, false), (1, false)] rfl (pKo (iC .u32) (iC_pure _) b (pKo (iC .u32) (iC_pure _) out_53 trivial))).to (by kernel_rfl))⟩
 ·rintro x st' hq95
  clear hL94
  obtain ⟨rfl, hq95⟩ := hq95
  refine CQ_exit _ rfl <| .wk hq95 <| .seq ?_
  obtain ⟨v96, hc97, hr⟩ := bd hr
  refine .g1 fine (callOk_mutU (args := [.hs 1 0 out_73.length 1]) 1 0 [(1, false)] [false] (integer_trim_w_ok n out_73 v96 hc97) (by exact ⟨ids_flat (iC_pure _) _, trivial⟩) (by exact ⟨ids_flat (iC_pure _) _, trivial⟩) rfl rfl (by kernel_rfl) (by kernel_rfl)) <| .mu 1 <| .ca cf0 <| .mu 1 <| .done <| .n2 69 [(4, .hs 1 0 v96.length 1)] [.own (b.flatMap (iC .u32)), .own (v96.flatMap (iC .u32))] <| .ret ?_
  obtain rfl := Option.some.inj hr
  exact FinMW.ret [.hs 1 0 v96.length 1] ((Wk.gc [0] [(0, false), (1, false)] rfl (pKo (iC .u32) (iC_pure _) b (pKo (iC .u32) (iC_pure _) v96 trivial))).to (by kernel_rfl))

theorem integer_at_inj {g : List Int} {i : Int} {g_ : List Int} {i_ : Int} (h : ([slT (iC .u32) g, .at (.int .i64 i)] : List AV) = [slT (iC .u32) g_, .at (.int .i64 i_)]) : g = g_ ∧ i = i_ := by
 simp only [List.cons.injEq, AV.agg.injEq, AV.at.injEq, Value.int.injEq, Value.bool.injEq, AV.fn.injEq, AV.pp.injEq, true_and, and_true, slT_inj_int] at h
 simp_all
theorem integer_at_cg (n : Nat) {g : List Int} {i : Int} {g_ : List Int} {i_ : Int} (h : ([slT (iC .u32) g, .at (.int .i64 i)] : List AV) = [slT (iC .u32) g_, .at (.int .i64 i_)]) : integer_at n g i = integer_at n g_ i_ := by
 obtain ⟨rfl, rfl⟩ := integer_at_inj h
 rfl
theorem integer_at_ok (n : Nat) (g : List Int) (i : Int) (r : Int) (hr : integer_at n g i = some r) : FnOk Tryz.prog 210 [sU32 g, aI64 i] (aU32 r) := by
 unfold integer_at at hr
 refine FnOk.bd fine Tryz.func210 [.tmp 4] ?_
 unfold Tryz.f210
 simp only [Option.getD_some]
 refine .seq <| .r3 fine 13 [(0, sU32 g), (1, aI64 i)] <| .seq <| .seq <| .r3 fine 13 [(0, sU32 g), (1, aI64 i), (8, aB (decide (i < (g.length : Int))))] ?_
 refine .cd hr (fun hb1 hr => ?_) (fun hb1 hr => ?_)
 ·refine .seq ?_
  obtain ⟨hg2, hr⟩ := gd hr
  refine .r0 fine <| .mu 2 <| .p0 (v := .pp (g.flatMap (iC .u32)) (i.toNat * 1)) (Eq.trans (b := ORes.ofP (guardV (inR i g.length) (.pp (g.flatMap (iC .u32)) (i.toNat * 1)))) (by kernel_rfl) (ofP_guard hg2)) <| .p0 (v := aU32 (gt g i)) (Eq.trans (b := ORes.ofP ((g.flatMap (iC .u32))[i.toNat * 1]?)) (by kernel_rfl) (ofP_some (flat_get (iC_len _) (inR_lt hg2) (by decide : 0 < 1) (by omega : i.toNat * 1 = i.toNat * 1 + 0) (by kernel_rfl)))) <| .mu 1 <| .done <| .ret ?_
  obtain rfl := Option.some.inj hr
  exact FinQ.r1 [aU32 (gt g i)]
 ·refine .skip <| .seq <| .ru fine <| .ret ?_
  obtain rfl := Option.some.inj hr
  exact FinQ.r1 [aU32 0]

theorem integer_long_ok (n : Nat) (a : List Int) (b : List Int) (r : List Int × List Int) (hr : integer_long n a b = some r) : FnOk Tryz.prog 209 [sU32 a, sU32 b] (.tup [sU32 r.1, sU32 r.2]) := by
 unfold integer_long at hr
 refine FnOk.bd fine Tryz.func209 [.tmp 4, .tmp 5] ?_
 unfold Tryz.f209
 simp only [Option.getD_some]
 refine .seq <| .r3 fine 266 [(0, sU32 a), (1, sU32 b)] <| .seq ?_
 obtain ⟨hg1, hg2, hr⟩ := gd2 hr
 refine .r0 fine <| .mu 4 <| .p0 (v := .pp (b.flatMap (iC .u32)) ((wrapF .i64 ((b.length : Int) - 1)).toNat * 1)) (Eq.trans (b := ORes.ofP (guardV (inR (wrapF .i64 ((b.length : Int) - 1)) b.length) (.pp (b.flatMap (iC .u32)) ((wrapF .i64 ((b.length : Int) - 1)).toNat * 1)))) (by kernel_rfl) (ofP_guard hg1)) <| .p0 (v := aU32 (gt b (wrapF .i64 ((b.length : Int) - 1)))) (Eq.trans (b := ORes.ofP ((b.flatMap (iC .u32))[(wrapF .i64 ((b.length : Int) - 1)).toNat * 1]?)) (by kernel_rfl) (ofP_some (flat_get (iC_len _) (inR_lt hg1) (by decide : 0 < 1) (by omega : (wrapF .i64 ((b.length : Int) - 1)).toNat * 1 = (wrapF .i64 ((b.length : Int) - 1)).toNat * 1 + 0) (by kernel_rfl)))) <| .mu 2 <| .p0 (v := aU64 (wrapF .u64 ((1000000000 : Int).tdiv (wrapF .u64 ((wrapF .u64 (gt b (wrapF .i64 ((b.length : Int) - 1)))) + 1))))) (op_quo (x := 1000000000) (y := wrapF .u64 ((wrapF .u64 (gt b (wrapF .i64 ((b.length : Int) - 1)))) + 1)) (by kernel_rfl) (by kernel_rfl) hg2) <| .mu 2 <| .done <| .n2 266 [(0, sU32 a), (1, sU32 b), (6, aU32 (wrapF .u32 (wrapF .u64 ((1000000000 : Int).tdiv (wrapF .u64 ((wrapF .u64 (gt b (wrapF .i64 ((b.length : Int) - 1)))) + 1))))))] [] <| .seq ?_
 obtain ⟨v3, hc4, hr⟩ := bd hr
 refine .gn fine (ca4 [.own [aU32 (wrapF .u32 (wrapF .u64 ((1000000000 : Int).tdiv (wrapF .u64 ((wrapF .u64 (gt b (wrapF .i64 ((b.length : Int) - 1)))) + 1)))))]] (callOk_mutU (args := [sU32 a, .hs 0 0 1 1]) 1 1 [(0, false)] [false, false] (integer_times_w_ok n a [wrapF .u32 (wrapF .u64 ((1000000000 : Int).tdiv (wrapF .u64 ((wrapF .u64 (gt b (wrapF .i64 ((b.length : Int) - 1)))) + 1))))] v3 hc4) (by exact ⟨rfl, trivial⟩) (by exact ⟨ids_flat (iC_pure _) _, ⟨ids_flat (iC_pure _) _, trivial⟩⟩) rfl rfl (by kernel_rfl) (by kernel_rfl))) <| .mu 3 <| .ca cf0 <| .mu 1 <| .done <| .n2 266 [(0, sU32 a), (1, sU32 b), (6, aU32 (wrapF .u32 (wrapF .u64 ((1000000000 : Int).tdiv (wrapF .u64 ((wrapF .u64 (gt b (wrapF .i64 ((b.length : Int) - 1)))) + 1)))))), (7, .hs 1 0 v3.length 1)] [.own ([wrapF .u32 (wrapF .u64 ((1000000000 : Int).tdiv (wrapF .u64 ((wrapF .u64 (gt b (wrapF .i64 ((b.length : Int) - 1)))) + 1))))].flatMap (iC .u32)), .own (v3.flatMap (iC .u32))] <| .seq ?_
 obtain ⟨v5, hc6, hr⟩ := bd hr
 refine .gn fine (ca4 [.own ([wrapF .u32 (wrapF .u64 ((1000000000 : Int).tdiv (wrapF .u64 ((wrapF .u64 (gt b (wrapF .i64 ((b.length : Int) - 1)))) + 1))))].flatMap (iC .u32)), .own (v3.flatMap (iC .u32)), .own [aU32 (wrapF .u32 (wrapF .u64 ((1000000000 : Int).tdiv (wrapF .u64 ((wrapF .u64 (gt b (wrapF .i64 ((b.length : Int) - 1)))) + 1)))))]] (callOk_mutU (args := [sU32 b, .hs 2 0 1 1]) 1 1 [(2, false)] [false, false] (integer_times_w_ok n b [wrapF .u32 (wrapF .u64 ((1000000000 : Int).tdiv (wrapF .u64 ((wrapF .u64 (gt b (wrapF .i64 ((b.length : Int) - 1)))) + 1))))] v5 hc6) (by exact ⟨rfl, trivial⟩) (by exact ⟨ids_flat (iC_pure _) _, ⟨ids_flat (iC_pure _) _, trivial⟩⟩) rfl rfl (by kernel_rfl) (by kernel_rfl))) <| .mu 3 <| .ca cf0 <| .mu 1 <| .done <| .n2 266 [(0, sU32 a), (6, aU32 (wrapF .u32 (wrapF .u64 ((1000000000 : Int).tdiv (wrapF .u64 ((wrapF .u64 (gt b (wrapF .i64 ((b.length : Int) - 1)))) + 1)))))), (7, .hs 1 0 v3.length 1), (8, .hs 3 0 v5.length 1)] [.own ([wrapF .u32 (wrapF .u64 ((1000000000 : Int).tdiv (wrapF .u64 ((wrapF .u64 (gt b (wrapF .i64 ((b.length : Int) - 1)))) + 1))))].flatMap (iC .u32)), .own (v3.flatMap (iC .u32)), .own ([wrapF .u32 (wrapF .u64 ((1000000000 : Int).tdiv (wrapF .u64 ((wrapF .u64 (gt b (wrapF .i64 ((b.length : Int) - 1)))) + 1))))].flatMap (iC .u32)), .own (v5.flatMap (iC .u32))] <| .seq <| .r3 fine 266 [(0, sU32 a), (6, aU32 (wrapF .u32 (wrapF .u64 ((1000000000 : Int).tdiv (wrapF .u64 ((wrapF .u64 (gt b (wrapF .i64 ((b.length : Int) - 1)))) + 1)))))), (7, .hs 1 0 v3.length 1), (8, .hs 3 0 v5.length 1), (9, aI64 (v5.length : Int))] <| .seq ?_
 obtain ⟨hg7, hg8, hr⟩ := gd2 hr
 refine .r0 fine <| .mu 2 <| .e0 (v := .hs 5 0 (v3 ++ [(0 : Int)]).length 1) (ws := [(1, .dead), (5, .own ((v3 ++ [(0 : Int)]).flatMap (iC .u32)))]) (Eq.trans (b := guardO (decide (0 + v3.length * 1 ≤ (v3.flatMap (iC .u32)).length) && decide ((v3.length + 1) * 4 ≤ 140737488355328) && decide (v3.length + 1 ≤ 4611686018427387904)) (some (.eff (.hs 5 0 (v3.length + 1) 1) [(1, .dead), (5, .own (((v3.flatMap (iC .u32)).drop 0).take (v3.length * 1) ++ [aU32 0]))]))) (by kernel_rfl) (app_own (l := v3) (xs := [(0 : Int)]) (iC_len _) rfl rfl (by kernel_rfl) hg7 hg8)) <| .mu 1 <| .done <| .n2 266 [(0, sU32 a), (6, aU32 (wrapF .u32 (wrapF .u64 ((1000000000 : Int).tdiv (wrapF .u64 ((wrapF .u64 (gt b (wrapF .i64 ((b.length : Int) - 1)))) + 1)))))), (7, .hs 5 0 (v3 ++ [(0 : Int)]).length 1), (8, .hs 3 0 v5.length 1), (9, aI64 (v5.length : Int))] [.own ([wrapF .u32 (wrapF .u64 ((1000000000 : Int).tdiv (wrapF .u64 ((wrapF .u64 (gt b (wrapF .i64 ((b.length : Int) - 1)))) + 1))))].flatMap (iC .u32)), .dead, .own ([wrapF .u32 (wrapF .u64 ((1000000000 : Int).tdiv (wrapF .u64 ((wrapF .u64 (gt b (wrapF .i64 ((b.length : Int) - 1)))) + 1))))].flatMap (iC .u32)), .own (v5.flatMap (iC .u32)), .own [aU32 0], .own ((v3 ++ [(0 : Int)]).flatMap (iC .u32))] <| .seq <| .seq <| .r3 fine 266 [(6, aU32 (wrapF .u32 (wrapF .u64 ((1000000000 : Int).tdiv (wrapF .u64 ((wrapF .u64 (gt b (wrapF .i64 ((b.length : Int) - 1)))) + 1)))))), (7, .hs 5 0 (v3 ++ [(0 : Int)]).length 1), (8, .hs 3 0 v5.length 1), (9, aI64 (v5.length : Int)), (50, aB (decide (((v3 ++ [(0 : Int)]).length : Int) ≤ (a.length : Int))))] ?_
 replace hr := bd hr; obtain ⟨u_9, hL14, hr⟩ := hr
 refine .app1 (Q := fun x st' => x = .normal ∧ Wk 0 st' ⟨mkS 266 0 [(6, aU32 (wrapF .u32 (wrapF .u64 ((1000000000 : Int).tdiv (wrapF .u64 ((wrapF .u64 (gt b (wrapF .i64 ((b.length : Int) - 1)))) + 1)))))), (7, .hs 0 0 u_9.length 1), (8, .hs 1 0 v5.length 1), (9, aI64 (v5.length : Int))], [.own (u_9.flatMap (iC .u32)), .own (v5.flatMap (iC .u32))]⟩) ?_ ?_
 ·clear hr
  have hr := hL14
  clear hL14
  refine .cd hr (fun hb10 hr => ?_) (fun hb10 hr => ?_)
  ·obtain ⟨hg11, hg12, hr⟩ := gd2 hr
   refine .r0 fine <| .mu 2 <| .e0 (v := .hs 7 0 ((v3 ++ [(0 : Int)]) ++ [(0 : Int)]).length 1) (ws := [(5, .dead), (7, .own (((v3 ++ [(0 : Int)]) ++ [(0 : Int)]).flatMap (iC .u32)))]) (Eq.trans (b := guardO (decide (0 + (v3 ++ [(0 : Int)]).length * 1 ≤ ((v3 ++ [(0 : Int)]).flatMap (iC .u32)).length) && decide (((v3 ++ [(0 : Int)]).length + 1) * 4 ≤ 140737488355328) && decide ((v3 ++ [(0 : Int)]).length + 1 ≤ 4611686018427387904)) (some (.eff (.hs 7 0 ((v3 ++ [(0 : Int)]).length + 1) 1) [(5, .dead), (7, .own ((((v3 ++ [(0 : Int)]).flatMap (iC .u32)).drop 0).take ((v3 ++ [(0 : Int)]).length * 1) ++ [aU32 0]))]))) (by kernel_rfl) (app_own (l := v3 ++ [(0 : Int)]) (xs := [(0 : Int)]) (iC_len _) rfl rfl (by kernel_rfl) hg11 hg12)) <| .mu 1 <| .done ?_
   obtain rfl := Option.some.inj hr
   exact ⟨rfl, ((Wk.gc [6, 7, 8, 9] [(7, false), (3, false)] rfl (pKo (iC .u32) (iC_pure _) ((v3 ++ [(0 : Int)]) ++ [(0 : Int)]) (pKo (iC .u32) (iC_pure _) v5 trivial))).to (by kernel_rfl))⟩
  ·refine .skip ?_
   obtain rfl := Option.some.inj hr
   exact ⟨rfl, ((Wk.gc [6, 7, 8, 9] [(5, false), (3, false)] rfl (pKo (iC .u32) (iC_pure _) (v3 ++ [(0 : Int)]) (pKo (iC .u32) (iC_pure _) v5 trivial))).to (by kernel_rfl))⟩
 ·rintro x st' hq15
  clear hL14
  obtain ⟨rfl, hq15⟩ := hq15
  refine .wk hq15 <| .seq ?_
  obtain ⟨hg16, hg17, hg18, hr⟩ := gd3 hr
  refine .r0 fine <| .mu 4 <| .e0 (v := .hs 2 0 (List.replicate (wrapF .i64 ((u_9.length : Int) - (v5.length : Int))).toNat ((0 : Int) : Int)).length 1) (ws := [(2, .own ((List.replicate (wrapF .i64 ((u_9.length : Int) - (v5.length : Int))).toNat ((0 : Int) : Int)).flatMap (iC .u32)))]) (Eq.trans (b := guardO (decide (0 ≤ (wrapF .i64 ((u_9.length : Int) - (v5.length : Int)))) && decide ((wrapF .i64 ((u_9.length : Int) - (v5.length : Int))) ≤ (wrapF .i64 ((u_9.length : Int) - (v5.length : Int)))) && decide ((4 : Int) * (wrapF .i64 ((u_9.length : Int) - (v5.length : Int))) ≤ 281474976710656) && decide ((wrapF .i64 ((u_9.length : Int) - (v5.length : Int))) ≤ 9223372036854775807) && true && true && true) (some (.eff (.hs 2 0 (wrapF .i64 ((u_9.length : Int) - (v5.length : Int))).toNat 1) [(2, .own (zerosA [aU32 0] (wrapF .i64 ((u_9.length : Int) - (v5.length : Int))).toNat))]))) (by kernel_rfl) (make_own (c := (iC .u32)) (z := (0 : Int)) (n := wrapF .i64 ((u_9.length : Int) - (v5.length : Int))) (by_ := 4) rfl hg16 hg17 hg18)) <| .mu 1 <| .done <| .n2 266 [(4, .hs 2 0 (List.replicate (wrapF .i64 ((u_9.length : Int) - (v5.length : Int))).toNat ((0 : Int) : Int)).length 1), (6, aU32 (wrapF .u32 (wrapF .u64 ((1000000000 : Int).tdiv (wrapF .u64 ((wrapF .u64 (gt b (wrapF .i64 ((b.length : Int) - 1)))) + 1)))))), (7, .hs 0 0 u_9.length 1), (8, .hs 1 0 v5.length 1), (9, aI64 (v5.length : Int))] [.own (u_9.flatMap (iC .u32)), .own (v5.flatMap (iC .u32)), .own ((List.replicate (wrapF .i64 ((u_9.length : Int) - (v5.length : Int))).toNat ((0 : Int) : Int)).flatMap (iC .u32))] <| .seq <| .seq <| .r3 fine 266 [(4, .hs 2 0 (List.replicate (wrapF .i64 ((u_9.length : Int) - (v5.length : Int))).toNat ((0 : Int) : Int)).length 1), (6, aU32 (wrapF .u32 (wrapF .u64 ((1000000000 : Int).tdiv (wrapF .u64 ((wrapF .u64 (gt b (wrapF .i64 ((b.length : Int) - 1)))) + 1)))))), (7, .hs 0 0 u_9.length 1), (8, .hs 1 0 v5.length 1), (9, aI64 (v5.length : Int)), (10, aI64 (wrapF .i64 ((wrapF .i64 ((u_9.length : Int) - (v5.length : Int))) - 1)))] <| .block ?_
  replace hr := bd hr; obtain ⟨o235, hL236, hr⟩ := hr
  refine .loopO (σ := fun z0 => match z0 with | (q_19, u_20, j_21) => ⟨mkS 266 0 [(4, .hs 0 0 q_19.length 1), (6, aU32 (wrapF .u32 (wrapF .u64 ((1000000000 : Int).tdiv (wrapF .u64 ((wrapF .u64 (gt b (wrapF .i64 ((b.length : Int) - 1)))) + 1)))))), (7, .hs 1 0 u_20.length 1), (8, .hs 2 0 v5.length 1), (9, aI64 (v5.length : Int)), (10, aI64 j_21)], [.own (q_19.flatMap (iC .u32)), .own (u_20.flatMap (iC .u32)), .own (v5.flatMap (iC .u32))]⟩) (Q := fun x st' => match (generalizing := false) o235 with | (q_127, u_128) => x = .exit 0 ∧ Wk 0 st' ⟨mkS 266 0 [(4, .hs 0 0 q_127.length 1), (6, aU32 (wrapF .u32 (wrapF .u64 ((1000000000 : Int).tdiv (wrapF .u64 ((wrapF .u64 (gt b (wrapF .i64 ((b.length : Int) - 1)))) + 1)))))), (7, .hs 1 0 u_128.length 1), (9, aI64 (v5.length : Int))], [.own (q_127.flatMap (iC .u32)), .own (u_128.flatMap (iC .u32))]⟩) hL236 ((Wk.gc [4, 6, 7, 8, 9, 10] [(2, false), (0, false), (1, false)] rfl (pKo (iC .u32) (iC_pure _) (List.replicate (wrapF .i64 ((u_9.length : Int) - (v5.length : Int))).toNat ((0 : Int) : Int)) (pKo (iC .u32) (iC_pure _) u_9 (pKo (iC .u32) (iC_pure _) v5 trivial)))).to (by kernel_rfl)) ?_ ?_
  ·clear hr
   rintro m ⟨q_19, u_20, j_21⟩ hr
   show CQ _ _ _ _ _ ⟨_, _⟩
   refine .seq <| .seq <| .r3 fine 266 [(4, .hs 0 0 q_19.length 1), (6, aU32 (wrapF .u32 (wrapF .u64 ((1000000000 : Int).tdiv (wrapF .u64 ((wrapF .u64 (gt b (wrapF .i64 ((b.length : Int) - 1)))) + 1)))))), (7, .hs 1 0 u_20.length 1), (8, .hs 2 0 v5.length 1), (9, aI64 (v5.length : Int)), (10, aI64 j_21), (65, aB (decide (j_21 ≥ 0)))] ?_
   refine .cd hr (fun hb131 hr => ?_) (fun hb131 hr => ?_)
   ·refine .skip <| .seq <| .block <| .seq ?_
    obtain ⟨v132, hc133, hr⟩ := bd hr
    obtain ⟨hg134, hr⟩ := gd hr
    refine .t1 fine (callOk_val (args := [.hs 1 0 u_20.length 1, aI64 (wrapF .i64 (j_21 + (v5.length : Int)))]) (l := [1]) rfl (SnL.cons (Sn.hs rfl (.inl rfl) (SnC.pure (ids_flat (iC_pure _) _)) (fun h => flat_nil0 h)) (SnL.cons (Sn.pure rfl) SnL.nil)) (integer_at_ok n u_20 (wrapF .i64 (j_21 + (v5.length : Int))) v132 hc133)) <| .mu 4 <| .ca cf0 <| .mu 7 <| .pure (v := .hp 1 (0 + (wrapF .i64 ((wrapF .i64 (j_21 + (v5.length : Int))) - 1)).toNat * 1)) (by kernel_rfl) (Eq.trans (b := ORes.ofP (guardV (inR (wrapF .i64 ((wrapF .i64 (j_21 + (v5.length : Int))) - 1)) u_20.length) (.hp 1 (0 + (wrapF .i64 ((wrapF .i64 (j_21 + (v5.length : Int))) - 1)).toNat * 1)))) (by kernel_rfl) (ofP_guard hg134)) (by kernel_rfl) <| .pure (v := aU32 (gt u_20 (wrapF .i64 ((wrapF .i64 (j_21 + (v5.length : Int))) - 1)))) (by kernel_rfl) (Eq.trans (b := ORes.ofP ((u_20.flatMap (iC .u32))[0 + (wrapF .i64 ((wrapF .i64 (j_21 + (v5.length : Int))) - 1)).toNat * 1]?)) (by kernel_rfl) (ofP_some (flat_get (iC_len _) (inR_lt hg134) (by decide : 0 < 1) (by omega : 0 + (wrapF .i64 ((wrapF .i64 (j_21 + (v5.length : Int))) - 1)).toNat * 1 = (wrapF .i64 ((wrapF .i64 (j_21 + (v5.length : Int))) - 1)).toNat * 1 + 0) (by kernel_rfl)))) (by kernel_rfl) <| .mu 3 ?_
    refine .done ⟨by kernel_rfl, ?_⟩
    refine .n2 266 [(4, .hs 0 0 q_19.length 1), (6, aU32 (wrapF .u32 (wrapF .u64 ((1000000000 : Int).tdiv (wrapF .u64 ((wrapF .u64 (gt b (wrapF .i64 ((b.length : Int) - 1)))) + 1)))))), (7, .hs 1 0 u_20.length 1), (8, .hs 2 0 v5.length 1), (9, aI64 (v5.length : Int)), (10, aI64 j_21), (11, aU64 (wrapF .u64 ((wrapF .u64 ((wrapF .u64 v132) * 1000000000)) + (wrapF .u64 (gt u_20 (wrapF .i64 ((wrapF .i64 (j_21 + (v5.length : Int))) - 1)))))))] [.own (q_19.flatMap (iC .u32)), .own (u_20.flatMap (iC .u32)), .own (v5.flatMap (iC .u32))] <| .seq ?_
    obtain ⟨hg135, hg136, hr⟩ := gd2 hr
    refine .regionT fine callOf_nil <| .mu 4 <| .pure (v := .hp 2 (0 + (wrapF .i64 ((v5.length : Int) - 1)).toNat * 1)) (by kernel_rfl) (Eq.trans (b := ORes.ofP (guardV (inR (wrapF .i64 ((v5.length : Int) - 1)) v5.length) (.hp 2 (0 + (wrapF .i64 ((v5.length : Int) - 1)).toNat * 1)))) (by kernel_rfl) (ofP_guard hg135)) (by kernel_rfl) <| .pure (v := aU32 (gt v5 (wrapF .i64 ((v5.length : Int) - 1)))) (by kernel_rfl) (Eq.trans (b := ORes.ofP ((v5.flatMap (iC .u32))[0 + (wrapF .i64 ((v5.length : Int) - 1)).toNat * 1]?)) (by kernel_rfl) (ofP_some (flat_get (iC_len _) (inR_lt hg135) (by decide : 0 < 1) (by omega : 0 + (wrapF .i64 ((v5.length : Int) - 1)).toNat * 1 = (wrapF .i64 ((v5.length : Int) - 1)).toNat * 1 + 0) (by kernel_rfl)))) (by kernel_rfl) <| .mu 1 <| .pure (v := aU64 (wrapF .u64 ((wrapF .u64 ((wrapF .u64 ((wrapF .u64 v132) * 1000000000)) + (wrapF .u64 (gt u_20 (wrapF .i64 ((wrapF .i64 (j_21 + (v5.length : Int))) - 1)))))).tdiv (wrapF .u64 (gt v5 (wrapF .i64 ((v5.length : Int) - 1))))))) (by kernel_rfl) (op_quo (x := wrapF .u64 ((wrapF .u64 ((wrapF .u64 v132) * 1000000000)) + (wrapF .u64 (gt u_20 (wrapF .i64 ((wrapF .i64 (j_21 + (v5.length : Int))) - 1)))))) (y := wrapF .u64 (gt v5 (wrapF .i64 ((v5.length : Int) - 1)))) (by kernel_rfl) (by kernel_rfl) hg136) (by kernel_rfl) <| .mu 4 <| .pure (v := .hp 2 (0 + (wrapF .i64 ((v5.length : Int) - 1)).toNat * 1)) (by kernel_rfl) (Eq.trans (b := ORes.ofP (guardV (inR (wrapF .i64 ((v5.length : Int) - 1)) v5.length) (.hp 2 (0 + (wrapF .i64 ((v5.length : Int) - 1)).toNat * 1)))) (by kernel_rfl) (ofP_guard hg135)) (by kernel_rfl) <| .pure (v := aU32 (gt v5 (wrapF .i64 ((v5.length : Int) - 1)))) (by kernel_rfl) (Eq.trans (b := ORes.ofP ((v5.flatMap (iC .u32))[0 + (wrapF .i64 ((v5.length : Int) - 1)).toNat * 1]?)) (by kernel_rfl) (ofP_some (flat_get (iC_len _) (inR_lt hg135) (by decide : 0 < 1) (by omega : 0 + (wrapF .i64 ((v5.length : Int) - 1)).toNat * 1 = (wrapF .i64 ((v5.length : Int) - 1)).toNat * 1 + 0) (by kernel_rfl)))) (by kernel_rfl) <| .mu 1 <| .pure (v := aU64 ((wrapF .u64 ((wrapF .u64 ((wrapF .u64 v132) * 1000000000)) + (wrapF .u64 (gt u_20 (wrapF .i64 ((wrapF .i64 (j_21 + (v5.length : Int))) - 1)))))).tmod (wrapF .u64 (gt v5 (wrapF .i64 ((v5.length : Int) - 1)))))) (by kernel_rfl) (op_rem (x := wrapF .u64 ((wrapF .u64 ((wrapF .u64 v132) * 1000000000)) + (wrapF .u64 (gt u_20 (wrapF .i64 ((wrapF .i64 (j_21 + (v5.length : Int))) - 1)))))) (y := wrapF .u64 (gt v5 (wrapF .i64 ((v5.length : Int) - 1)))) (by kernel_rfl) (by kernel_rfl) hg136) (by kernel_rfl) <| .mu 2 ?_
    refine .done ⟨by kernel_rfl, ?_⟩
    refine .n2 266 [(4, .hs 0 0 q_19.length 1), (6, aU32 (wrapF .u32 (wrapF .u64 ((1000000000 : Int).tdiv (wrapF .u64 ((wrapF .u64 (gt b (wrapF .i64 ((b.length : Int) - 1)))) + 1)))))), (7, .hs 1 0 u_20.length 1), (8, .hs 2 0 v5.length 1), (9, aI64 (v5.length : Int)), (10, aI64 j_21), (12, aU64 (wrapF .u64 ((wrapF .u64 ((wrapF .u64 ((wrapF .u64 v132) * 1000000000)) + (wrapF .u64 (gt u_20 (wrapF .i64 ((wrapF .i64 (j_21 + (v5.length : Int))) - 1)))))).tdiv (wrapF .u64 (gt v5 (wrapF .i64 ((v5.length : Int) - 1))))))), (13, aU64 ((wrapF .u64 ((wrapF .u64 ((wrapF .u64 v132) * 1000000000)) + (wrapF .u64 (gt u_20 (wrapF .i64 ((wrapF .i64 (j_21 + (v5.length : Int))) - 1)))))).tmod (wrapF .u64 (gt v5 (wrapF .i64 ((v5.length : Int) - 1))))))] [.own (q_19.flatMap (iC .u32)), .own (u_20.flatMap (iC .u32)), .own (v5.flatMap (iC .u32))] <| .seq <| .block ?_
    replace hr := bd hr; obtain ⟨guess_164, hL173, hr⟩ := hr
    refine .loopO (σ := fun z0 => match z0 with | (guess_156, rest_157) => ⟨mkS 266 0 [(4, .hs 0 0 q_19.length 1), (6, aU32 (wrapF .u32 (wrapF .u64 ((1000000000 : Int).tdiv (wrapF .u64 ((wrapF .u64 (gt b (wrapF .i64 ((b.length : Int) - 1)))) + 1)))))), (7, .hs 1 0 u_20.length 1), (8, .hs 2 0 v5.length 1), (9, aI64 (v5.length : Int)), (10, aI64 j_21), (12, aU64 guess_156), (13, aU64 rest_157)], [.own (q_19.flatMap (iC .u32)), .own (u_20.flatMap (iC .u32)), .own (v5.flatMap (iC .u32))]⟩) (Q := fun x st' => x = .exit 2 ∧ Wk 0 st' ⟨mkS 266 0 [(4, .hs 0 0 q_19.length 1), (6, aU32 (wrapF .u32 (wrapF .u64 ((1000000000 : Int).tdiv (wrapF .u64 ((wrapF .u64 (gt b (wrapF .i64 ((b.length : Int) - 1)))) + 1)))))), (7, .hs 1 0 u_20.length 1), (8, .hs 2 0 v5.length 1), (9, aI64 (v5.length : Int)), (10, aI64 j_21), (12, aU64 guess_164)], [.own (q_19.flatMap (iC .u32)), .own (u_20.flatMap (iC .u32)), .own (v5.flatMap (iC .u32))]⟩) hL173 ((Wk.gc [4, 6, 7, 8, 9, 10, 12, 13] [(0, false), (1, false), (2, false)] rfl (pKo (iC .u32) (iC_pure _) q_19 (pKo (iC .u32) (iC_pure _) u_20 (pKo (iC .u32) (iC_pure _) v5 trivial)))).to (by kernel_rfl)) ?_ ?_
    ·clear hr
     rintro m ⟨guess_156, rest_157⟩ hr
     show CQ _ _ _ _ _ ⟨_, _⟩
     refine .seq <| .seq ?_
     rcases Bool.eq_false_or_eq_true (decide (guess_156 ≥ 1000000000)) with hb166 | hb166
     ·replace hr := cd_t hb166 hr
      refine .regionT fine callOf_nil <| .mu 1 <| .pure (v := aB true) (by kernel_rfl) (Eq.trans (b := some (.pure (aB (decide (guess_156 ≥ 1000000000))))) (by kernel_rfl) (by rw [hb166])) (by kernel_rfl) <| .mu 22 ?_
      refine .done ⟨by kernel_rfl, ?_⟩
      refine .n2 266 [(4, .hs 0 0 q_19.length 1), (6, aU32 (wrapF .u32 (wrapF .u64 ((1000000000 : Int).tdiv (wrapF .u64 ((wrapF .u64 (gt b (wrapF .i64 ((b.length : Int) - 1)))) + 1)))))), (7, .hs 1 0 u_20.length 1), (8, .hs 2 0 v5.length 1), (9, aI64 (v5.length : Int)), (10, aI64 j_21), (12, aU64 guess_156), (13, aU64 rest_157), (123, aB true)] [.own (q_19.flatMap (iC .u32)), .own (u_20.flatMap (iC .u32)), .own (v5.flatMap (iC .u32))] <| .cT (by kernel_rfl) <| .skip <| .block <| .seq <| .r3 fine 266 [(4, .hs 0 0 q_19.length 1), (6, aU32 (wrapF .u32 (wrapF .u64 ((1000000000 : Int).tdiv (wrapF .u64 ((wrapF .u64 (gt b (wrapF .i64 ((b.length : Int) - 1)))) + 1)))))), (7, .hs 1 0 u_20.length 1), (8, .hs 2 0 v5.length 1), (9, aI64 (v5.length : Int)), (10, aI64 j_21), (12, aU64 (wrapF .u64 (guess_156 - 1))), (13, aU64 rest_157)] <| .seq <| .r0 fine <| .mu 4 <| .p0 (v := .hp 2 (0 + (wrapF .i64 ((v5.length : Int) - 1)).toNat * 1)) (Eq.trans (b := ORes.ofP (guardV (inR (wrapF .i64 ((v5.length : Int) - 1)) v5.length) (.hp 2 (0 + (wrapF .i64 ((v5.length : Int) - 1)).toNat * 1)))) (by kernel_rfl) (ofP_guard hg135)) <| .p0 (v := aU32 (gt v5 (wrapF .i64 ((v5.length : Int) - 1)))) (Eq.trans (b := ORes.ofP ((v5.flatMap (iC .u32))[0 + (wrapF .i64 ((v5.length : Int) - 1)).toNat * 1]?)) (by kernel_rfl) (ofP_some (flat_get (iC_len _) (inR_lt hg135) (by decide : 0 < 1) (by omega : 0 + (wrapF .i64 ((v5.length : Int) - 1)).toNat * 1 = (wrapF .i64 ((v5.length : Int) - 1)).toNat * 1 + 0) (by kernel_rfl)))) <| .mu 3 <| .done <| .n2 266 [(4, .hs 0 0 q_19.length 1), (6, aU32 (wrapF .u32 (wrapF .u64 ((1000000000 : Int).tdiv (wrapF .u64 ((wrapF .u64 (gt b (wrapF .i64 ((b.length : Int) - 1)))) + 1)))))), (7, .hs 1 0 u_20.length 1), (8, .hs 2 0 v5.length 1), (9, aI64 (v5.length : Int)), (10, aI64 j_21), (12, aU64 (wrapF .u64 (guess_156 - 1))), (13, aU64 (wrapF .u64 (rest_157 + (wrapF .u64 (gt v5 (wrapF .i64 ((v5.length : Int) - 1)))))))] [.own (q_19.flatMap (iC .u32)), .own (u_20.flatMap (iC .u32)), .own (v5.flatMap (iC .u32))] <| .seq <| .r3 fine 266 [(4, .hs 0 0 q_19.length 1), (6, aU32 (wrapF .u32 (wrapF .u64 ((1000000000 : Int).tdiv (wrapF .u64 ((wrapF .u64 (gt b (wrapF .i64 ((b.length : Int) - 1)))) + 1)))))), (7, .hs 1 0 u_20.length 1), (8, .hs 2 0 v5.length 1), (9, aI64 (v5.length : Int)), (10, aI64 j_21), (12, aU64 (wrapF .u64 (guess_156 - 1))), (13, aU64 (wrapF .u64 (rest_157 + (wrapF .u64 (gt v5 (wrapF .i64 ((v5.length : Int) - 1))))))), (135, aB (decide ((wrapF .u64 (rest_157 + (wrapF .u64 (gt v5 (wrapF .i64 ((v5.length : Int) - 1)))))) ≥ 1000000000)))] ?_
      refine .cd hr (fun hb167 hr => ?_) (fun hb167 hr => ?_)
      ·refine .leave rfl ?_
       obtain rfl := Option.some.inj hr
       exact ⟨rfl, ((Wk.gc [4, 6, 7, 8, 9, 10, 12] [(0, false), (1, false), (2, false)] rfl (pKo (iC .u32) (iC_pure _) q_19 (pKo (iC .u32) (iC_pure _) u_20 (pKo (iC .u32) (iC_pure _) v5 trivial)))).to (by kernel_rfl))⟩
      ·refine .skip <| .pop ?_
       exact loopF_back (wrapF .u64 (guess_156 - 1), wrapF .u64 (rest_157 + (wrapF .u64 (gt v5 (wrapF .i64 ((v5.length : Int) - 1)))))) hr ((Wk.gc [4, 6, 7, 8, 9, 10, 12, 13] [(0, false), (1, false), (2, false)] rfl (pKo (iC .u32) (iC_pure _) q_19 (pKo (iC .u32) (iC_pure _) u_20 (pKo (iC .u32) (iC_pure _) v5 trivial)))).to (by kernel_rfl))
     ·replace hr := cd_f hb166 hr
      obtain ⟨hg168, hg169, hr⟩ := gd2 hr
      refine .regionT fine callOf_nil <| .mu 1 <| .pure (v := aB false) (by kernel_rfl) (Eq.trans (b := some (.pure (aB (decide (guess_156 ≥ 1000000000))))) (by kernel_rfl) (by rw [hb166])) (by kernel_rfl) <| .mu 5 <| .pure (v := .hp 2 (0 + (wrapF .i64 ((v5.length : Int) - 2)).toNat * 1)) (by kernel_rfl) (Eq.trans (b := ORes.ofP (guardV (inR (wrapF .i64 ((v5.length : Int) - 2)) v5.length) (.hp 2 (0 + (wrapF .i64 ((v5.length : Int) - 2)).toNat * 1)))) (by kernel_rfl) (ofP_guard hg168)) (by kernel_rfl) <| .pure (v := aU32 (gt v5 (wrapF .i64 ((v5.length : Int) - 2)))) (by kernel_rfl) (Eq.trans (b := ORes.ofP ((v5.flatMap (iC .u32))[0 + (wrapF .i64 ((v5.length : Int) - 2)).toNat * 1]?)) (by kernel_rfl) (ofP_some (flat_get (iC_len _) (inR_lt hg168) (by decide : 0 < 1) (by omega : 0 + (wrapF .i64 ((v5.length : Int) - 2)).toNat * 1 = (wrapF .i64 ((v5.length : Int) - 2)).toNat * 1 + 0) (by kernel_rfl)))) (by kernel_rfl) <| .mu 9 <| .pure (v := .hp 1 (0 + (wrapF .i64 ((wrapF .i64 (j_21 + (v5.length : Int))) - 2)).toNat * 1)) (by kernel_rfl) (Eq.trans (b := ORes.ofP (guardV (inR (wrapF .i64 ((wrapF .i64 (j_21 + (v5.length : Int))) - 2)) u_20.length) (.hp 1 (0 + (wrapF .i64 ((wrapF .i64 (j_21 + (v5.length : Int))) - 2)).toNat * 1)))) (by kernel_rfl) (ofP_guard hg169)) (by kernel_rfl) <| .pure (v := aU32 (gt u_20 (wrapF .i64 ((wrapF .i64 (j_21 + (v5.length : Int))) - 2)))) (by kernel_rfl) (Eq.trans (b := ORes.ofP ((u_20.flatMap (iC .u32))[0 + (wrapF .i64 ((wrapF .i64 (j_21 + (v5.length : Int))) - 2)).toNat * 1]?)) (by kernel_rfl) (ofP_some (flat_get (iC_len _) (inR_lt hg169) (by decide : 0 < 1) (by omega : 0 + (wrapF .i64 ((wrapF .i64 (j_21 + (v5.length : Int))) - 2)).toNat * 1 = (wrapF .i64 ((wrapF .i64 (j_21 + (v5.length : Int))) - 2)).toNat * 1 + 0) (by kernel_rfl)))) (by kernel_rfl) <| .mu 4 ?_
      refine .done ⟨by kernel_rfl, ?_⟩
      refine .n2 266 [(4, .hs 0 0 q_19.length 1), (6, aU32 (wrapF .u32 (wrapF .u64 ((1000000000 : Int).tdiv (wrapF .u64 ((wrapF .u64 (gt b (wrapF .i64 ((b.length : Int) - 1)))) + 1)))))), (7, .hs 1 0 u_20.length 1), (8, .hs 2 0 v5.length 1), (9, aI64 (v5.length : Int)), (10, aI64 j_21), (12, aU64 guess_156), (13, aU64 rest_157), (123, aB (decide ((wrapF .u64 (guess_156 * (wrapF .u64 (gt v5 (wrapF .i64 ((v5.length : Int) - 2)))))) > (wrapF .u64 ((wrapF .u64 (rest_157 * 1000000000)) + (wrapF .u64 (gt u_20 (wrapF .i64 ((wrapF .i64 (j_21 + (v5.length : Int))) - 2)))))))))] [.own (q_19.flatMap (iC .u32)), .own (u_20.flatMap (iC .u32)), .own (v5.flatMap (iC .u32))] ?_
      refine .cd hr (fun hb170 hr => ?_) (fun hb170 hr => ?_)
      ·refine .skip <| .block <| .seq <| .r3 fine 266 [(4, .hs 0 0 q_19.length 1), (6, aU32 (wrapF .u32 (wrapF .u64 ((1000000000 : Int).tdiv (wrapF .u64 ((wrapF .u64 (gt b (wrapF .i64 ((b.length : Int) - 1)))) + 1)))))), (7, .hs 1 0 u_20.length 1), (8, .hs 2 0 v5.length 1), (9, aI64 (v5.length : Int)), (10, aI64 j_21), (12, aU64 (wrapF .u64 (guess_156 - 1))), (13, aU64 rest_157)] <| .seq <| .r0 fine <| .mu 4 <| .p0 (v := .hp 2 (0 + (wrapF .i64 ((v5.length : Int) - 1)).toNat * 1)) (Eq.trans (b := ORes.ofP (guardV (inR (wrapF .i64 ((v5.length : Int) - 1)) v5.length) (.hp 2 (0 + (wrapF .i64 ((v5.length : Int) - 1)).toNat * 1)))) (by kernel_rfl) (ofP_guard hg135)) <| .p0 (v := aU32 (gt v5 (wrapF .i64 ((v5.length : Int) - 1)))) (Eq.trans (b := ORes.ofP ((v5.flatMap (iC .u32))[0 + (wrapF .i64 ((v5.length : Int) - 1)).toNat * 1]?)) (by kernel_rfl) (ofP_some (flat_get (iC_len _) (inR_lt hg135) (by decide : 0 < 1) (by omega : 0 + (wrapF .i64 ((v5.length : Int) - 1)).toNat * 1 = (wrapF .i64 ((v5.length : Int) - 1)).toNat * 1 + 0) (by kernel_rfl)))) <| .mu 3 <| .done <| .n2 266 [(4, .hs 0 0 q_19.length 1), (6, aU32 (wrapF .u32 (wrapF .u64 ((1000000000 : Int).tdiv (wrapF .u64 ((wrapF .u64 (gt b (wrapF .i64 ((b.length : Int) - 1)))) + 1)))))), (7, .hs 1 0 u_20.length 1), (8, .hs 2 0 v5.length 1), (9, aI64 (v5.length : Int)), (10, aI64 j_21), (12, aU64 (wrapF .u64 (guess_156 - 1))), (13, aU64 (wrapF .u64 (rest_157 + (wrapF .u64 (gt v5 (wrapF .i64 ((v5.length : Int) - 1)))))))] [.own (q_19.flatMap (iC .u32)), .own (u_20.flatMap (iC .u32)), .own (v5.flatMap (iC .u32))] <| .seq <| .r3 fine 266 [(4, .hs 0 0 q_19.length 1), (6, aU32 (wrapF .u32 (wrapF .u64 ((1000000000 : Int).tdiv (wrapF .u64 ((wrapF .u64 (gt b (wrapF .i64 ((b.length : Int) - 1)))) + 1)))))), (7, .hs 1 0 u_20.length 1), (8, .hs 2 0 v5.length 1), (9, aI64 (v5.length : Int)), (10, aI64 j_21), (12, aU64 (wrapF .u64 (guess_156 - 1))), (13, aU64 (wrapF .u64 (rest_157 + (wrapF .u64 (gt v5 (wrapF .i64 ((v5.length : Int) - 1))))))), (135, aB (decide ((wrapF .u64 (rest_157 + (wrapF .u64 (gt v5 (wrapF .i64 ((v5.length : Int) - 1)))))) ≥ 1000000000)))] ?_
       refine .cd hr (fun hb171 hr => ?_) (fun hb171 hr => ?_)
       ·refine .leave rfl ?_
        obtain rfl := Option.some.inj hr
        exact ⟨rfl, ((Wk.gc [4, 6, 7, 8, 9, 10, 12] [(0, false), (1, false), (2, false)] rfl (pKo (iC .u32) (iC_pure _) q_19 (pKo (iC .u32) (iC_pure _) u_20 (pKo (iC .u32) (iC_pure _) v5 trivial)))).to (by kernel_rfl))⟩
       ·refine .skip <| .pop ?_
        exact loopF_back (wrapF .u64 (guess_156 - 1), wrapF .u64 (rest_157 + (wrapF .u64 (gt v5 (wrapF .i64 ((v5.length : Int) - 1)))))) hr ((Wk.gc [4, 6, 7, 8, 9, 10, 12, 13] [(0, false), (1, false), (2, false)] rfl (pKo (iC .u32) (iC_pure _) q_19 (pKo (iC .u32) (iC_pure _) u_20 (pKo (iC .u32) (iC_pure _) v5 trivial)))).to (by kernel_rfl))
      ·refine .leave rfl ?_
       obtain rfl := Option.some.inj hr
       exact ⟨rfl, ((Wk.gc [4, 6, 7, 8, 9, 10, 12] [(0, false), (1, false), (2, false)] rfl (pKo (iC .u32) (iC_pure _) q_19 (pKo (iC .u32) (iC_pure _) u_20 (pKo (iC .u32) (iC_pure _) v5 trivial)))).to (by kernel_rfl))⟩
    ·rintro x st' hq174
     clear hL173
     obtain ⟨rfl, hq174⟩ := hq174
     refine CQ_exit _ rfl <| .wk hq174 <| .seq <| .r3 fine 266 [(4, .hs 0 0 q_19.length 1), (6, aU32 (wrapF .u32 (wrapF .u64 ((1000000000 : Int).tdiv (wrapF .u64 ((wrapF .u64 (gt b (wrapF .i64 ((b.length : Int) - 1)))) + 1)))))), (7, .hs 1 0 u_20.length 1), (8, .hs 2 0 v5.length 1), (9, aI64 (v5.length : Int)), (10, aI64 j_21), (12, aU64 guess_164), (14, aI64 0), (15, aU64 0)] <| .seq <| .seq <| .r3 fine 266 [(4, .hs 0 0 q_19.length 1), (6, aU32 (wrapF .u32 (wrapF .u64 ((1000000000 : Int).tdiv (wrapF .u64 ((wrapF .u64 (gt b (wrapF .i64 ((b.length : Int) - 1)))) + 1)))))), (7, .hs 1 0 u_20.length 1), (8, .hs 2 0 v5.length 1), (9, aI64 (v5.length : Int)), (10, aI64 j_21), (12, aU64 guess_164), (14, aI64 0), (15, aU64 0), (136, aI64 (v5.length : Int)), (137, aI64 0)] <| .block ?_
     replace hr := bd hr; obtain ⟨o210, hL211, hr⟩ := hr
     refine .loopO (σ := fun z0 => match z0 with | (u_194, borrow_195, carry_196, x_197) => ⟨mkS 266 0 [(4, .hs 0 0 q_19.length 1), (6, aU32 (wrapF .u32 (wrapF .u64 ((1000000000 : Int).tdiv (wrapF .u64 ((wrapF .u64 (gt b (wrapF .i64 ((b.length : Int) - 1)))) + 1)))))), (7, .hs 1 0 u_194.length 1), (8, .hs 2 0 v5.length 1), (9, aI64 (v5.length : Int)), (10, aI64 j_21), (12, aU64 guess_164), (14, aI64 borrow_195), (15, aU64 carry_196), (136, aI64 (v5.length : Int)), (137, aI64 x_197)], [.own (q_19.flatMap (iC .u32)), .own (u_194.flatMap (iC .u32)), .own (v5.flatMap (iC .u32))]⟩) (Q := fun x st' => match (generalizing := false) o210 with | (u_202, borrow_203, carry_204) => x = .exit 4 ∧ Wk 0 st' ⟨mkS 266 0 [(4, .hs 0 0 q_19.length 1), (6, aU32 (wrapF .u32 (wrapF .u64 ((1000000000 : Int).tdiv (wrapF .u64 ((wrapF .u64 (gt b (wrapF .i64 ((b.length : Int) - 1)))) + 1)))))), (7, .hs 1 0 u_202.length 1), (8, .hs 2 0 v5.length 1), (9, aI64 (v5.length : Int)), (10, aI64 j_21), (12, aU64 guess_164), (14, aI64 borrow_203), (15, aU64 carry_204)], [.own (q_19.flatMap (iC .u32)), .own (u_202.flatMap (iC .u32)), .own (v5.flatMap (iC .u32))]⟩) hL211 ((Wk.gc [4, 6, 7, 8, 9, 10, 12, 14, 15, 136, 137] [(0, false), (1, false), (2, false)] rfl (pKo (iC .u32) (iC_pure _) q_19 (pKo (iC .u32) (iC_pure _) u_20 (pKo (iC .u32) (iC_pure _) v5 trivial)))).to (by kernel_rfl)) ?_ ?_
     ·clear hr
      rintro m ⟨u_194, borrow_195, carry_196, x_197⟩ hr
      show CQ _ _ _ _ _ ⟨_, _⟩
      refine .seq <| .r3 fine 266 [(4, .hs 0 0 q_19.length 1), (6, aU32 (wrapF .u32 (wrapF .u64 ((1000000000 : Int).tdiv (wrapF .u64 ((wrapF .u64 (gt b (wrapF .i64 ((b.length : Int) - 1)))) + 1)))))), (7, .hs 1 0 u_194.length 1), (8, .hs 2 0 v5.length 1), (9, aI64 (v5.length : Int)), (10, aI64 j_21), (12, aU64 guess_164), (14, aI64 borrow_195), (15, aU64 carry_196), (136, aI64 (v5.length : Int)), (137, aI64 x_197), (138, aB (decide (x_197 < (v5.length : Int))))] <| .seq ?_
      refine .cd hr (fun hb206 hr => ?_) (fun hb206 hr => ?_)
      ·refine .skip <| .seq <| .block <| .seq <| .r3 fine 266 [(4, .hs 0 0 q_19.length 1), (6, aU32 (wrapF .u32 (wrapF .u64 ((1000000000 : Int).tdiv (wrapF .u64 ((wrapF .u64 (gt b (wrapF .i64 ((b.length : Int) - 1)))) + 1)))))), (7, .hs 1 0 u_194.length 1), (8, .hs 2 0 v5.length 1), (9, aI64 (v5.length : Int)), (10, aI64 j_21), (12, aU64 guess_164), (14, aI64 borrow_195), (15, aU64 carry_196), (16, aI64 x_197), (136, aI64 (v5.length : Int)), (137, aI64 x_197)] <| .seq ?_
       obtain ⟨hg207, hr⟩ := gd hr
       refine .r0 fine <| .mu 3 <| .p0 (v := .hp 2 (0 + x_197.toNat * 1)) (Eq.trans (b := ORes.ofP (guardV (inR x_197 v5.length) (.hp 2 (0 + x_197.toNat * 1)))) (by kernel_rfl) (ofP_guard hg207)) <| .p0 (v := aU32 (gt v5 x_197)) (Eq.trans (b := ORes.ofP ((v5.flatMap (iC .u32))[0 + x_197.toNat * 1]?)) (by kernel_rfl) (ofP_some (flat_get (iC_len _) (inR_lt hg207) (by decide : 0 < 1) (by omega : 0 + x_197.toNat * 1 = x_197.toNat * 1 + 0) (by kernel_rfl)))) <| .mu 5 <| .done <| .n2 266 [(4, .hs 0 0 q_19.length 1), (6, aU32 (wrapF .u32 (wrapF .u64 ((1000000000 : Int).tdiv (wrapF .u64 ((wrapF .u64 (gt b (wrapF .i64 ((b.length : Int) - 1)))) + 1)))))), (7, .hs 1 0 u_194.length 1), (8, .hs 2 0 v5.length 1), (9, aI64 (v5.length : Int)), (10, aI64 j_21), (12, aU64 guess_164), (14, aI64 borrow_195), (16, aI64 x_197), (17, aU64 (wrapF .u64 ((wrapF .u64 (guess_164 * (wrapF .u64 (gt v5 x_197)))) + carry_196))), (136, aI64 (v5.length : Int)), (137, aI64 x_197)] [.own (q_19.flatMap (iC .u32)), .own (u_194.flatMap (iC .u32)), .own (v5.flatMap (iC .u32))] <| .seq <| .r3 fine 266 [(4, .hs 0 0 q_19.length 1), (6, aU32 (wrapF .u32 (wrapF .u64 ((1000000000 : Int).tdiv (wrapF .u64 ((wrapF .u64 (gt b (wrapF .i64 ((b.length : Int) - 1)))) + 1)))))), (7, .hs 1 0 u_194.length 1), (8, .hs 2 0 v5.length 1), (9, aI64 (v5.length : Int)), (10, aI64 j_21), (12, aU64 guess_164), (14, aI64 borrow_195), (15, aU64 (wrapF .u64 ((wrapF .u64 ((wrapF .u64 (guess_164 * (wrapF .u64 (gt v5 x_197)))) + carry_196)).tdiv 1000000000))), (16, aI64 x_197), (17, aU64 (wrapF .u64 ((wrapF .u64 (guess_164 * (wrapF .u64 (gt v5 x_197)))) + carry_196))), (136, aI64 (v5.length : Int)), (137, aI64 x_197)] <| .seq ?_
       obtain ⟨hg208, hr⟩ := gd hr
       refine .r0 fine <| .mu 4 <| .p0 (v := .hp 1 (0 + (wrapF .i64 (x_197 + j_21)).toNat * 1)) (Eq.trans (b := ORes.ofP (guardV (inR (wrapF .i64 (x_197 + j_21)) u_194.length) (.hp 1 (0 + (wrapF .i64 (x_197 + j_21)).toNat * 1)))) (by kernel_rfl) (ofP_guard hg208)) <| .p0 (v := aU32 (gt u_194 (wrapF .i64 (x_197 + j_21)))) (Eq.trans (b := ORes.ofP ((u_194.flatMap (iC .u32))[0 + (wrapF .i64 (x_197 + j_21)).toNat * 1]?)) (by kernel_rfl) (ofP_some (flat_get (iC_len _) (inR_lt hg208) (by decide : 0 < 1) (by omega : 0 + (wrapF .i64 (x_197 + j_21)).toNat * 1 = (wrapF .i64 (x_197 + j_21)).toNat * 1 + 0) (by kernel_rfl)))) <| .mu 8 <| .done <| .n2 266 [(4, .hs 0 0 q_19.length 1), (6, aU32 (wrapF .u32 (wrapF .u64 ((1000000000 : Int).tdiv (wrapF .u64 ((wrapF .u64 (gt b (wrapF .i64 ((b.length : Int) - 1)))) + 1)))))), (7, .hs 1 0 u_194.length 1), (8, .hs 2 0 v5.length 1), (9, aI64 (v5.length : Int)), (10, aI64 j_21), (12, aU64 guess_164), (15, aU64 (wrapF .u64 ((wrapF .u64 ((wrapF .u64 (guess_164 * (wrapF .u64 (gt v5 x_197)))) + carry_196)).tdiv 1000000000))), (16, aI64 x_197), (18, aI64 (wrapF .i64 ((wrapF .i64 ((wrapF .i64 (gt u_194 (wrapF .i64 (x_197 + j_21)))) - borrow_195)) - (wrapF .i64 ((wrapF .u64 ((wrapF .u64 (guess_164 * (wrapF .u64 (gt v5 x_197)))) + carry_196)).tmod 1000000000))))), (136, aI64 (v5.length : Int)), (137, aI64 x_197)] [.own (q_19.flatMap (iC .u32)), .own (u_194.flatMap (iC .u32)), .own (v5.flatMap (iC .u32))] <| .seq <| .r3 fine 266 [(4, .hs 0 0 q_19.length 1), (6, aU32 (wrapF .u32 (wrapF .u64 ((1000000000 : Int).tdiv (wrapF .u64 ((wrapF .u64 (gt b (wrapF .i64 ((b.length : Int) - 1)))) + 1)))))), (7, .hs 1 0 u_194.length 1), (8, .hs 2 0 v5.length 1), (9, aI64 (v5.length : Int)), (10, aI64 j_21), (12, aU64 guess_164), (14, aI64 0), (15, aU64 (wrapF .u64 ((wrapF .u64 ((wrapF .u64 (guess_164 * (wrapF .u64 (gt v5 x_197)))) + carry_196)).tdiv 1000000000))), (16, aI64 x_197), (18, aI64 (wrapF .i64 ((wrapF .i64 ((wrapF .i64 (gt u_194 (wrapF .i64 (x_197 + j_21)))) - borrow_195)) - (wrapF .i64 ((wrapF .u64 ((wrapF .u64 (guess_164 * (wrapF .u64 (gt v5 x_197)))) + carry_196)).tmod 1000000000))))), (136, aI64 (v5.length : Int)), (137, aI64 x_197)] <| .seq <| .seq <| .r3 fine 266 [(4, .hs 0 0 q_19.length 1), (6, aU32 (wrapF .u32 (wrapF .u64 ((1000000000 : Int).tdiv (wrapF .u64 ((wrapF .u64 (gt b (wrapF .i64 ((b.length : Int) - 1)))) + 1)))))), (7, .hs 1 0 u_194.length 1), (8, .hs 2 0 v5.length 1), (9, aI64 (v5.length : Int)), (10, aI64 j_21), (12, aU64 guess_164), (14, aI64 0), (15, aU64 (wrapF .u64 ((wrapF .u64 ((wrapF .u64 (guess_164 * (wrapF .u64 (gt v5 x_197)))) + carry_196)).tdiv 1000000000))), (16, aI64 x_197), (18, aI64 (wrapF .i64 ((wrapF .i64 ((wrapF .i64 (gt u_194 (wrapF .i64 (x_197 + j_21)))) - borrow_195)) - (wrapF .i64 ((wrapF .u64 ((wrapF .u64 (guess_164 * (wrapF .u64 (gt v5 x_197)))) + carry_196)).tmod 1000000000))))), (136, aI64 (v5.length : Int)), (137, aI64 x_197), (165, aB (decide ((wrapF .i64 ((wrapF .i64 ((wrapF .i64 (gt u_194 (wrapF .i64 (x_197 + j_21)))) - borrow_195)) - (wrapF .i64 ((wrapF .u64 ((wrapF .u64 (guess_164 * (wrapF .u64 (gt v5 x_197)))) + carry_196)).tmod 1000000000)))) < 0)))] ?_
       refine .cd hr (fun hb209 hr => ?_) (fun hb209 hr => ?_)
       ·refine .r3 fine 266 [(4, .hs 0 0 q_19.length 1), (6, aU32 (wrapF .u32 (wrapF .u64 ((1000000000 : Int).tdiv (wrapF .u64 ((wrapF .u64 (gt b (wrapF .i64 ((b.length : Int) - 1)))) + 1)))))), (7, .hs 1 0 u_194.length 1), (8, .hs 2 0 v5.length 1), (9, aI64 (v5.length : Int)), (10, aI64 j_21), (12, aU64 guess_164), (14, aI64 1), (15, aU64 (wrapF .u64 ((wrapF .u64 ((wrapF .u64 (guess_164 * (wrapF .u64 (gt v5 x_197)))) + carry_196)).tdiv 1000000000))), (16, aI64 x_197), (18, aI64 (wrapF .i64 ((wrapF .i64 ((wrapF .i64 ((wrapF .i64 (gt u_194 (wrapF .i64 (x_197 + j_21)))) - borrow_195)) - (wrapF .i64 ((wrapF .u64 ((wrapF .u64 (guess_164 * (wrapF .u64 (gt v5 x_197)))) + carry_196)).tmod 1000000000)))) + 1000000000))), (136, aI64 (v5.length : Int)), (137, aI64 x_197)] <| .r0 fine <| .mu 6 <| .p0 (v := .hp 1 (0 + (wrapF .i64 (x_197 + j_21)).toNat * 1)) (Eq.trans (b := ORes.ofP (guardV (inR (wrapF .i64 (x_197 + j_21)) u_194.length) (.hp 1 (0 + (wrapF .i64 (x_197 + j_21)).toNat * 1)))) (by kernel_rfl) (ofP_guard hg208)) <| .e0 (v := .unk) (ws := [(1, .own ((u_194.set (wrapF .i64 (x_197 + j_21)).toNat (wrapF .u32 (wrapF .i64 ((wrapF .i64 ((wrapF .i64 ((wrapF .i64 (gt u_194 (wrapF .i64 (x_197 + j_21)))) - borrow_195)) - (wrapF .i64 ((wrapF .u64 ((wrapF .u64 (guess_164 * (wrapF .u64 (gt v5 x_197)))) + carry_196)).tmod 1000000000)))) + 1000000000)))).flatMap (iC .u32)))]) (Eq.trans (b := stO (decide ((0 + (wrapF .i64 (x_197 + j_21)).toNat * 1) + 1 ≤ (u_194.flatMap (iC .u32)).length) && true) [(1, .own (setCells (u_194.flatMap (iC .u32)) (0 + (wrapF .i64 (x_197 + j_21)).toNat * 1) [aU32 (wrapF .u32 (wrapF .i64 ((wrapF .i64 ((wrapF .i64 ((wrapF .i64 (gt u_194 (wrapF .i64 (x_197 + j_21)))) - borrow_195)) - (wrapF .i64 ((wrapF .u64 ((wrapF .u64 (guess_164 * (wrapF .u64 (gt v5 x_197)))) + carry_196)).tmod 1000000000)))) + 1000000000)))]))]) (by kernel_rfl) (stO_t (and_t (flat_fits (iC_len _) (inR_lt hg208) (Nat.le_of_ble_eq_true rfl) (by omega : 0 + (wrapF .i64 (x_197 + j_21)).toNat * 1 = (wrapF .i64 (x_197 + j_21)).toNat * 1 + 0))) (congrArg Blk.own (flat_set (iC_len _) (inR_lt hg208) (Nat.le_of_ble_eq_true rfl) (by omega : 0 + (wrapF .i64 (x_197 + j_21)).toNat * 1 = (wrapF .i64 (x_197 + j_21)).toNat * 1 + 0) (by kernel_rfl))))) <| .done <| .pop <| .ru fine ?_
        exact loopF_back (u_194.set (wrapF .i64 (x_197 + j_21)).toNat (wrapF .u32 (wrapF .i64 ((wrapF .i64 ((wrapF .i64 ((wrapF .i64 (gt u_194 (wrapF .i64 (x_197 + j_21)))) - borrow_195)) - (wrapF .i64 ((wrapF .u64 ((wrapF .u64 (guess_164 * (wrapF .u64 (gt v5 x_197)))) + carry_196)).tmod 1000000000)))) + 1000000000))), 1, wrapF .u64 ((wrapF .u64 ((wrapF .u64 (guess_164 * (wrapF .u64 (gt v5 x_197)))) + carry_196)).tdiv 1000000000), wrapF .i64 (x_197 + 1)) hr ((Wk.relen 7 (b := 1) (es := 1) (len := u_194.length) (u_194.set (wrapF .i64 (x_197 + j_21)).toNat (wrapF .u32 (wrapF .i64 ((wrapF .i64 ((wrapF .i64 ((wrapF .i64 (gt u_194 (wrapF .i64 (x_197 + j_21)))) - borrow_195)) - (wrapF .i64 ((wrapF .u64 ((wrapF .u64 (guess_164 * (wrapF .u64 (gt v5 x_197)))) + carry_196)).tmod 1000000000)))) + 1000000000)))).length (by kernel_rfl) (Eq.symm (List.length_set.trans rfl))).trans ((Wk.gc [4, 6, 7, 8, 9, 10, 12, 14, 15, 136, 137] [(0, false), (1, false), (2, false)] rfl (pKo (iC .u32) (iC_pure _) q_19 (pKo (iC .u32) (iC_pure _) (u_194.set (wrapF .i64 (x_197 + j_21)).toNat (wrapF .u32 (wrapF .i64 ((wrapF .i64 ((wrapF .i64 ((wrapF .i64 (gt u_194 (wrapF .i64 (x_197 + j_21)))) - borrow_195)) - (wrapF .i64 ((wrapF .u64 ((wrapF .u64 (guess_164 * (wrapF .u64 (gt v5 x_197)))) + carry_196)).tmod 1000000000)))) + 1000000000)))) (pKo (iC .u32) (iC_pure _) v5 trivial)))).to (by kernel_rfl)))
       ·refine .skip <| .r0 fine <| .mu 6 <| .p0 (v := .hp 1 (0 + (wrapF .i64 (x_197 + j_21)).toNat * 1)) (Eq.trans (b := ORes.ofP (guardV (inR (wrapF .i64 (x_197 + j_21)) u_194.length) (.hp 1 (0 + (wrapF .i64 (x_197 + j_21)).toNat * 1)))) (by kernel_rfl) (ofP_guard hg208)) <| .e0 (v := .unk) (ws := [(1, .own ((u_194.set (wrapF .i64 (x_197 + j_21)).toNat (wrapF .u32 (wrapF .i64 ((wrapF .i64 ((wrapF .i64 (gt u_194 (wrapF .i64 (x_197 + j_21)))) - borrow_195)) - (wrapF .i64 ((wrapF .u64 ((wrapF .u64 (guess_164 * (wrapF .u64 (gt v5 x_197)))) + carry_196)).tmod 1000000000)))))).flatMap (iC .u32)))]) (Eq.trans (b := stO (decide ((0 + (wrapF .i64 (x_197 + j_21)).toNat * 1) + 1 ≤ (u_194.flatMap (iC .u32)).length) && true) [(1, .own (setCells (u_194.flatMap (iC .u32)) (0 + (wrapF .i64 (x_197 + j_21)).toNat * 1) [aU32 (wrapF .u32 (wrapF .i64 ((wrapF .i64 ((wrapF .i64 (gt u_194 (wrapF .i64 (x_197 + j_21)))) - borrow_195)) - (wrapF .i64 ((wrapF .u64 ((wrapF .u64 (guess_164 * (wrapF .u64 (gt v5 x_197)))) + carry_196)).tmod 1000000000)))))]))]) (by kernel_rfl) (stO_t (and_t (flat_fits (iC_len _) (inR_lt hg208) (Nat.le_of_ble_eq_true rfl) (by omega : 0 + (wrapF .i64 (x_197 + j_21)).toNat * 1 = (wrapF .i64 (x_197 + j_21)).toNat * 1 + 0))) (congrArg Blk.own (flat_set (iC_len _) (inR_lt hg208) (Nat.le_of_ble_eq_true rfl) (by omega : 0 + (wrapF .i64 (x_197 + j_21)).toNat * 1 = (wrapF .i64 (x_197 + j_21)).toNat * 1 + 0) (by kernel_rfl))))) <| .done <| .pop <| .ru fine ?_
        exact loopF_back (u_194.set (wrapF .i64 (x_197 + j_21)).toNat (wrapF .u32 (wrapF .i64 ((wrapF .i64 ((wrapF .i64 (gt u_194 (wrapF .i64 (x_197 + j_21)))) - borrow_195)) - (wrapF .i64 ((wrapF .u64 ((wrapF .u64 (guess_164 * (wrapF .u64 (gt v5 x_197)))) + carry_196)).tmod 1000000000))))), 0, wrapF .u64 ((wrapF .u64 ((wrapF .u64 (guess_164 * (wrapF .u64 (gt v5 x_197)))) + carry_196)).tdiv 1000000000), wrapF .i64 (x_197 + 1)) hr ((Wk.relen 7 (b := 1) (es := 1) (len := u_194.length) (u_194.set (wrapF .i64 (x_197 + j_21)).toNat (wrapF .u32 (wrapF .i64 ((wrapF .i64 ((wrapF .i64 (gt u_194 (wrapF .i64 (x_197 + j_21)))) - borrow_195)) - (wrapF .i64 ((wrapF .u64 ((wrapF .u64 (guess_164 * (wrapF .u64 (gt v5 x_197)))) + carry_196)).tmod 1000000000)))))).length (by kernel_rfl) (Eq.symm (List.length_set.trans rfl))).trans ((Wk.gc [4, 6, 7, 8, 9, 10, 12, 14, 15, 136, 137] [(0, false), (1, false), (2, false)] rfl (pKo (iC .u32) (iC_pure _) q_19 (pKo (iC .u32) (iC_pure _) (u_194.set (wrapF .i64 (x_197 + j_21)).toNat (wrapF .u32 (wrapF .i64 ((wrapF .i64 ((wrapF .i64 (gt u_194 (wrapF .i64 (x_197 + j_21)))) - borrow_195)) - (wrapF .i64 ((wrapF .u64 ((wrapF .u64 (guess_164 * (wrapF .u64 (gt v5 x_197)))) + carry_196)).tmod 1000000000)))))) (pKo (iC .u32) (iC_pure _) v5 trivial)))).to (by kernel_rfl)))
      ·refine .leave rfl ?_
       obtain rfl := Option.some.inj hr
       exact ⟨rfl, ((Wk.gc [4, 6, 7, 8, 9, 10, 12, 14, 15] [(0, false), (1, false), (2, false)] rfl (pKo (iC .u32) (iC_pure _) q_19 (pKo (iC .u32) (iC_pure _) u_194 (pKo (iC .u32) (iC_pure _) v5 trivial)))).to (by kernel_rfl))⟩
     ·rcases o210 with ⟨u_202, borrow_203, carry_204⟩
      rintro x st' hq212
      clear hL211
      obtain ⟨rfl, hq212⟩ := hq212
      refine CQ_exit _ rfl <| .wk hq212 <| .seq ?_
      obtain ⟨hg213, hr⟩ := gd hr
      refine .r0 fine <| .mu 4 <| .p0 (v := .hp 1 (0 + (wrapF .i64 (j_21 + (v5.length : Int))).toNat * 1)) (Eq.trans (b := ORes.ofP (guardV (inR (wrapF .i64 (j_21 + (v5.length : Int))) u_202.length) (.hp 1 (0 + (wrapF .i64 (j_21 + (v5.length : Int))).toNat * 1)))) (by kernel_rfl) (ofP_guard hg213)) <| .p0 (v := aU32 (gt u_202 (wrapF .i64 (j_21 + (v5.length : Int))))) (Eq.trans (b := ORes.ofP ((u_202.flatMap (iC .u32))[0 + (wrapF .i64 (j_21 + (v5.length : Int))).toNat * 1]?)) (by kernel_rfl) (ofP_some (flat_get (iC_len _) (inR_lt hg213) (by decide : 0 < 1) (by omega : 0 + (wrapF .i64 (j_21 + (v5.length : Int))).toNat * 1 = (wrapF .i64 (j_21 + (v5.length : Int))).toNat * 1 + 0) (by kernel_rfl)))) <| .mu 7 <| .done <| .n2 266 [(4, .hs 0 0 q_19.length 1), (6, aU32 (wrapF .u32 (wrapF .u64 ((1000000000 : Int).tdiv (wrapF .u64 ((wrapF .u64 (gt b (wrapF .i64 ((b.length : Int) - 1)))) + 1)))))), (7, .hs 1 0 u_202.length 1), (8, .hs 2 0 v5.length 1), (9, aI64 (v5.length : Int)), (10, aI64 j_21), (12, aU64 guess_164), (19, aI64 (wrapF .i64 ((wrapF .i64 ((wrapF .i64 (gt u_202 (wrapF .i64 (j_21 + (v5.length : Int))))) - borrow_203)) - (wrapF .i64 carry_204))))] [.own (q_19.flatMap (iC .u32)), .own (u_202.flatMap (iC .u32)), .own (v5.flatMap (iC .u32))] <| .seq <| .seq <| .r3 fine 266 [(4, .hs 0 0 q_19.length 1), (6, aU32 (wrapF .u32 (wrapF .u64 ((1000000000 : Int).tdiv (wrapF .u64 ((wrapF .u64 (gt b (wrapF .i64 ((b.length : Int) - 1)))) + 1)))))), (7, .hs 1 0 u_202.length 1), (8, .hs 2 0 v5.length 1), (9, aI64 (v5.length : Int)), (10, aI64 j_21), (12, aU64 guess_164), (19, aI64 (wrapF .i64 ((wrapF .i64 ((wrapF .i64 (gt u_202 (wrapF .i64 (j_21 + (v5.length : Int))))) - borrow_203)) - (wrapF .i64 carry_204)))), (189, aB (decide ((wrapF .i64 ((wrapF .i64 ((wrapF .i64 (gt u_202 (wrapF .i64 (j_21 + (v5.length : Int))))) - borrow_203)) - (wrapF .i64 carry_204))) < 0)))] ?_
      refine .cd hr (fun hb214 hr => ?_) (fun hb214 hr => ?_)
      ·refine .seq <| .r0 fine <| .mu 7 <| .p0 (v := .hp 1 (0 + (wrapF .i64 (j_21 + (v5.length : Int))).toNat * 1)) (Eq.trans (b := ORes.ofP (guardV (inR (wrapF .i64 (j_21 + (v5.length : Int))) u_202.length) (.hp 1 (0 + (wrapF .i64 (j_21 + (v5.length : Int))).toNat * 1)))) (by kernel_rfl) (ofP_guard hg213)) <| .e0 (v := .unk) (ws := [(1, .own ((u_202.set (wrapF .i64 (j_21 + (v5.length : Int))).toNat (wrapF .u32 (wrapF .i64 ((wrapF .i64 ((wrapF .i64 ((wrapF .i64 (gt u_202 (wrapF .i64 (j_21 + (v5.length : Int))))) - borrow_203)) - (wrapF .i64 carry_204))) + 1000000000)))).flatMap (iC .u32)))]) (Eq.trans (b := stO (decide ((0 + (wrapF .i64 (j_21 + (v5.length : Int))).toNat * 1) + 1 ≤ (u_202.flatMap (iC .u32)).length) && true) [(1, .own (setCells (u_202.flatMap (iC .u32)) (0 + (wrapF .i64 (j_21 + (v5.length : Int))).toNat * 1) [aU32 (wrapF .u32 (wrapF .i64 ((wrapF .i64 ((wrapF .i64 ((wrapF .i64 (gt u_202 (wrapF .i64 (j_21 + (v5.length : Int))))) - borrow_203)) - (wrapF .i64 carry_204))) + 1000000000)))]))]) (by kernel_rfl) (stO_t (and_t (flat_fits (iC_len _) (inR_lt hg213) (Nat.le_of_ble_eq_true rfl) (by omega : 0 + (wrapF .i64 (j_21 + (v5.length : Int))).toNat * 1 = (wrapF .i64 (j_21 + (v5.length : Int))).toNat * 1 + 0))) (congrArg Blk.own (flat_set (iC_len _) (inR_lt hg213) (Nat.le_of_ble_eq_true rfl) (by omega : 0 + (wrapF .i64 (j_21 + (v5.length : Int))).toNat * 1 = (wrapF .i64 (j_21 + (v5.length : Int))).toNat * 1 + 0) (by kernel_rfl))))) <| .done <| .n2 266 [(4, .hs 0 0 q_19.length 1), (6, aU32 (wrapF .u32 (wrapF .u64 ((1000000000 : Int).tdiv (wrapF .u64 ((wrapF .u64 (gt b (wrapF .i64 ((b.length : Int) - 1)))) + 1)))))), (7, .hs 1 0 u_202.length 1), (8, .hs 2 0 v5.length 1), (9, aI64 (v5.length : Int)), (10, aI64 j_21), (12, aU64 guess_164)] [.own (q_19.flatMap (iC .u32)), .own ((u_202.set (wrapF .i64 (j_21 + (v5.length : Int))).toNat (wrapF .u32 (wrapF .i64 ((wrapF .i64 ((wrapF .i64 ((wrapF .i64 (gt u_202 (wrapF .i64 (j_21 + (v5.length : Int))))) - borrow_203)) - (wrapF .i64 carry_204))) + 1000000000)))).flatMap (iC .u32)), .own (v5.flatMap (iC .u32))] <| .seq <| .r3 fine 266 [(4, .hs 0 0 q_19.length 1), (6, aU32 (wrapF .u32 (wrapF .u64 ((1000000000 : Int).tdiv (wrapF .u64 ((wrapF .u64 (gt b (wrapF .i64 ((b.length : Int) - 1)))) + 1)))))), (7, .hs 1 0 u_202.length 1), (8, .hs 2 0 v5.length 1), (9, aI64 (v5.length : Int)), (10, aI64 j_21), (12, aU64 (wrapF .u64 (guess_164 - 1)))] <| .seq <| .r3 fine 266 [(4, .hs 0 0 q_19.length 1), (6, aU32 (wrapF .u32 (wrapF .u64 ((1000000000 : Int).tdiv (wrapF .u64 ((wrapF .u64 (gt b (wrapF .i64 ((b.length : Int) - 1)))) + 1)))))), (7, .hs 1 0 u_202.length 1), (8, .hs 2 0 v5.length 1), (9, aI64 (v5.length : Int)), (10, aI64 j_21), (12, aU64 (wrapF .u64 (guess_164 - 1))), (20, aU32 0)] <| .seq <| .seq <| .r3 fine 266 [(4, .hs 0 0 q_19.length 1), (6, aU32 (wrapF .u32 (wrapF .u64 ((1000000000 : Int).tdiv (wrapF .u64 ((wrapF .u64 (gt b (wrapF .i64 ((b.length : Int) - 1)))) + 1)))))), (7, .hs 1 0 u_202.length 1), (8, .hs 2 0 v5.length 1), (9, aI64 (v5.length : Int)), (10, aI64 j_21), (12, aU64 (wrapF .u64 (guess_164 - 1))), (20, aU32 0), (200, aI64 (v5.length : Int)), (201, aI64 0)] <| .block ?_
       replace hr := bd hr; obtain ⟨o229, hL230, hr⟩ := hr
       refine .loopO (σ := fun z0 => match z0 with | (u_215, c_216, x_217) => ⟨mkS 266 0 [(4, .hs 0 0 q_19.length 1), (6, aU32 (wrapF .u32 (wrapF .u64 ((1000000000 : Int).tdiv (wrapF .u64 ((wrapF .u64 (gt b (wrapF .i64 ((b.length : Int) - 1)))) + 1)))))), (7, .hs 1 0 u_215.length 1), (8, .hs 2 0 v5.length 1), (9, aI64 (v5.length : Int)), (10, aI64 j_21), (12, aU64 (wrapF .u64 (guess_164 - 1))), (20, aU32 c_216), (200, aI64 (v5.length : Int)), (201, aI64 x_217)], [.own (q_19.flatMap (iC .u32)), .own (u_215.flatMap (iC .u32)), .own (v5.flatMap (iC .u32))]⟩) (Q := fun x st' => match (generalizing := false) o229 with | (u_222, c_223) => x = .exit 6 ∧ Wk 0 st' ⟨mkS 266 0 [(4, .hs 0 0 q_19.length 1), (6, aU32 (wrapF .u32 (wrapF .u64 ((1000000000 : Int).tdiv (wrapF .u64 ((wrapF .u64 (gt b (wrapF .i64 ((b.length : Int) - 1)))) + 1)))))), (7, .hs 1 0 u_222.length 1), (8, .hs 2 0 v5.length 1), (9, aI64 (v5.length : Int)), (10, aI64 j_21), (12, aU64 (wrapF .u64 (guess_164 - 1))), (20, aU32 c_223)], [.own (q_19.flatMap (iC .u32)), .own (u_222.flatMap (iC .u32)), .own (v5.flatMap (iC .u32))]⟩) hL230 ((Wk.relen 7 (b := 1) (es := 1) (len := u_202.length) (u_202.set (wrapF .i64 (j_21 + (v5.length : Int))).toNat (wrapF .u32 (wrapF .i64 ((wrapF .i64 ((wrapF .i64 ((wrapF .i64 (gt u_202 (wrapF .i64 (j_21 + (v5.length : Int))))) - borrow_203)) - (wrapF .i64 carry_204))) + 1000000000)))).length (by kernel_rfl) (Eq.symm (List.length_set.trans rfl))).trans ((Wk.gc [4, 6, 7, 8, 9, 10, 12, 20, 200, 201] [(0, false), (1, false), (2, false)] rfl (pKo (iC .u32) (iC_pure _) q_19 (pKo (iC .u32) (iC_pure _) (u_202.set (wrapF .i64 (j_21 + (v5.length : Int))).toNat (wrapF .u32 (wrapF .i64 ((wrapF .i64 ((wrapF .i64 ((wrapF .i64 (gt u_202 (wrapF .i64 (j_21 + (v5.length : Int))))) - borrow_203)) - (wrapF .i64 carry_204))) + 1000000000)))) (pKo (iC .u32) (iC_pure _) v5 trivial)))).to (by kernel_rfl))) ?_ ?_
       ·clear hr
        rintro m ⟨u_215, c_216, x_217⟩ hr
        show CQ _ _ _ _ _ ⟨_, _⟩
        refine .seq <| .r3 fine 266 [(4, .hs 0 0 q_19.length 1), (6, aU32 (wrapF .u32 (wrapF .u64 ((1000000000 : Int).tdiv (wrapF .u64 ((wrapF .u64 (gt b (wrapF .i64 ((b.length : Int) - 1)))) + 1)))))), (7, .hs 1 0 u_215.length 1), (8, .hs 2 0 v5.length 1), (9, aI64 (v5.length : Int)), (10, aI64 j_21), (12, aU64 (wrapF .u64 (guess_164 - 1))), (20, aU32 c_216), (200, aI64 (v5.length : Int)), (201, aI64 x_217), (202, aB (decide (x_217 < (v5.length : Int))))] <| .seq ?_
        refine .cd hr (fun hb225 hr => ?_) (fun hb225 hr => ?_)
        ·refine .skip <| .seq <| .block <| .seq <| .r3 fine 266 [(4, .hs 0 0 q_19.length 1), (6, aU32 (wrapF .u32 (wrapF .u64 ((1000000000 : Int).tdiv (wrapF .u64 ((wrapF .u64 (gt b (wrapF .i64 ((b.length : Int) - 1)))) + 1)))))), (7, .hs 1 0 u_215.length 1), (8, .hs 2 0 v5.length 1), (9, aI64 (v5.length : Int)), (10, aI64 j_21), (12, aU64 (wrapF .u64 (guess_164 - 1))), (20, aU32 c_216), (21, aI64 x_217), (200, aI64 (v5.length : Int)), (201, aI64 x_217)] <| .seq ?_
         obtain ⟨hg226, hg227, hr⟩ := gd2 hr
         refine .regionT fine callOf_nil <| .mu 4 <| .pure (v := .hp 1 (0 + (wrapF .i64 (x_217 + j_21)).toNat * 1)) (by kernel_rfl) (Eq.trans (b := ORes.ofP (guardV (inR (wrapF .i64 (x_217 + j_21)) u_215.length) (.hp 1 (0 + (wrapF .i64 (x_217 + j_21)).toNat * 1)))) (by kernel_rfl) (ofP_guard hg226)) (by kernel_rfl) <| .pure (v := aU32 (gt u_215 (wrapF .i64 (x_217 + j_21)))) (by kernel_rfl) (Eq.trans (b := ORes.ofP ((u_215.flatMap (iC .u32))[0 + (wrapF .i64 (x_217 + j_21)).toNat * 1]?)) (by kernel_rfl) (ofP_some (flat_get (iC_len _) (inR_lt hg226) (by decide : 0 < 1) (by omega : 0 + (wrapF .i64 (x_217 + j_21)).toNat * 1 = (wrapF .i64 (x_217 + j_21)).toNat * 1 + 0) (by kernel_rfl)))) (by kernel_rfl) <| .mu 2 <| .pure (v := .hp 2 (0 + x_217.toNat * 1)) (by kernel_rfl) (Eq.trans (b := ORes.ofP (guardV (inR x_217 v5.length) (.hp 2 (0 + x_217.toNat * 1)))) (by kernel_rfl) (ofP_guard hg227)) (by kernel_rfl) <| .pure (v := aU32 (gt v5 x_217)) (by kernel_rfl) (Eq.trans (b := ORes.ofP ((v5.flatMap (iC .u32))[0 + x_217.toNat * 1]?)) (by kernel_rfl) (ofP_some (flat_get (iC_len _) (inR_lt hg227) (by decide : 0 < 1) (by omega : 0 + x_217.toNat * 1 = x_217.toNat * 1 + 0) (by kernel_rfl)))) (by kernel_rfl) <| .mu 4 ?_
         refine .done ⟨by kernel_rfl, ?_⟩
         refine .n2 266 [(4, .hs 0 0 q_19.length 1), (6, aU32 (wrapF .u32 (wrapF .u64 ((1000000000 : Int).tdiv (wrapF .u64 ((wrapF .u64 (gt b (wrapF .i64 ((b.length : Int) - 1)))) + 1)))))), (7, .hs 1 0 u_215.length 1), (8, .hs 2 0 v5.length 1), (9, aI64 (v5.length : Int)), (10, aI64 j_21), (12, aU64 (wrapF .u64 (guess_164 - 1))), (21, aI64 x_217), (22, aU32 (wrapF .u32 ((wrapF .u32 ((gt u_215 (wrapF .i64 (x_217 + j_21))) + (gt v5 x_217))) + c_216))), (200, aI64 (v5.length : Int)), (201, aI64 x_217)] [.own (q_19.flatMap (iC .u32)), .own (u_215.flatMap (iC .u32)), .own (v5.flatMap (iC .u32))] <| .seq <| .r3 fine 266 [(4, .hs 0 0 q_19.length 1), (6, aU32 (wrapF .u32 (wrapF .u64 ((1000000000 : Int).tdiv (wrapF .u64 ((wrapF .u64 (gt b (wrapF .i64 ((b.length : Int) - 1)))) + 1)))))), (7, .hs 1 0 u_215.length 1), (8, .hs 2 0 v5.length 1), (9, aI64 (v5.length : Int)), (10, aI64 j_21), (12, aU64 (wrapF .u64 (guess_164 - 1))), (20, aU32 0), (21, aI64 x_217), (22, aU32 (wrapF .u32 ((wrapF .u32 ((gt u_215 (wrapF .i64 (x_217 + j_21))) + (gt v5 x_217))) + c_216))), (200, aI64 (v5.length : Int)), (201, aI64 x_217)] <| .seq <| .seq <| .r3 fine 266 [(4, .hs 0 0 q_19.length 1), (6, aU32 (wrapF .u32 (wrapF .u64 ((1000000000 : Int).tdiv (wrapF .u64 ((wrapF .u64 (gt b (wrapF .i64 ((b.length : Int) - 1)))) + 1)))))), (7, .hs 1 0 u_215.length 1), (8, .hs 2 0 v5.length 1), (9, aI64 (v5.length : Int)), (10, aI64 j_21), (12, aU64 (wrapF .u64 (guess_164 - 1))), (20, aU32 0), (21, aI64 x_217), (22, aU32 (wrapF .u32 ((wrapF .u32 ((gt u_215 (wrapF .i64 (x_217 + j_21))) + (gt v5 x_217))) + c_216))), (200, aI64 (v5.length : Int)), (201, aI64 x_217), (218, aB (decide ((wrapF .u32 ((wrapF .u32 ((gt u_215 (wrapF .i64 (x_217 + j_21))) + (gt v5 x_217))) + c_216)) ≥ 1000000000)))] ?_
         refine .cd hr (fun hb228 hr => ?_) (fun hb228 hr => ?_)
         ·refine .r3 fine 266 [(4, .hs 0 0 q_19.length 1), (6, aU32 (wrapF .u32 (wrapF .u64 ((1000000000 : Int).tdiv (wrapF .u64 ((wrapF .u64 (gt b (wrapF .i64 ((b.length : Int) - 1)))) + 1)))))), (7, .hs 1 0 u_215.length 1), (8, .hs 2 0 v5.length 1), (9, aI64 (v5.length : Int)), (10, aI64 j_21), (12, aU64 (wrapF .u64 (guess_164 - 1))), (20, aU32 1), (21, aI64 x_217), (22, aU32 (wrapF .u32 ((wrapF .u32 ((wrapF .u32 ((gt u_215 (wrapF .i64 (x_217 + j_21))) + (gt v5 x_217))) + c_216)) - 1000000000))), (200, aI64 (v5.length : Int)), (201, aI64 x_217)] <| .r0 fine <| .mu 5 <| .p0 (v := .hp 1 (0 + (wrapF .i64 (x_217 + j_21)).toNat * 1)) (Eq.trans (b := ORes.ofP (guardV (inR (wrapF .i64 (x_217 + j_21)) u_215.length) (.hp 1 (0 + (wrapF .i64 (x_217 + j_21)).toNat * 1)))) (by kernel_rfl) (ofP_guard hg226)) <| .e0 (v := .unk) (ws := [(1, .own ((u_215.set (wrapF .i64 (x_217 + j_21)).toNat (wrapF .u32 ((wrapF .u32 ((wrapF .u32 ((gt u_215 (wrapF .i64 (x_217 + j_21))) + (gt v5 x_217))) + c_216)) - 1000000000))).flatMap (iC .u32)))]) (Eq.trans (b := stO (decide ((0 + (wrapF .i64 (x_217 + j_21)).toNat * 1) + 1 ≤ (u_215.flatMap (iC .u32)).length) && true) [(1, .own (setCells (u_215.flatMap (iC .u32)) (0 + (wrapF .i64 (x_217 + j_21)).toNat * 1) [aU32 (wrapF .u32 ((wrapF .u32 ((wrapF .u32 ((gt u_215 (wrapF .i64 (x_217 + j_21))) + (gt v5 x_217))) + c_216)) - 1000000000))]))]) (by kernel_rfl) (stO_t (and_t (flat_fits (iC_len _) (inR_lt hg226) (Nat.le_of_ble_eq_true rfl) (by omega : 0 + (wrapF .i64 (x_217 + j_21)).toNat * 1 = (wrapF .i64 (x_217 + j_21)).toNat * 1 + 0))) (congrArg Blk.own (flat_set (iC_len _) (inR_lt hg226) (Nat.le_of_ble_eq_true rfl) (by omega : 0 + (wrapF .i64 (x_217 + j_21)).toNat * 1 = (wrapF .i64 (x_217 + j_21)).toNat * 1 + 0) (by kernel_rfl))))) <| .done <| .pop <| .ru fine ?_
          exact loopF_back (u_215.set (wrapF .i64 (x_217 + j_21)).toNat (wrapF .u32 ((wrapF .u32 ((wrapF .u32 ((gt u_215 (wrapF .i64 (x_217 + j_21))) + (gt v5 x_217))) + c_216)) - 1000000000)), 1, wrapF .i64 (x_217 + 1)) hr ((Wk.relen 7 (b := 1) (es := 1) (len := u_215.length) (u_215.set (wrapF .i64 (x_217 + j_21)).toNat (wrapF .u32 ((wrapF .u32 ((wrapF .u32 ((gt u_215 (wrapF .i64 (x_217 + j_21))) + (gt v5 x_217))) + c_216)) - 1000000000))).length (by kernel_rfl) (Eq.symm (List.length_set.trans rfl))).trans ((Wk.gc [4, 6, 7, 8, 9, 10, 12, 20, 200, 201] [(0, false), (1, false), (2, false)] rfl (pKo (iC .u32) (iC_pure _) q_19 (pKo (iC .u32) (iC_pure _) (u_215.set (wrapF .i64 (x_217 + j_21)).toNat (wrapF .u32 ((wrapF .u32 ((wrapF .u32 ((gt u_215 (wrapF .i64 (x_217 + j_21))) + (gt v5 x_217))) + c_216)) - 1000000000))) (pKo (iC .u32) (iC_pure _) v5 trivial)))).to (by kernel_rfl)))
         ·refine .skip <| .r0 fine <| .mu 5 <| .p0 (v := .hp 1 (0 + (wrapF .i64 (x_217 + j_21)).toNat * 1)) (Eq.trans (b := ORes.ofP (guardV (inR (wrapF .i64 (x_217 + j_21)) u_215.length) (.hp 1 (0 + (wrapF .i64 (x_217 + j_21)).toNat * 1)))) (by kernel_rfl) (ofP_guard hg226)) <| .e0 (v := .unk) (ws := [(1, .own ((u_215.set (wrapF .i64 (x_217 + j_21)).toNat (wrapF .u32 ((wrapF .u32 ((gt u_215 (wrapF .i64 (x_217 + j_21))) + (gt v5 x_217))) + c_216))).flatMap (iC .u32)))]) (Eq.trans (b := stO (decide ((0 + (wrapF .i64 (x_217 + j_21)).toNat * 1) + 1 ≤ (u_215.flatMap (iC .u32)).length) && true) [(1, .own (setCells (u_215.flatMap (iC .u32)) (0 + (wrapF .i64 (x_217 + j_21)).toNat * 1) [aU32 (wrapF .u32 ((wrapF .u32 ((gt u_215 (wrapF .i64 (x_217 + j_21))) + (gt v5 x_217))) + c_216))]))]) (by kernel_rfl) (stO_t (and_t (flat_fits (iC_len _) (inR_lt hg226) (Nat.le_of_ble_eq_true rfl) (by omega : 0 + (wrapF .i64 (x_217 + j_21)).toNat * 1 = (wrapF .i64 (x_217 + j_21)).toNat * 1 + 0))) (congrArg Blk.own (flat_set (iC_len _) (inR_lt hg226) (Nat.le_of_ble_eq_true rfl) (by omega : 0 + (wrapF .i64 (x_217 + j_21)).toNat * 1 = (wrapF .i64 (x_217 + j_21)).toNat * 1 + 0) (by kernel_rfl))))) <| .done <| .pop <| .ru fine ?_
          exact loopF_back (u_215.set (wrapF .i64 (x_217 + j_21)).toNat (wrapF .u32 ((wrapF .u32 ((gt u_215 (wrapF .i64 (x_217 + j_21))) + (gt v5 x_217))) + c_216)), 0, wrapF .i64 (x_217 + 1)) hr ((Wk.relen 7 (b := 1) (es := 1) (len := u_215.length) (u_215.set (wrapF .i64 (x_217 + j_21)).toNat (wrapF .u32 ((wrapF .u32 ((gt u_215 (wrapF .i64 (x_217 + j_21))) + (gt v5 x_217))) + c_216))).length (by kernel_rfl) (Eq.symm (List.length_set.trans rfl))).trans ((Wk.gc [4, 6, 7, 8, 9, 10, 12, 20, 200, 201] [(0, false), (1, false), (2, false)] rfl (pKo (iC .u32) (iC_pure _) q_19 (pKo (iC .u32) (iC_pure _) (u_215.set (wrapF .i64 (x_217 + j_21)).toNat (wrapF .u32 ((wrapF .u32 ((gt u_215 (wrapF .i64 (x_217 + j_21))) + (gt v5 x_217))) + c_216))) (pKo (iC .u32) (iC_pure _) v5 trivial)))).to (by kernel_rfl)))
        ·refine .leave rfl ?_
         obtain rfl := Option.some.inj hr
         exact ⟨rfl, ((Wk.gc [4, 6, 7, 8, 9, 10, 12, 20] [(0, false), (1, false), (2, false)] rfl (pKo (iC .u32) (iC_pure _) q_19 (pKo (iC .u32) (iC_pure _) u_215 (pKo (iC .u32) (iC_pure _) v5 trivial)))).to (by kernel_rfl))⟩
       ·rcases o229 with ⟨u_222, c_223⟩
        rintro x st' hq231
        clear hL230
        obtain ⟨rfl, hq231⟩ := hq231
        refine CQ_exit _ rfl <| .wk hq231 ?_
        obtain ⟨hg232, hr⟩ := gd hr
        refine .r0 fine <| .mu 8 <| .p0 (v := .hp 1 (0 + (wrapF .i64 (j_21 + (v5.length : Int))).toNat * 1)) (Eq.trans (b := ORes.ofP (guardV (inR (wrapF .i64 (j_21 + (v5.length : Int))) u_222.length) (.hp 1 (0 + (wrapF .i64 (j_21 + (v5.length : Int))).toNat * 1)))) (by kernel_rfl) (ofP_guard hg232)) <| .p0 (v := aU32 (gt u_222 (wrapF .i64 (j_21 + (v5.length : Int))))) (Eq.trans (b := ORes.ofP ((u_222.flatMap (iC .u32))[0 + (wrapF .i64 (j_21 + (v5.length : Int))).toNat * 1]?)) (by kernel_rfl) (ofP_some (flat_get (iC_len _) (inR_lt hg232) (by decide : 0 < 1) (by omega : 0 + (wrapF .i64 (j_21 + (v5.length : Int))).toNat * 1 = (wrapF .i64 (j_21 + (v5.length : Int))).toNat * 1 + 0) (by kernel_rfl)))) <| .mu 3 <| .p0 (v := .hp 1 (0 + (wrapF .i64 (j_21 + (v5.length : Int))).toNat * 1)) (Eq.trans (b := ORes.ofP (guardV (inR (wrapF .i64 (j_21 + (v5.length : Int))) u_222.length) (.hp 1 (0 + (wrapF .i64 (j_21 + (v5.length : Int))).toNat * 1)))) (by kernel_rfl) (ofP_guard hg232)) <| .e0 (v := .unk) (ws := [(1, .own ((u_222.set (wrapF .i64 (j_21 + (v5.length : Int))).toNat ((wrapF .u32 ((gt u_222 (wrapF .i64 (j_21 + (v5.length : Int)))) + c_223)).tmod 1000000000)).flatMap (iC .u32)))]) (Eq.trans (b := stO (decide ((0 + (wrapF .i64 (j_21 + (v5.length : Int))).toNat * 1) + 1 ≤ (u_222.flatMap (iC .u32)).length) && true) [(1, .own (setCells (u_222.flatMap (iC .u32)) (0 + (wrapF .i64 (j_21 + (v5.length : Int))).toNat * 1) [aU32 ((wrapF .u32 ((gt u_222 (wrapF .i64 (j_21 + (v5.length : Int)))) + c_223)).tmod 1000000000)]))]) (by kernel_rfl) (stO_t (and_t (flat_fits (iC_len _) (inR_lt hg232) (Nat.le_of_ble_eq_true rfl) (by omega : 0 + (wrapF .i64 (j_21 + (v5.length : Int))).toNat * 1 = (wrapF .i64 (j_21 + (v5.length : Int))).toNat * 1 + 0))) (congrArg Blk.own (flat_set (iC_len _) (inR_lt hg232) (Nat.le_of_ble_eq_true rfl) (by omega : 0 + (wrapF .i64 (j_21 + (v5.length : Int))).toNat * 1 = (wrapF .i64 (j_21 + (v5.length : Int))).toNat * 1 + 0) (by kernel_rfl))))) <| .done <| .n2 266 [(4, .hs 0 0 q_19.length 1), (6, aU32 (wrapF .u32 (wrapF .u64 ((1000000000 : Int).tdiv (wrapF .u64 ((wrapF .u64 (gt b (wrapF .i64 ((b.length : Int) - 1)))) + 1)))))), (7, .hs 1 0 u_222.length 1), (8, .hs 2 0 v5.length 1), (9, aI64 (v5.length : Int)), (10, aI64 j_21), (12, aU64 (wrapF .u64 (guess_164 - 1)))] [.own (q_19.flatMap (iC .u32)), .own ((u_222.set (wrapF .i64 (j_21 + (v5.length : Int))).toNat ((wrapF .u32 ((gt u_222 (wrapF .i64 (j_21 + (v5.length : Int)))) + c_223)).tmod 1000000000)).flatMap (iC .u32)), .own (v5.flatMap (iC .u32))] ?_
        obtain ⟨hg233, hr⟩ := gd hr
        refine .r0 fine <| .mu 4 <| .p0 (v := .hp 0 (0 + j_21.toNat * 1)) (Eq.trans (b := ORes.ofP (guardV (inR j_21 q_19.length) (.hp 0 (0 + j_21.toNat * 1)))) (by kernel_rfl) (ofP_guard hg233)) <| .e0 (v := .unk) (ws := [(0, .own ((q_19.set j_21.toNat (wrapF .u32 (wrapF .u64 (guess_164 - 1)))).flatMap (iC .u32)))]) (Eq.trans (b := stO (decide ((0 + j_21.toNat * 1) + 1 ≤ (q_19.flatMap (iC .u32)).length) && true) [(0, .own (setCells (q_19.flatMap (iC .u32)) (0 + j_21.toNat * 1) [aU32 (wrapF .u32 (wrapF .u64 (guess_164 - 1)))]))]) (by kernel_rfl) (stO_t (and_t (flat_fits (iC_len _) (inR_lt hg233) (Nat.le_of_ble_eq_true rfl) (by omega : 0 + j_21.toNat * 1 = j_21.toNat * 1 + 0))) (congrArg Blk.own (flat_set (iC_len _) (inR_lt hg233) (Nat.le_of_ble_eq_true rfl) (by omega : 0 + j_21.toNat * 1 = j_21.toNat * 1 + 0) (by kernel_rfl))))) <| .done <| .pop <| .ru fine ?_
        exact loopF_back (q_19.set j_21.toNat (wrapF .u32 (wrapF .u64 (guess_164 - 1))), u_222.set (wrapF .i64 (j_21 + (v5.length : Int))).toNat ((wrapF .u32 ((gt u_222 (wrapF .i64 (j_21 + (v5.length : Int)))) + c_223)).tmod 1000000000), wrapF .i64 (j_21 - 1)) hr ((Wk.relen 4 (b := 0) (es := 1) (len := q_19.length) (q_19.set j_21.toNat (wrapF .u32 (wrapF .u64 (guess_164 - 1)))).length (by kernel_rfl) (Eq.symm (List.length_set.trans rfl))).trans ((Wk.relen 7 (b := 1) (es := 1) (len := u_222.length) (u_222.set (wrapF .i64 (j_21 + (v5.length : Int))).toNat ((wrapF .u32 ((gt u_222 (wrapF .i64 (j_21 + (v5.length : Int)))) + c_223)).tmod 1000000000)).length (by kernel_rfl) (Eq.symm (List.length_set.trans rfl))).trans ((Wk.gc [4, 6, 7, 8, 9, 10] [(0, false), (1, false), (2, false)] rfl (pKo (iC .u32) (iC_pure _) (q_19.set j_21.toNat (wrapF .u32 (wrapF .u64 (guess_164 - 1)))) (pKo (iC .u32) (iC_pure _) (u_222.set (wrapF .i64 (j_21 + (v5.length : Int))).toNat ((wrapF .u32 ((gt u_222 (wrapF .i64 (j_21 + (v5.length : Int)))) + c_223)).tmod 1000000000)) (pKo (iC .u32) (iC_pure _) v5 trivial)))).to (by kernel_rfl))))
      ·refine .r0 fine <| .mu 6 <| .p0 (v := .hp 1 (0 + (wrapF .i64 (j_21 + (v5.length : Int))).toNat * 1)) (Eq.trans (b := ORes.ofP (guardV (inR (wrapF .i64 (j_21 + (v5.length : Int))) u_202.length) (.hp 1 (0 + (wrapF .i64 (j_21 + (v5.length : Int))).toNat * 1)))) (by kernel_rfl) (ofP_guard hg213)) <| .e0 (v := .unk) (ws := [(1, .own ((u_202.set (wrapF .i64 (j_21 + (v5.length : Int))).toNat (wrapF .u32 (wrapF .i64 ((wrapF .i64 ((wrapF .i64 (gt u_202 (wrapF .i64 (j_21 + (v5.length : Int))))) - borrow_203)) - (wrapF .i64 carry_204))))).flatMap (iC .u32)))]) (Eq.trans (b := stO (decide ((0 + (wrapF .i64 (j_21 + (v5.length : Int))).toNat * 1) + 1 ≤ (u_202.flatMap (iC .u32)).length) && true) [(1, .own (setCells (u_202.flatMap (iC .u32)) (0 + (wrapF .i64 (j_21 + (v5.length : Int))).toNat * 1) [aU32 (wrapF .u32 (wrapF .i64 ((wrapF .i64 ((wrapF .i64 (gt u_202 (wrapF .i64 (j_21 + (v5.length : Int))))) - borrow_203)) - (wrapF .i64 carry_204))))]))]) (by kernel_rfl) (stO_t (and_t (flat_fits (iC_len _) (inR_lt hg213) (Nat.le_of_ble_eq_true rfl) (by omega : 0 + (wrapF .i64 (j_21 + (v5.length : Int))).toNat * 1 = (wrapF .i64 (j_21 + (v5.length : Int))).toNat * 1 + 0))) (congrArg Blk.own (flat_set (iC_len _) (inR_lt hg213) (Nat.le_of_ble_eq_true rfl) (by omega : 0 + (wrapF .i64 (j_21 + (v5.length : Int))).toNat * 1 = (wrapF .i64 (j_21 + (v5.length : Int))).toNat * 1 + 0) (by kernel_rfl))))) <| .done <| .n2 266 [(4, .hs 0 0 q_19.length 1), (6, aU32 (wrapF .u32 (wrapF .u64 ((1000000000 : Int).tdiv (wrapF .u64 ((wrapF .u64 (gt b (wrapF .i64 ((b.length : Int) - 1)))) + 1)))))), (7, .hs 1 0 u_202.length 1), (8, .hs 2 0 v5.length 1), (9, aI64 (v5.length : Int)), (10, aI64 j_21), (12, aU64 guess_164)] [.own (q_19.flatMap (iC .u32)), .own ((u_202.set (wrapF .i64 (j_21 + (v5.length : Int))).toNat (wrapF .u32 (wrapF .i64 ((wrapF .i64 ((wrapF .i64 (gt u_202 (wrapF .i64 (j_21 + (v5.length : Int))))) - borrow_203)) - (wrapF .i64 carry_204))))).flatMap (iC .u32)), .own (v5.flatMap (iC .u32))] ?_
       obtain ⟨hg234, hr⟩ := gd hr
       refine .r0 fine <| .mu 4 <| .p0 (v := .hp 0 (0 + j_21.toNat * 1)) (Eq.trans (b := ORes.ofP (guardV (inR j_21 q_19.length) (.hp 0 (0 + j_21.toNat * 1)))) (by kernel_rfl) (ofP_guard hg234)) <| .e0 (v := .unk) (ws := [(0, .own ((q_19.set j_21.toNat (wrapF .u32 guess_164)).flatMap (iC .u32)))]) (Eq.trans (b := stO (decide ((0 + j_21.toNat * 1) + 1 ≤ (q_19.flatMap (iC .u32)).length) && true) [(0, .own (setCells (q_19.flatMap (iC .u32)) (0 + j_21.toNat * 1) [aU32 (wrapF .u32 guess_164)]))]) (by kernel_rfl) (stO_t (and_t (flat_fits (iC_len _) (inR_lt hg234) (Nat.le_of_ble_eq_true rfl) (by omega : 0 + j_21.toNat * 1 = j_21.toNat * 1 + 0))) (congrArg Blk.own (flat_set (iC_len _) (inR_lt hg234) (Nat.le_of_ble_eq_true rfl) (by omega : 0 + j_21.toNat * 1 = j_21.toNat * 1 + 0) (by kernel_rfl))))) <| .done <| .pop <| .ru fine ?_
       exact loopF_back (q_19.set j_21.toNat (wrapF .u32 guess_164), u_202.set (wrapF .i64 (j_21 + (v5.length : Int))).toNat (wrapF .u32 (wrapF .i64 ((wrapF .i64 ((wrapF .i64 (gt u_202 (wrapF .i64 (j_21 + (v5.length : Int))))) - borrow_203)) - (wrapF .i64 carry_204)))), wrapF .i64 (j_21 - 1)) hr ((Wk.relen 4 (b := 0) (es := 1) (len := q_19.length) (q_19.set j_21.toNat (wrapF .u32 guess_164)).length (by kernel_rfl) (Eq.symm (List.length_set.trans rfl))).trans ((Wk.relen 7 (b := 1) (es := 1) (len := u_202.length) (u_202.set (wrapF .i64 (j_21 + (v5.length : Int))).toNat (wrapF .u32 (wrapF .i64 ((wrapF .i64 ((wrapF .i64 (gt u_202 (wrapF .i64 (j_21 + (v5.length : Int))))) - borrow_203)) - (wrapF .i64 carry_204))))).length (by kernel_rfl) (Eq.symm (List.length_set.trans rfl))).trans ((Wk.gc [4, 6, 7, 8, 9, 10] [(0, false), (1, false), (2, false)] rfl (pKo (iC .u32) (iC_pure _) (q_19.set j_21.toNat (wrapF .u32 guess_164)) (pKo (iC .u32) (iC_pure _) (u_202.set (wrapF .i64 (j_21 + (v5.length : Int))).toNat (wrapF .u32 (wrapF .i64 ((wrapF .i64 ((wrapF .i64 (gt u_202 (wrapF .i64 (j_21 + (v5.length : Int))))) - borrow_203)) - (wrapF .i64 carry_204))))) (pKo (iC .u32) (iC_pure _) v5 trivial)))).to (by kernel_rfl))))
   ·refine .leave rfl ?_
    obtain rfl := Option.some.inj hr
    exact ⟨rfl, ((Wk.gc [4, 6, 7, 9] [(0, false), (1, false)] rfl (pKo (iC .u32) (iC_pure _) q_19 (pKo (iC .u32) (iC_pure _) u_20 trivial))).to (by kernel_rfl))⟩
  ·rcases o235 with ⟨q_127, u_128⟩
   rintro x st' hq237
   clear hL236
   obtain ⟨rfl, hq237⟩ := hq237
   refine CQ_exit _ rfl <| .wk hq237 <| .seq ?_
   obtain ⟨hg238, hr⟩ := gd hr
   obtain ⟨v239, hc240, v241, hc242, hr⟩ := bd2 hr
   refine .gn fine (ca1 (callOk_ref (args := [.hs 1 0 (v5.length : Int).toNat 1]) (l := [1]) (SnL.cons (Sn.hsk (iC_len _) (iC_pure _) (inS_le hg238) rfl (.inl rfl)) SnL.nil) (integer_trim_ok n (u_128.take (v5.length : Int).toNat) v239 hc240)) (ca4 [.own (q_127.flatMap (iC .u32)), .fix (u_128.flatMap (iC .u32))] (ok0 (integer_short_ok n v239 (wrapF .u32 (wrapF .u64 ((1000000000 : Int).tdiv (wrapF .u64 ((wrapF .u64 (gt b (wrapF .i64 ((b.length : Int) - 1)))) + 1))))) v241 hc242)))) <| .mu 2 <| .p0 (v := .hs 1 0 (v5.length : Int).toNat 1) (Eq.trans (b := slH (inS 0 (v5.length : Int) u_128.length) true ((0 : Int).toNat) ((v5.length : Int).toNat) (fun z1 z2 => .hs 1 (0 + z1 * 1) (z2 - z1) 1)) (by kernel_rfl) (slH_t hg238 (by kernel_rfl))) <| .ca cf0 <| .mu 1 <| .ca (cfF cf0) <| .mu 4 <| .done <| .n2 266 [(4, .hs 0 0 q_127.length 1), (5, sU32 v241.1)] [.own (q_127.flatMap (iC .u32)), .fix (u_128.flatMap (iC .u32))] <| .seq ?_
   obtain ⟨v243, hc244, hr⟩ := bd hr
   refine .g1 fine (callOk_ref (args := [.hs 0 0 q_127.length 1]) (l := [0]) (SnL.cons (Sn.hs rfl (.inl rfl) (SnC.pure (ids_flat (iC_pure _) _)) (fun h => flat_nil0 h)) SnL.nil) (integer_trim_ok n q_127 v243 hc244)) <| .mu 1 <| .ca cf0 <| .mu 3 <| .done <| .ret ?_
   obtain rfl := Option.some.inj hr
   exact FinQ.ret (vs := [sU32 v243, sU32 v241.1]) (by kernel_rfl) (Sn.tup (SnL.cons (Sn.pure rfl) (SnL.cons (Sn.pure rfl) SnL.nil)))

theorem integer_over_ok (n : Nat) (a : List Int) (b : List Int) (r : List Int × List Int) (hr : integer_over n a b = some r) : FnOk Tryz.prog 168 [sU32 a, sU32 b] (.tup [sU32 r.1, sU32 r.2]) := by
 unfold integer_over at hr
 refine FnOk.bd fine Tryz.func168 [.tmp 4, .tmp 5] ?_
 unfold Tryz.f168
 simp only [Option.getD_some]
 refine .seq <| .r3 fine 59 [(0, sU32 a), (1, sU32 b)] <| .seq <| .seq ?_
 obtain ⟨v1, hc2, hr⟩ := bd hr
 refine .g1 fine (ok0 (integer_compare_ok n a b v1 hc2)) <| .mu 2 <| .ca cf0 <| .mu 1 <| .done <| .n2 59 [(0, sU32 a), (1, sU32 b), (15, aB (decide (v1 < 0)))] [] ?_
 refine .cd hr (fun hb3 hr => ?_) (fun hb3 hr => ?_)
 ·refine .seq <| .r3 fine 59 [(4, nS), (5, sU32 a)] <| .ret ?_
  obtain rfl := Option.some.inj hr
  exact FinQ.ret (vs := [nS, sU32 a]) (by kernel_rfl) (Sn.tup (SnL.cons Sn.nilsl (SnL.cons (Sn.pure rfl) SnL.nil)))
 ·refine .skip <| .seq ?_
  obtain ⟨v4, hc5, hr⟩ := bd hr
  refine .g1 fine (ok0 (integer_word_ok n a v4 hc5)) <| .mu 1 <| .ca cf0 <| .mu 5 <| .done <| .n2 59 [(0, sU32 a), (1, sU32 b), (6, aU64 v4.1), (7, aB v4.2)] [] <| .seq ?_
  obtain ⟨v6, hc7, hr⟩ := bd hr
  refine .g1 fine (ok0 (integer_word_ok n b v6 hc7)) <| .mu 1 <| .ca cf0 <| .mu 5 <| .done <| .n2 59 [(0, sU32 a), (1, sU32 b), (6, aU64 v4.1), (7, aB v4.2), (8, aU64 v6.1), (9, aB v6.2)] [] <| .seq <| .seq ?_
  rcases Bool.eq_false_or_eq_true v4.2 with hb8 | hb8
  ·replace hr := cd_t hb8 hr
   refine .r0 fine <| .p0 (v := aB true) (Eq.trans (b := some (.pure (aB v4.2))) (by kernel_rfl) (by rw [hb8])) <| .mu 3 <| .done <| .n2 59 [(0, sU32 a), (1, sU32 b), (6, aU64 v4.1), (8, aU64 v6.1), (30, aB v6.2)] [] ?_
   refine .cd hr (fun hb9 hr => ?_) (fun hb9 hr => ?_)
   ·refine .seq ?_
    obtain ⟨hg10, hr⟩ := gd hr
    obtain ⟨v11, hc12, v13, hc14, hr⟩ := bd2 hr
    refine .tn fine (ca1 (ok0 (integer_split_ok n (wrapF .u64 (v4.1.tdiv v6.1)) v11 hc12)) (ca3 (ok0 (integer_split_ok n (v4.1.tmod v6.1) v13 hc14)))) <| .mu 2 <| .pure (v := aU64 (wrapF .u64 (v4.1.tdiv v6.1))) (by kernel_rfl) (op_quo (x := v4.1) (y := v6.1) (by kernel_rfl) (by kernel_rfl) hg10) (by kernel_rfl) <| .ca cf0 <| .mu 2 <| .pure (v := aU64 (v4.1.tmod v6.1)) (by kernel_rfl) (op_rem (x := v4.1) (y := v6.1) (by kernel_rfl) (by kernel_rfl) hg10) (by kernel_rfl) <| .ca (cfA (fun h => by rw [sv hc14 hc12 (integer_split_cg n h)]) cf0) <| .mu 2 ?_
    refine .done ⟨by kernel_rfl, ?_⟩
    refine .ret ?_
    obtain rfl := Option.some.inj hr
    exact FinQ.ret (vs := [sU32 v11, sU32 v13]) (by kernel_rfl) (Sn.tup (SnL.cons (Sn.pure rfl) (SnL.cons (Sn.pure rfl) SnL.nil)))
   ·refine .skip <| .seq <| .seq <| .r3 fine 59 [(0, sU32 a), (1, sU32 b), (41, aB (((b.length : Int) : Int) == 1))] ?_
    refine .cd hr (fun hb15 hr => ?_) (fun hb15 hr => ?_)
    ·refine .seq ?_
     obtain ⟨hg16, hr⟩ := gd hr
     obtain ⟨v17, hc18, hr⟩ := bd hr
     refine .g1 fine (ok0 (integer_short_ok n a (gt b 0) v17 hc18)) <| .mu 2 <| .p0 (v := .pp (b.flatMap (iC .u32)) ((0 : Int).toNat * 1)) (Eq.trans (b := ORes.ofP (guardV (inR 0 b.length) (.pp (b.flatMap (iC .u32)) ((0 : Int).toNat * 1)))) (by kernel_rfl) (ofP_guard hg16)) <| .p0 (v := aU32 (gt b 0)) (Eq.trans (b := ORes.ofP ((b.flatMap (iC .u32))[(0 : Int).toNat * 1]?)) (by kernel_rfl) (ofP_some (flat_get (iC_len _) (inR_lt hg16) (by decide : 0 < 1) (by omega : (0 : Int).toNat * 1 = (0 : Int).toNat * 1 + 0) (by kernel_rfl)))) <| .ca cf0 <| .mu 5 <| .done <| .n2 59 [(10, sU32 v17.1), (11, aU32 v17.2)] [] <| .seq ?_
     obtain ⟨v19, hc20, hr⟩ := bd hr
     refine .g1 fine (ok0 (integer_split_ok n (wrapF .u64 v17.2) v19 hc20)) <| .mu 3 <| .ca cf0 <| .mu 2 <| .done <| .ret ?_
     obtain rfl := Option.some.inj hr
     exact FinQ.ret (vs := [sU32 v17.1, sU32 v19]) (by kernel_rfl) (Sn.tup (SnL.cons (Sn.pure rfl) (SnL.cons (Sn.pure rfl) SnL.nil)))
    ·refine .skip <| .seq ?_
     obtain ⟨v21, hc22, hr⟩ := bd hr
     refine .g1 fine (ok0 (integer_long_ok n a b v21 hc22)) <| .mu 2 <| .ca cf0 <| .mu 4 <| .done <| .ret ?_
     obtain rfl := Option.some.inj hr
     exact FinQ.ret (vs := [sU32 v21.1, sU32 v21.2]) (by kernel_rfl) (Sn.tup (SnL.cons (Sn.pure rfl) (SnL.cons (Sn.pure rfl) SnL.nil)))
  ·replace hr := cd_f hb8 hr
   refine .r0 fine <| .p0 (v := aB false) (Eq.trans (b := some (.pure (aB v4.2))) (by kernel_rfl) (by rw [hb8])) <| .mu 3 <| .done <| .n2 59 [(0, sU32 a), (1, sU32 b), (6, aU64 v4.1), (8, aU64 v6.1), (30, aB false)] [] <| .cF (by kernel_rfl) <| .skip <| .seq <| .seq <| .r3 fine 59 [(0, sU32 a), (1, sU32 b), (41, aB (((b.length : Int) : Int) == 1))] ?_
   refine .cd hr (fun hb23 hr => ?_) (fun hb23 hr => ?_)
   ·refine .seq ?_
    obtain ⟨hg24, hr⟩ := gd hr
    obtain ⟨v25, hc26, hr⟩ := bd hr
    refine .g1 fine (ok0 (integer_short_ok n a (gt b 0) v25 hc26)) <| .mu 2 <| .p0 (v := .pp (b.flatMap (iC .u32)) ((0 : Int).toNat * 1)) (Eq.trans (b := ORes.ofP (guardV (inR 0 b.length) (.pp (b.flatMap (iC .u32)) ((0 : Int).toNat * 1)))) (by kernel_rfl) (ofP_guard hg24)) <| .p0 (v := aU32 (gt b 0)) (Eq.trans (b := ORes.ofP ((b.flatMap (iC .u32))[(0 : Int).toNat * 1]?)) (by kernel_rfl) (ofP_some (flat_get (iC_len _) (inR_lt hg24) (by decide : 0 < 1) (by omega : (0 : Int).toNat * 1 = (0 : Int).toNat * 1 + 0) (by kernel_rfl)))) <| .ca cf0 <| .mu 5 <| .done <| .n2 59 [(10, sU32 v25.1), (11, aU32 v25.2)] [] <| .seq ?_
    obtain ⟨v27, hc28, hr⟩ := bd hr
    refine .g1 fine (ok0 (integer_split_ok n (wrapF .u64 v25.2) v27 hc28)) <| .mu 3 <| .ca cf0 <| .mu 2 <| .done <| .ret ?_
    obtain rfl := Option.some.inj hr
    exact FinQ.ret (vs := [sU32 v25.1, sU32 v27]) (by kernel_rfl) (Sn.tup (SnL.cons (Sn.pure rfl) (SnL.cons (Sn.pure rfl) SnL.nil)))
   ·refine .skip <| .seq ?_
    obtain ⟨v29, hc30, hr⟩ := bd hr
    refine .g1 fine (ok0 (integer_long_ok n a b v29 hc30)) <| .mu 2 <| .ca cf0 <| .mu 4 <| .done <| .ret ?_
    obtain rfl := Option.some.inj hr
    exact FinQ.ret (vs := [sU32 v29.1, sU32 v29.2]) (by kernel_rfl) (Sn.tup (SnL.cons (Sn.pure rfl) (SnL.cons (Sn.pure rfl) SnL.nil)))

theorem slices_Clone_uint32_uint32_ok (n : Nat) (s : List Int) (r : List Int) (hr : slices_Clone_uint32_uint32 n s = some r) : FnOk Tryz.prog 169 [sU32 s] (sU32 r) := by
 unfold slices_Clone_uint32_uint32 at hr
 refine FnOk.bd fine Tryz.func169 [.tmp 2] ?_
 unfold Tryz.f169
 simp only [Option.getD_some]
 refine .seq <| .r3 fine 8 [(0, sU32 s)] <| .seq <| .seq ?_
 refine .nilcase (t := 0) (cs := s.flatMap (iC .u32)) (len := s.length) (by kernel_rfl) (fun hn3 => ?_) ?_
 ·obtain rfl : s = [] := List.length_eq_zero_iff.1 hn3
  have hx := gd hr; clear hr; obtain ⟨_, hr⟩ := hx
  have hx := gd hr; clear hr; obtain ⟨_, hr⟩ := hx
  refine .r3 fine 8 [(0, nS), (4, aB true)] <| .cT (by kernel_rfl) <| .seq <| .r3 fine 8 [(2, nS)] <| .ret ?_
  obtain rfl := Option.some.inj hr
  exact FinQ.ret (vs := [nS]) (by kernel_rfl) Sn.nilsl
 ·refine .r3 fine 8 [(0, .sl false (s.flatMap (iC .u32)) s.length), (4, aB false)] <| .cF (by kernel_rfl) <| .skip <| .seq ?_
  obtain ⟨hg1, hg2, hr⟩ := gd2 hr
  refine .r0 fine <| .mu 2 <| .e0 (v := .hs 1 0 s.length 1) (ws := [(0, .dead), (1, .own (s.flatMap (iC .u32)))]) (Eq.trans (b := appS (decide (((s.flatMap (iC .u32))).length = s.length * 1)) (s.flatMap (iC .u32)) s.length (fun z1 z2 => guardO (decide (0 + 0 * 1 ≤ (([] : List Int).flatMap (iC .u32)).length) && decide ((0 + z2) * 4 ≤ 140737488355328) && decide (0 + z2 ≤ 4611686018427387904)) (some (.eff (.hs 1 0 (0 + z2) 1) [(0, .dead), (1, .own (((([] : List Int).flatMap (iC .u32)).drop 0).take (0 * 1) ++ z1))])))) (by kernel_rfl) (appS_t (flat_lenB (iC_len _)) rfl (app_own (l := ([] : List Int)) (xs := s) (iC_len _) rfl rfl rfl hg1 hg2))) <| .mu 1 <| .done <| .n2 8 [(2, .hs 1 0 s.length 1)] [.dead, .own (s.flatMap (iC .u32))] <| .ret ?_
  obtain rfl := Option.some.inj hr
  exact FinQ.ret (vs := [.hs 1 0 s.length 1]) (by kernel_rfl) (Sn.hs rfl (.inl rfl) (SnC.pure (ids_flat (iC_pure _) _)) (fun h => flat_nil0 h))

theorem integer_Gcd_ok (n : Nat) (x' : api_Int) (y : api_Int) (r : api_Int) (hr : integer_Gcd n x' y = some r) : FnOk Tryz.prog 173 [.agg (api_Int.c x'), .agg (api_Int.c y)] (.agg (api_Int.c r)) := by
 unfold integer_Gcd at hr
 refine FnOk.bd fine Tryz.func173 [.cell 4 72] ?_
 unfold Tryz.f173
 simp only [Option.getD_some]
 refine .seq <| .r2 fine 54 [(2, .hp 0 0), (3, .hp 1 0), (4, .hp 2 0)] [.own (api_Int.c x'), .own (api_Int.c y), .own [aB false, nS]] <| .seq ?_
 obtain ⟨v1, hc2, v3, hc4, hr⟩ := bd2 hr
 refine .tn fine (ca1 (ok0 (integer_groups_ok n x' v1 hc2)) (ca3 (ok0 (integer_groups_ok n y v3 hc4)))) <| .mu 1 <| .ca cf0 <| .mu 1 <| .ca (cfA (fun h => by rw [sv hc4 hc2 (integer_groups_cg n h)]) cf0) <| .mu 2 ?_
 refine .done ⟨by kernel_rfl, ?_⟩
 refine .n2 54 [(4, .hp 2 0), (5, sU32 v1), (6, sU32 v3)] [.own (api_Int.c x'), .own (api_Int.c y), .own [aB false, nS]] <| .seq <| .block ?_
 replace hr := bd hr; obtain ⟨o61, hL62, hr⟩ := hr
 refine .loopO (σ := fun z0 => match z0 with | (a_5, b_6) => ⟨mkS 54 0 [(4, .hp 0 0), (5, sU32 a_5), (6, sU32 b_6)], [.own [aB false, nS]]⟩) (Q := fun x st' => match (generalizing := false) o61 with | .inl a_33 => x = .exit 0 ∧ Wk 0 st' ⟨mkS 54 0 [(4, .hp 0 0), (5, sU32 a_33)], [.own [aB false, nS]]⟩ | .inr (r0) => x = .ret ∧ FinQ Tryz.prog [.cell 4 72] (.agg (api_Int.c r0)) .ret st') hL62 ((Wk.gc [4, 5, 6] [(2, true)] rfl trivial).to (by kernel_rfl)) ?_ ?_
 ·clear hr
  rintro m ⟨a_5, b_6⟩ hr
  show CQ _ _ _ _ _ ⟨_, _⟩
  refine .seq <| .seq <| .r3 fine 54 [(4, .hp 0 0), (5, sU32 a_5), (6, sU32 b_6), (19, aB (decide ((b_6.length : Int) > 0)))] ?_
  refine .cd hr (fun hb35 hr => ?_) (fun hb35 hr => ?_)
  ·refine .skip <| .block <| .seq ?_
   obtain ⟨v36, hc37, hr⟩ := bd hr
   refine .g1 fine (ok0 (integer_word_ok n a_5 v36 hc37)) <| .mu 1 <| .ca cf0 <| .mu 5 <| .done <| .n2 54 [(4, .hp 0 0), (5, sU32 a_5), (6, sU32 b_6), (7, aU64 v36.1), (8, aB v36.2)] [.own [aB false, nS]] <| .seq ?_
   obtain ⟨v38, hc39, hr⟩ := bd hr
   refine .g1 fine (ok0 (integer_word_ok n b_6 v38 hc39)) <| .mu 1 <| .ca cf0 <| .mu 5 <| .done <| .n2 54 [(4, .hp 0 0), (5, sU32 a_5), (6, sU32 b_6), (7, aU64 v36.1), (8, aB v36.2), (9, aU64 v38.1), (10, aB v38.2)] [.own [aB false, nS]] <| .seq <| .seq ?_
   rcases Bool.eq_false_or_eq_true v36.2 with hb40 | hb40
   ·replace hr := cd_t hb40 hr
    refine .r0 fine <| .p0 (v := aB true) (Eq.trans (b := some (.pure (aB v36.2))) (by kernel_rfl) (by rw [hb40])) <| .mu 3 <| .done <| .n2 54 [(4, .hp 0 0), (5, sU32 a_5), (6, sU32 b_6), (7, aU64 v36.1), (9, aU64 v38.1), (33, aB v38.2)] [.own [aB false, nS]] ?_
    refine .cd hr (fun hb41 hr => ?_) (fun hb41 hr => ?_)
    ·refine .seq <| .block ?_
     replace hr := bd hr; obtain ⟨m_46, hL51, hr⟩ := hr
     refine .loopO (σ := fun z0 => match z0 with | (m_42, n_43) => ⟨mkS 54 0 [(4, .hp 0 0), (7, aU64 m_42), (9, aU64 n_43)], [.own [aB false, nS]]⟩) (Q := fun x st' => x = .exit 2 ∧ Wk 0 st' ⟨mkS 54 0 [(4, .hp 0 0), (7, aU64 m_46)], [.own [aB false, nS]]⟩) hL51 ((Wk.gc [4, 7, 9] [(0, true)] rfl trivial).to (by kernel_rfl)) ?_ ?_
     ·clear hr
      rintro m ⟨m_42, n_43⟩ hr
      show CQ _ _ _ _ _ ⟨_, _⟩
      refine .seq <| .seq <| .r3 fine 54 [(4, .hp 0 0), (7, aU64 m_42), (9, aU64 n_43), (35, aB (decide (n_43 > 0)))] ?_
      refine .cd hr (fun hb48 hr => ?_) (fun hb48 hr => ?_)
      ·refine .skip <| .block ?_
       obtain ⟨hg49, hr⟩ := gd hr
       refine .regionT fine callOf_nil <| .mu 3 <| .pure (v := aU64 (m_42.tmod n_43)) (by kernel_rfl) (op_rem (x := m_42) (y := n_43) (by kernel_rfl) (by kernel_rfl) hg49) (by kernel_rfl) <| .mu 2 ?_
       refine .done ⟨by kernel_rfl, ?_⟩
       refine .pop ?_
       exact loopF_back (n_43, m_42.tmod n_43) hr ((Wk.gc [4, 7, 9] [(0, true)] rfl trivial).to (by kernel_rfl))
      ·refine .leave rfl ?_
       obtain rfl := Option.some.inj hr
       exact ⟨rfl, ((Wk.gc [4, 7] [(0, true)] rfl trivial).to (by kernel_rfl))⟩
     ·rintro x st' hq52
      clear hL51
      obtain ⟨rfl, hq52⟩ := hq52
      refine CQ_exit _ rfl <| .wk hq52 <| .seq ?_
      obtain ⟨v53, hc54, v55, hc56, hr⟩ := bd2 hr
      refine .gn fine (ca1 (ok0 (integer_split_ok n m_46 v53 hc54)) (ca3 (ok0 (integer_made_ok n false v53 v55 hc56)))) <| .mu 1 <| .ca cf0 <| .ca (cfF cf0) <| .mu 1 <| .done <| .n2 54 [(4, .hp 0 0)] [.own (api_Int.c v55)] <| .ret ?_
      obtain rfl := Option.some.inj hr
      exact ⟨rfl, FinQ.ret (vs := [.agg (api_Int.c v55)]) (by kernel_rfl) (Sn.pure rfl)⟩
    ·refine .skip <| .seq ?_
     obtain ⟨v57, hc58, hr⟩ := bd hr
     refine .g1 fine (ok0 (integer_over_ok n a_5 b_6 v57 hc58)) <| .mu 2 <| .ca cf0 <| .mu 5 <| .done <| .n2 54 [(4, .hp 0 0), (6, sU32 b_6), (12, sU32 v57.2)] [.own [aB false, nS]] <| .ru fine <| .pop ?_
     exact loopF_back (b_6, v57.2) hr ((Wk.gc [4, 5, 6] [(0, true)] rfl trivial).to (by kernel_rfl))
   ·replace hr := cd_f hb40 hr
    refine .r0 fine <| .p0 (v := aB false) (Eq.trans (b := some (.pure (aB v36.2))) (by kernel_rfl) (by rw [hb40])) <| .mu 3 <| .done <| .n2 54 [(4, .hp 0 0), (5, sU32 a_5), (6, sU32 b_6), (7, aU64 v36.1), (9, aU64 v38.1), (33, aB false)] [.own [aB false, nS]] <| .cF (by kernel_rfl) <| .skip <| .seq ?_
    obtain ⟨v59, hc60, hr⟩ := bd hr
    refine .g1 fine (ok0 (integer_over_ok n a_5 b_6 v59 hc60)) <| .mu 2 <| .ca cf0 <| .mu 5 <| .done <| .n2 54 [(4, .hp 0 0), (6, sU32 b_6), (12, sU32 v59.2)] [.own [aB false, nS]] <| .ru fine <| .pop ?_
    exact loopF_back (b_6, v59.2) hr ((Wk.gc [4, 5, 6] [(0, true)] rfl trivial).to (by kernel_rfl))
  ·refine .leave rfl ?_
   obtain rfl := Option.some.inj hr
   exact ⟨rfl, ((Wk.gc [4, 5] [(0, true)] rfl trivial).to (by kernel_rfl))⟩
 ·rcases o61 with a_33 | r0
  ·rintro x st' hq63
   clear hL62
   obtain ⟨rfl, hq63⟩ := hq63
   refine CQ_exit _ rfl <| .wk hq63 <| .seq ?_
   obtain ⟨v64, hc65, v66, hc67, hr⟩ := bd2 hr
   refine .gn fine (ca1 (ok0 (slices_Clone_uint32_uint32_ok n a_33 v64 hc65)) (ca3 (ok0 (integer_made_ok n false v64 v66 hc67)))) <| .mu 1 <| .ca cf0 <| .ca (cfF cf0) <| .mu 1 <| .done <| .n2 54 [(4, .hp 0 0)] [.own (api_Int.c v66)] <| .ret ?_
   obtain rfl := Option.some.inj hr
   exact FinQ.r1 [.agg (api_Int.c v66)]
  ·rintro x st' hq63
   clear hL62
   obtain ⟨rfl, hq63⟩ := hq63
   obtain rfl := Option.some.inj hr
   exact CQ_ret _ hq63

theorem cmp_isNaN_int_ok (n : Nat) (x' : Int) (r : Bool) (hr : cmp_isNaN_int n x' = some r) : FnOk Tryz.prog 122 [aI64 x'] (aB r) := by
 unfold cmp_isNaN_int at hr
 refine FnOk.bd fine Tryz.func122 [.tmp 2] ?_
 unfold Tryz.f122
 simp only [Option.getD_some]
 refine .seq <| .r3 fine 6 [(0, aI64 x')] <| .seq <| .ru fine <| .ret ?_
 obtain rfl := Option.some.inj hr
 exact FinQ.r1 [aB ((x' : Int) != x')]

theorem cmp_Compare_int_ok (n : Nat) (x' : Int) (y : Int) (r : Int) (hr : cmp_Compare_int n x' y = some r) : FnOk Tryz.prog 72 [aI64 x', aI64 y] (aI64 r) := by
 unfold cmp_Compare_int at hr
 refine FnOk.bd fine Tryz.func72 [.tmp 4] ?_
 unfold Tryz.f72
 simp only [Option.getD_some]
 refine .seq <| .r3 fine 20 [(0, aI64 x'), (1, aI64 y)] <| .seq ?_
 obtain ⟨v1, hc2, hr⟩ := bd hr
 refine .g1 fine (ok0 (cmp_isNaN_int_ok n x' v1 hc2)) <| .mu 1 <| .ca cf0 <| .mu 1 <| .done <| .n2 20 [(0, aI64 x'), (1, aI64 y), (5, aB v1)] [] <| .seq ?_
 obtain ⟨v3, hc4, hr⟩ := bd hr
 refine .g1 fine (ok0 (cmp_isNaN_int_ok n y v3 hc4)) <| .mu 1 <| .ca cf0 <| .mu 1 <| .done <| .n2 20 [(0, aI64 x'), (1, aI64 y), (5, aB v1), (6, aB v3)] [] <| .seq <| .seq <| .r3 fine 20 [(0, aI64 x'), (1, aI64 y), (6, aB v3), (11, aB v1)] ?_
 refine .cd hr (fun hb5 hr => ?_) (fun hb5 hr => ?_)
 ·refine .seq <| .seq <| .r3 fine 20 [(12, aB v3)] ?_
  refine .cd hr (fun hb6 hr => ?_) (fun hb6 hr => ?_)
  ·refine .seq <| .ru fine <| .ret ?_
   obtain rfl := Option.some.inj hr
   exact FinQ.r1 [aI64 0]
  ·refine .skip <| .seq <| .ru fine <| .ret ?_
   obtain rfl := Option.some.inj hr
   exact FinQ.r1 [aI64 (-1)]
 ·refine .skip <| .seq <| .seq <| .r3 fine 20 [(0, aI64 x'), (1, aI64 y), (13, aB v3)] ?_
  refine .cd hr (fun hb7 hr => ?_) (fun hb7 hr => ?_)
  ·refine .seq <| .ru fine <| .ret ?_
   obtain rfl := Option.some.inj hr
   exact FinQ.r1 [aI64 1]
  ·refine .skip <| .seq <| .seq <| .r3 fine 20 [(0, aI64 x'), (1, aI64 y), (16, aB (decide (x' < y)))] ?_
   refine .cd hr (fun hb8 hr => ?_) (fun hb8 hr => ?_)
   ·refine .seq <| .ru fine <| .ret ?_
    obtain rfl := Option.some.inj hr
    exact FinQ.r1 [aI64 (-1)]
   ·refine .skip <| .seq <| .seq <| .r3 fine 20 [(19, aB (decide (x' > y)))] ?_
    refine .cd hr (fun hb9 hr => ?_) (fun hb9 hr => ?_)
    ·refine .seq <| .ru fine <| .ret ?_
     obtain rfl := Option.some.inj hr
     exact FinQ.r1 [aI64 1]
    ·refine .skip <| .seq <| .ru fine <| .ret ?_
     obtain rfl := Option.some.inj hr
     exact FinQ.r1 [aI64 0]

theorem integer_Compare_ok (n : Nat) (x' : api_Int) (y : api_Int) (r : Int) (hr : integer_Compare n x' y = some r) : FnOk Tryz.prog 206 [.agg (api_Int.c x'), .agg (api_Int.c y)] (aI64 r) := by
 unfold integer_Compare at hr
 refine FnOk.bd fine Tryz.func206 [.tmp 4] ?_
 unfold Tryz.f206
 simp only [Option.getD_some]
 refine .seq <| .r2 fine 28 [(2, .hp 0 0), (3, .hp 1 0)] [.own (api_Int.c x'), .own (api_Int.c y)] <| .seq <| .seq ?_
 obtain ⟨v1, hc2, v3, hc4, hr⟩ := bd2 hr
 refine .tn fine (ca1 (ok0 (integer_Sign_ok n x' v1 hc2)) (ca3 (ok0 (integer_Sign_ok n y v3 hc4)))) <| .mu 1 <| .ca cf0 <| .mu 1 <| .ca (cfA (fun h => by rw [sv hc4 hc2 (integer_Sign_cg n h)]) cf0) <| .mu 2 ?_
 refine .done ⟨by kernel_rfl, ?_⟩
 refine .n2 28 [(2, .hp 0 0), (3, .hp 1 0), (5, aI64 v1), (6, aI64 v3)] [.own (api_Int.c x'), .own (api_Int.c y)] <| .seq <| .r3 fine 28 [(2, .hp 0 0), (3, .hp 1 0), (5, aI64 v1), (6, aI64 v3), (14, aB ((v1 : Int) != v3))] ?_
 refine .cd hr (fun hb5 hr => ?_) (fun hb5 hr => ?_)
 ·refine .seq ?_
  obtain ⟨v6, hc7, hr⟩ := bd hr
  refine .g1 fine (ok0 (cmp_Compare_int_ok n v1 v3 v6 hc7)) <| .mu 2 <| .ca cf0 <| .mu 1 <| .done <| .ret ?_
  obtain rfl := Option.some.inj hr
  exact FinQ.r1 [aI64 v6]
 ·refine .skip <| .seq ?_
  obtain ⟨v8, hc9, v10, hc11, v12, hc13, hr⟩ := bd3 hr
  refine .tn fine (ca1 (ok0 (integer_groups_ok n x' v8 hc9)) (ca1 (ok0 (integer_groups_ok n y v10 hc11)) (ca3 (ok0 (integer_compare_ok n v8 v10 v12 hc13))))) <| .mu 1 <| .ca cf0 <| .mu 1 <| .ca (cfA (fun h => by rw [sv hc11 hc9 (integer_groups_cg n h)]) cf0) <| .ca (cfF (cfF cf0)) <| .mu 1 ?_
  refine .done ⟨by kernel_rfl, ?_⟩
  refine .n2 28 [(2, .hp 0 0), (7, aI64 v12)] [.own (api_Int.c x'), .own (api_Int.c y)] <| .seq <| .seq <| .r3 fine 28 [(7, aI64 v12), (24, aB x'.Negative)] ?_
  refine .cd hr (fun hb14 hr => ?_) (fun hb14 hr => ?_)
  ·refine .seq <| .r0 fine <| .mu 1 <| .p0 (v := aI64 (wrapF .i64 (0 - v12))) (Eq.trans (b := some (.pure (aI64 (IntKind.wrap .i64 (0 - v12))))) (by kernel_rfl) wrap_at) <| .mu 1 <| .done <| .ret ?_
   obtain rfl := Option.some.inj hr
   exact FinQ.r1 [aI64 (wrapF .i64 (0 - v12))]
  ·refine .skip <| .seq <| .ru fine <| .ret ?_
   obtain rfl := Option.some.inj hr
   exact FinQ.r1 [aI64 v12]

theorem fraction_Valid_ok (n : Nat) (x' : api_Rat) (r : Bool) (hr : fraction_Valid n x' = some r) : FnOk Tryz.prog 166 [.agg (api_Rat.c x')] (aB r) := by
 unfold fraction_Valid at hr
 refine FnOk.bd fine Tryz.func166 [.tmp 2] ?_
 unfold Tryz.f166
 simp only [Option.getD_some]
 refine .seq <| .r2 fine 27 [(1, .hp 0 0)] [.own (api_Rat.c x')] <| .seq <| .seq ?_
 obtain ⟨v1, hc2, hr⟩ := bd hr
 rcases Bool.eq_false_or_eq_true (!v1) with hb3 | hb3
 ·replace hr := cd_t hb3 hr
  refine .g1 fine (ok0 (integer_Valid_ok n x'.Num v1 hc2)) <| .mu 2 <| .ca cf0 <| .p0 (v := aB true) (Eq.trans (b := some (.pure (aB (!v1)))) (by kernel_rfl) (by rw [hb3])) <| .mu 12 <| .done <| .n2 27 [(1, .hp 0 0), (18, aB true)] [.own (api_Rat.c x')] <| .cT (by kernel_rfl) <| .seq <| .ru fine <| .ret ?_
  obtain rfl := Option.some.inj hr
  exact FinQ.r1 [aB false]
 ·replace hr := cd_f hb3 hr
  obtain ⟨v4, hc5, hr⟩ := bd hr
  rcases Bool.eq_false_or_eq_true (!v4) with hb6 | hb6
  ·replace hr := cd_t hb6 hr
   refine .gn fine (ca1 (ok0 (integer_Valid_ok n x'.Num v1 hc2)) (ca3 (ok0 (integer_Valid_ok n x'.Den v4 hc5)))) <| .mu 2 <| .ca cf0 <| .p0 (v := aB false) (Eq.trans (b := some (.pure (aB (!v1)))) (by kernel_rfl) (by rw [hb3])) <| .mu 3 <| .ca (cfA (fun h => by rw [sv hc5 hc2 (integer_Valid_cg n h)]) cf0) <| .pure (v := aB true) (by kernel_rfl) (Eq.trans (b := some (.pure (aB (!v4)))) (by kernel_rfl) (by rw [hb6])) <| .mu 7 <| .done <| .n2 27 [(1, .hp 0 0), (18, aB true)] [.own (api_Rat.c x')] <| .cT (by kernel_rfl) <| .seq <| .ru fine <| .ret ?_
   obtain rfl := Option.some.inj hr
   exact FinQ.r1 [aB false]
  ·replace hr := cd_f hb6 hr
   obtain ⟨v7, hc8, hr⟩ := bd hr
   refine .gn fine (ca1 (ok0 (integer_Valid_ok n x'.Num v1 hc2)) (ca1 (ok0 (integer_Valid_ok n x'.Den v4 hc5)) (ca3 (ok0 (integer_Sign_ok n x'.Den v7 hc8))))) <| .mu 2 <| .ca cf0 <| .p0 (v := aB false) (Eq.trans (b := some (.pure (aB (!v1)))) (by kernel_rfl) (by rw [hb3])) <| .mu 3 <| .ca (cfA (fun h => by rw [sv hc5 hc2 (integer_Valid_cg n h)]) cf0) <| .pure (v := aB false) (by kernel_rfl) (Eq.trans (b := some (.pure (aB (!v4)))) (by kernel_rfl) (by rw [hb6])) <| .mu 4 <| .ca (cfF (cfF cf0)) <| .mu 2 <| .done <| .n2 27 [(1, .hp 0 0), (18, aB (decide (v7 ≤ 0)))] [.own (api_Rat.c x')] ?_
   refine .cd hr (fun hb9 hr => ?_) (fun hb9 hr => ?_)
   ·refine .seq <| .ru fine <| .ret ?_
    obtain rfl := Option.some.inj hr
    exact FinQ.r1 [aB false]
   ·refine .skip <| .seq ?_
    obtain ⟨v10, hc11, v12, hc13, v14, hc15, hr⟩ := bd3 hr
    refine .gn fine (ca1 (ok0 (integer_Gcd_ok n x'.Num x'.Den v10 hc11)) (ca1 (ok0 (integer_Of_ok n 1 v12 hc13)) (ca3 (ok0 (integer_Compare_ok n v10 v12 v14 hc15))))) <| .mu 4 <| .ca cf0 <| .ca (cfF cf0) <| .ca (cfF (cfF cf0)) <| .mu 2 <| .done <| .ret ?_
    obtain rfl := Option.some.inj hr
    exact FinQ.r1 [aB ((v14 : Int) == 0)]

theorem integer_Neg_inj {x' : api_Int} {x'_ : api_Int} (h : ([.agg [.at (.bool x'.Negative), slT (iC .u32) x'.Groups]] : List AV) = [.agg [.at (.bool x'_.Negative), slT (iC .u32) x'_.Groups]]) : x' = x'_ := by
 obtain ⟨_, _⟩ := x'
 obtain ⟨_, _⟩ := x'_
 simp only [List.cons.injEq, AV.agg.injEq, AV.at.injEq, Value.int.injEq, Value.bool.injEq, AV.fn.injEq, AV.pp.injEq, true_and, and_true, slT_inj_int] at h
 simp_all
theorem integer_Neg_cg (n : Nat) {x' : api_Int} {x'_ : api_Int} (h : ([.agg [.at (.bool x'.Negative), slT (iC .u32) x'.Groups]] : List AV) = [.agg [.at (.bool x'_.Negative), slT (iC .u32) x'_.Groups]]) : integer_Neg n x' = integer_Neg n x'_ := by
 obtain rfl := integer_Neg_inj h
 rfl
theorem integer_Neg_ok (n : Nat) (x' : api_Int) (r : api_Int) (hr : integer_Neg n x' = some r) : FnOk Tryz.prog 172 [.agg (api_Int.c x')] (.agg (api_Int.c r)) := by
 unfold integer_Neg at hr
 refine FnOk.bd fine Tryz.func172 [.cell 2 72] ?_
 unfold Tryz.f172
 simp only [Option.getD_some]
 refine .seq <| .r2 fine 10 [(1, .hp 0 0), (2, .hp 1 0)] [.own (api_Int.c x'), .own [aB false, nS]] <| .seq ?_
 obtain ⟨v1, hc2, v3, hc4, v5, hc6, hr⟩ := bd3 hr
 refine .tn fine (ca1 (ok0 (integer_groups_ok n x' v1 hc2)) (ca1 (ok0 (slices_Clone_uint32_uint32_ok n v1 v3 hc4)) (ca3 (ok0 (integer_made_ok n (!x'.Negative) v3 v5 hc6))))) <| .mu 4 <| .ca cf0 <| .ca (cfF cf0) <| .ca (cfF (cfF cf0)) <| .mu 1 ?_
 refine .done ⟨by kernel_rfl, ?_⟩
 refine .n2 10 [(2, .hp 1 0)] [.own (api_Int.c x'), .own (api_Int.c v5)] <| .ret ?_
 obtain rfl := Option.some.inj hr
 exact FinQ.r1 [.agg (api_Int.c v5)]
end Go.L
