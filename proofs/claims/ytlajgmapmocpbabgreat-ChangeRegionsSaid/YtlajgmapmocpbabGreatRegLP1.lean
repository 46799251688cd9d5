/- The program's functions compute what the plain Lean programs compute, part 1; printed by a program. -/
import Derived.Test.YtlajgmapmocpbabGreatRegLD
import Derived.Test.YtlajgmapmocpbabGreatL0jnfiddma
import Derived.Test.YtlajgmapmocpbabGreatSortdabegomj
import Derived.Test.YtlajgmapmocpbabGreatChecked
import Derived.KernelRfl
set_option linter.unusedVariables false
set_option linter.unusedSimpArgs false
set_option maxRecDepth 100000
set_option maxHeartbeats 4000000
namespace Go.L
open Go Go.Eng Go.Proofs
theorem fiduciallaw59_banded_ok (n : Nat) (err : Int) (z : List Int) (r : api_Banded) (hr : fiduciallaw59_banded n err z = some r) : FnOk Tryz.prog 59 [aI64 err, sI64 z] (.agg (api_Banded.c r)) := by
 unfold fiduciallaw59_banded at hr
 refine FnOk.bd fine Tryz.func59 [.cell 4 56] ?_
 unfold Tryz.f59
 simp only [Option.getD_some]
 refine .seq <| .r2 fine 13 [(0, aI64 err), (1, sI64 z), (4, .hp 0 0)] [.own [aI64 0, aI64 0, aI64 0, aI64 0, aI64 0, nS, nS]] <| .seq <| .r2 fine 13 [(4, .hp 0 0)] [.own [aI64 0, aI64 0, aI64 2, aI64 2, aI64 2, sI64 z, .hs 1 0 4 1], .own [aI64 err, aI64 err, aI64 err, aI64 err]] <| .ret ?_
 obtain rfl := Option.some.inj hr
 exact FinQ.ret (vs := [.agg [aI64 0, aI64 0, aI64 2, aI64 2, aI64 2, sI64 z, .hs 1 0 4 1]]) (by kernel_rfl) (Sn.agg (SnL.cons (Sn.pure rfl) (SnL.cons (Sn.pure rfl) (SnL.cons (Sn.pure rfl) (SnL.cons (Sn.pure rfl) (SnL.cons (Sn.pure rfl) (SnL.cons (Sn.pure rfl) (SnL.cons (Sn.hs rfl (.inl rfl) (SnC.cons (Sn.pure rfl) (SnC.cons (Sn.pure rfl) (SnC.cons (Sn.pure rfl) (SnC.cons (Sn.pure rfl) SnC.nil)))) (fun h => nomatch h)) SnL.nil))))))))

theorem terrain_Check_1_inj {n' : Int} {n'_ : Int} (h : ([.at (.int .i64 n')] : List AV) = [.at (.int .i64 n'_)]) : n' = n'_ := by
 simp only [List.cons.injEq, AV.agg.injEq, AV.at.injEq, Value.int.injEq, Value.bool.injEq, AV.fn.injEq, AV.pp.injEq, true_and, and_true] at h
 simp_all
theorem terrain_Check_1_cg (n : Nat) {n' : Int} {n'_ : Int} (h : ([.at (.int .i64 n')] : List AV) = [.at (.int .i64 n'_)]) : terrain_Check_1 n n' = terrain_Check_1 n n'_ := by
 obtain rfl := terrain_Check_1_inj h
 rfl
theorem terrain_Check_1_ok (n : Nat) (n' : Int) (r : Bool) (hr : terrain_Check_1 n n' = some r) : FnOk Tryz.prog 184 [aI64 n'] (aB r) := by
 unfold terrain_Check_1 at hr
 refine FnOk.bd fine Tryz.func184 [.tmp 2] ?_
 unfold Tryz.f184
 simp only [Option.getD_some]
 refine .seq <| .r3 fine 9 [(0, aI64 n')] <| .seq ?_
 rcases Bool.eq_false_or_eq_true (decide (n' ≥ 2)) with hb1 | hb1
 ·replace hr := cd_t hb1 hr
  refine .r0 fine <| .mu 1 <| .p0 (v := aB true) (Eq.trans (b := some (.pure (aB (decide (n' ≥ 2))))) (by kernel_rfl) (by rw [hb1])) <| .mu 5 <| .done <| .ret ?_
  obtain rfl := Option.some.inj hr
  exact FinQ.r1 [aB (decide (n' ≤ 64))]
 ·replace hr := cd_f hb1 hr
  refine .r0 fine <| .mu 1 <| .p0 (v := aB false) (Eq.trans (b := some (.pure (aB (decide (n' ≥ 2))))) (by kernel_rfl) (by rw [hb1])) <| .mu 5 <| .done <| .ret ?_
  obtain rfl := Option.some.inj hr
  exact FinQ.r1 [aB false]

theorem terrain_far_inj {n' : Int} {n'_ : Int} (h : ([.at (.int .i64 n')] : List AV) = [.at (.int .i64 n'_)]) : n' = n'_ := by
 simp only [List.cons.injEq, AV.agg.injEq, AV.at.injEq, Value.int.injEq, Value.bool.injEq, AV.fn.injEq, AV.pp.injEq, true_and, and_true] at h
 simp_all
theorem terrain_far_cg (n : Nat) {n' : Int} {n'_ : Int} (h : ([.at (.int .i64 n')] : List AV) = [.at (.int .i64 n'_)]) : terrain_far n n' = terrain_far n n'_ := by
 obtain rfl := terrain_far_inj h
 rfl
theorem terrain_far_ok (n : Nat) (n' : Int) (r : Bool) (hr : terrain_far n n' = some r) : FnOk Tryz.prog 185 [aI64 n'] (aB r) := by
 unfold terrain_far at hr
 refine FnOk.bd fine Tryz.func185 [.tmp 2] ?_
 unfold Tryz.f185
 simp only [Option.getD_some]
 refine .seq <| .r3 fine 9 [(0, aI64 n')] <| .seq ?_
 rcases Bool.eq_false_or_eq_true (decide (n' < (-1048576))) with hb1 | hb1
 ·replace hr := cd_t hb1 hr
  refine .r0 fine <| .mu 1 <| .p0 (v := aB true) (Eq.trans (b := some (.pure (aB (decide (n' < (-1048576)))))) (by kernel_rfl) (by rw [hb1])) <| .mu 5 <| .done <| .ret ?_
  obtain rfl := Option.some.inj hr
  exact FinQ.r1 [aB true]
 ·replace hr := cd_f hb1 hr
  refine .r0 fine <| .mu 1 <| .p0 (v := aB false) (Eq.trans (b := some (.pure (aB (decide (n' < (-1048576)))))) (by kernel_rfl) (by rw [hb1])) <| .mu 5 <| .done <| .ret ?_
  obtain rfl := Option.some.inj hr
  exact FinQ.r1 [aB (decide (n' > 1048576))]

theorem terrain_Check_2_ok (n : Nat) (z : Int) (r : Bool) (hr : terrain_Check_2 n z = some r) : FnOk Tryz.prog 186 [aI64 z] (aB r) := by
 unfold terrain_Check_2 at hr
 refine FnOk.bd fine Tryz.func186 [.tmp 2] ?_
 unfold Tryz.f186
 simp only [Option.getD_some]
 refine .seq <| .r3 fine 9 [(0, aI64 z)] <| .seq ?_
 rcases Bool.eq_false_or_eq_true ((z : Int) != (-2147483648)) with hb1 | hb1
 ·replace hr := cd_t hb1 hr
  obtain ⟨v2, hc3, hr⟩ := bd hr
  refine .g1 fine (ok0 (terrain_far_ok n z v2 hc3)) <| .mu 1 <| .p0 (v := aB true) (Eq.trans (b := some (.pure (aB ((z : Int) != (-2147483648))))) (by kernel_rfl) (by rw [hb1])) <| .mu 2 <| .ca cf0 <| .mu 2 <| .done <| .ret ?_
  obtain rfl := Option.some.inj hr
  exact FinQ.r1 [aB v2]
 ·replace hr := cd_f hb1 hr
  refine .r0 fine <| .mu 1 <| .p0 (v := aB false) (Eq.trans (b := some (.pure (aB ((z : Int) != (-2147483648))))) (by kernel_rfl) (by rw [hb1])) <| .mu 5 <| .done <| .ret ?_
  obtain rfl := Option.some.inj hr
  exact FinQ.r1 [aB false]

theorem slices_IndexFunc_int_int_of_terrain_Check_2_ok (n : Nat) (s : List Int) (r : Int) (hr : slices_IndexFunc_int_int_of_terrain_Check_2 n s = some r) : FnOk Tryz.prog 174 [sI64 s, .fn 186 [] []] (aI64 r) := by
 unfold slices_IndexFunc_int_int_of_terrain_Check_2 at hr
 refine FnOk.bd fine Tryz.func174 [.tmp 4] ?_
 unfold Tryz.f174
 simp only [Option.getD_some]
 refine .seq <| .r3 fine 19 [(0, sI64 s), (1, .fn 186 [] [])] <| .seq <| .seq <| .r3 fine 19 [(0, sI64 s), (1, .fn 186 [] []), (7, aI64 (s.length : Int)), (8, aI64 0)] <| .block ?_
 replace hr := bd hr; obtain ⟨o13, hL14, hr⟩ := hr
 refine .loopO (σ := fun z0 => match z0 with | x_1 => ⟨mkS 19 0 [(0, sI64 s), (1, .fn 186 [] []), (7, aI64 (s.length : Int)), (8, aI64 x_1)], []⟩) (Q := fun x st' => match (generalizing := false) o13 with | .inl _ => x = .exit 0 ∧ Wk 0 st' ⟨mkS 19 0 [], []⟩ | .inr (r0) => x = .ret ∧ FinQ Tryz.prog [.tmp 4] (aI64 r0) .ret st') hL14 ((Wk.gc [0, 1, 7, 8] [] rfl pK0).to (by kernel_rfl)) ?_ ?_
 ·clear hr
  rintro m x_1 hr
  show CQ _ _ _ _ _ ⟨_, _⟩
  refine .seq <| .r3 fine 19 [(0, sI64 s), (1, .fn 186 [] []), (7, aI64 (s.length : Int)), (8, aI64 x_1), (9, aB (decide (x_1 < (s.length : Int))))] <| .seq ?_
  refine .cd hr (fun hb8 hr => ?_) (fun hb8 hr => ?_)
  ·refine .skip <| .seq <| .block <| .seq <| .r3 fine 19 [(0, sI64 s), (1, .fn 186 [] []), (5, aI64 x_1), (7, aI64 (s.length : Int)), (8, aI64 x_1)] <| .seq ?_
   obtain ⟨hg9, hr⟩ := gd hr
   obtain ⟨v10, hc11, hr⟩ := bd hr
   refine .g1 fine (ok0 (terrain_Check_2_ok n (gt s x_1) v10 hc11)) <| .mu 3 <| .p0 (v := .pp (s.flatMap (iC .i64)) (x_1.toNat * 1)) (Eq.trans (b := ORes.ofP (guardV (inR x_1 s.length) (.pp (s.flatMap (iC .i64)) (x_1.toNat * 1)))) (by kernel_rfl) (ofP_guard hg9)) <| .p0 (v := aI64 (gt s x_1)) (Eq.trans (b := ORes.ofP ((s.flatMap (iC .i64))[x_1.toNat * 1]?)) (by kernel_rfl) (ofP_some (flat_get (iC_len _) (inR_lt hg9) (by decide : 0 < 1) (by omega : x_1.toNat * 1 = x_1.toNat * 1 + 0) (by kernel_rfl)))) <| .ca cf0 <| .done <| .n2 19 [(0, sI64 s), (1, .fn 186 [] []), (5, aI64 x_1), (7, aI64 (s.length : Int)), (8, aI64 x_1), (16, aB v10)] [] ?_
   refine .cd hr (fun hb12 hr => ?_) (fun hb12 hr => ?_)
   ·refine .seq <| .ru fine <| .ret ?_
    obtain rfl := Option.some.inj hr
    exact ⟨rfl, FinQ.ret (vs := [aI64 x_1]) (by kernel_rfl) (Sn.pure rfl)⟩
   ·refine .skip <| .pop <| .ru fine ?_
    exact loopF_back (wrapF .i64 (x_1 + 1)) hr ((Wk.gc [0, 1, 7, 8] [] rfl pK0).to (by kernel_rfl))
  ·refine .leave rfl ?_
   obtain rfl := Option.some.inj hr
   exact ⟨rfl, ((Wk.gc [] [] rfl pK0).to (by kernel_rfl))⟩
 ·rcases o13 with ⟨⟩ | r0
  ·rintro x st' hq15
   clear hL14
   obtain ⟨rfl, hq15⟩ := hq15
   refine CQ_exit _ rfl <| .wk hq15 <| .seq <| .ru fine <| .ret ?_
   obtain rfl := Option.some.inj hr
   exact FinQ.r1 [aI64 (-1)]
  ·rintro x st' hq15
   clear hL14
   obtain ⟨rfl, hq15⟩ := hq15
   obtain rfl := Option.some.inj hr
   exact CQ_ret _ hq15

theorem slices_ContainsFunc_int_int_of_terrain_Check_2_ok (n : Nat) (s : List Int) (r : Bool) (hr : slices_ContainsFunc_int_int_of_terrain_Check_2 n s = some r) : FnOk Tryz.prog 129 [sI64 s, .fn 186 [] []] (aB r) := by
 unfold slices_ContainsFunc_int_int_of_terrain_Check_2 at hr
 refine FnOk.bd fine Tryz.func129 [.tmp 4] ?_
 unfold Tryz.f129
 simp only [Option.getD_some]
 refine .seq <| .r3 fine 9 [(0, sI64 s), (1, .fn 186 [] [])] <| .seq ?_
 obtain ⟨v1, hc2, hr⟩ := bd hr
 refine .g1 fine (ok0 (slices_IndexFunc_int_int_of_terrain_Check_2_ok n s v1 hc2)) <| .mu 2 <| .ca cf0 <| .mu 2 <| .done <| .ret ?_
 obtain rfl := Option.some.inj hr
 exact FinQ.r1 [aB (decide (v1 ≥ 0))]

theorem terrain_Check_ok (n : Nat) (g : api_Grid) (r : Int) (hr : terrain_Check n g = some r) : FnOk Tryz.prog 146 [.agg (api_Grid.c g)] (aI64 r) := by
 unfold terrain_Check at hr
 refine FnOk.bd fine Tryz.func146 [.tmp 2] ?_
 unfold Tryz.f146
 simp only [Option.getD_some]
 refine .seq <| .r2 fine 54 [(1, .hp 0 0)] [.own (api_Grid.c g)] <| .seq <| .r3 fine 54 [(1, .hp 0 0), (3, .fn 184 [] [])] <| .seq <| .seq ?_
 obtain ⟨v1, hc2, hr⟩ := bd hr
 rcases Bool.eq_false_or_eq_true (!v1) with hb3 | hb3
 ·replace hr := cd_t hb3 hr
  refine .g1 fine (ok0 (terrain_Check_1_ok n g.Width v1 hc2)) <| .mu 3 <| .ca cf0 <| .p0 (v := aB true) (Eq.trans (b := some (.pure (aB (!v1)))) (by kernel_rfl) (by rw [hb3])) <| .mu 33 <| .done <| .n2 54 [(1, .hp 0 0), (41, aB true)] [.own (api_Grid.c g)] <| .cT (by kernel_rfl) <| .seq <| .ru fine <| .ret ?_
  obtain rfl := Option.some.inj hr
  exact FinQ.r1 [aI64 2]
 ·replace hr := cd_f hb3 hr
  obtain ⟨v4, hc5, hr⟩ := bd hr
  rcases Bool.eq_false_or_eq_true (!v4) with hb6 | hb6
  ·replace hr := cd_t hb6 hr
   refine .gn fine (ca1 (ok0 (terrain_Check_1_ok n g.Width v1 hc2)) (ca3 (ok0 (terrain_Check_1_ok n g.Height v4 hc5)))) <| .mu 3 <| .ca cf0 <| .p0 (v := aB false) (Eq.trans (b := some (.pure (aB (!v1)))) (by kernel_rfl) (by rw [hb3])) <| .mu 4 <| .ca (cfA (fun h => by rw [sv hc5 hc2 (terrain_Check_1_cg n h)]) cf0) <| .pure (v := aB true) (by kernel_rfl) (Eq.trans (b := some (.pure (aB (!v4)))) (by kernel_rfl) (by rw [hb6])) <| .mu 27 <| .done <| .n2 54 [(1, .hp 0 0), (41, aB true)] [.own (api_Grid.c g)] <| .cT (by kernel_rfl) <| .seq <| .ru fine <| .ret ?_
   obtain rfl := Option.some.inj hr
   exact FinQ.r1 [aI64 2]
  ·replace hr := cd_f hb6 hr
   rcases Bool.eq_false_or_eq_true (decide (g.Step < 2)) with hb7 | hb7
   ·replace hr := cd_t hb7 hr
    refine .gn fine (ca1 (ok0 (terrain_Check_1_ok n g.Width v1 hc2)) (ca3 (ok0 (terrain_Check_1_ok n g.Height v4 hc5)))) <| .mu 3 <| .ca cf0 <| .p0 (v := aB false) (Eq.trans (b := some (.pure (aB (!v1)))) (by kernel_rfl) (by rw [hb3])) <| .mu 4 <| .ca (cfA (fun h => by rw [sv hc5 hc2 (terrain_Check_1_cg n h)]) cf0) <| .pure (v := aB false) (by kernel_rfl) (Eq.trans (b := some (.pure (aB (!v4)))) (by kernel_rfl) (by rw [hb6])) <| .mu 4 <| .pure (v := aB true) (by kernel_rfl) (Eq.trans (b := some (.pure (aB (decide (g.Step < 2))))) (by kernel_rfl) (by rw [hb7])) <| .mu 22 <| .done <| .n2 54 [(1, .hp 0 0), (41, aB true)] [.own (api_Grid.c g)] <| .cT (by kernel_rfl) <| .seq <| .ru fine <| .ret ?_
    obtain rfl := Option.some.inj hr
    exact FinQ.r1 [aI64 2]
   ·replace hr := cd_f hb7 hr
    rcases Bool.eq_false_or_eq_true (decide (g.Step > 65536)) with hb8 | hb8
    ·replace hr := cd_t hb8 hr
     refine .gn fine (ca1 (ok0 (terrain_Check_1_ok n g.Width v1 hc2)) (ca3 (ok0 (terrain_Check_1_ok n g.Height v4 hc5)))) <| .mu 3 <| .ca cf0 <| .p0 (v := aB false) (Eq.trans (b := some (.pure (aB (!v1)))) (by kernel_rfl) (by rw [hb3])) <| .mu 4 <| .ca (cfA (fun h => by rw [sv hc5 hc2 (terrain_Check_1_cg n h)]) cf0) <| .pure (v := aB false) (by kernel_rfl) (Eq.trans (b := some (.pure (aB (!v4)))) (by kernel_rfl) (by rw [hb6])) <| .mu 4 <| .pure (v := aB false) (by kernel_rfl) (Eq.trans (b := some (.pure (aB (decide (g.Step < 2))))) (by kernel_rfl) (by rw [hb7])) <| .mu 4 <| .pure (v := aB true) (by kernel_rfl) (Eq.trans (b := some (.pure (aB (decide (g.Step > 65536))))) (by kernel_rfl) (by rw [hb8])) <| .mu 17 <| .done <| .n2 54 [(1, .hp 0 0), (41, aB true)] [.own (api_Grid.c g)] <| .cT (by kernel_rfl) <| .seq <| .ru fine <| .ret ?_
     obtain rfl := Option.some.inj hr
     exact FinQ.r1 [aI64 2]
    ·replace hr := cd_f hb8 hr
     rcases Bool.eq_false_or_eq_true (((g.Step.tmod 2) : Int) != 0) with hb9 | hb9
     ·replace hr := cd_t hb9 hr
      refine .gn fine (ca1 (ok0 (terrain_Check_1_ok n g.Width v1 hc2)) (ca3 (ok0 (terrain_Check_1_ok n g.Height v4 hc5)))) <| .mu 3 <| .ca cf0 <| .p0 (v := aB false) (Eq.trans (b := some (.pure (aB (!v1)))) (by kernel_rfl) (by rw [hb3])) <| .mu 4 <| .ca (cfA (fun h => by rw [sv hc5 hc2 (terrain_Check_1_cg n h)]) cf0) <| .pure (v := aB false) (by kernel_rfl) (Eq.trans (b := some (.pure (aB (!v4)))) (by kernel_rfl) (by rw [hb6])) <| .mu 4 <| .pure (v := aB false) (by kernel_rfl) (Eq.trans (b := some (.pure (aB (decide (g.Step < 2))))) (by kernel_rfl) (by rw [hb7])) <| .mu 4 <| .pure (v := aB false) (by kernel_rfl) (Eq.trans (b := some (.pure (aB (decide (g.Step > 65536))))) (by kernel_rfl) (by rw [hb8])) <| .mu 5 <| .pure (v := aB true) (by kernel_rfl) (Eq.trans (b := some (.pure (aB (((g.Step.tmod 2) : Int) != 0)))) (by kernel_rfl) (by rw [hb9])) <| .mu 11 <| .done <| .n2 54 [(1, .hp 0 0), (41, aB true)] [.own (api_Grid.c g)] <| .cT (by kernel_rfl) <| .seq <| .ru fine <| .ret ?_
      obtain rfl := Option.some.inj hr
      exact FinQ.r1 [aI64 2]
     ·replace hr := cd_f hb9 hr
      obtain ⟨v10, hc11, hr⟩ := bd hr
      rcases Bool.eq_false_or_eq_true v10 with hb12 | hb12
      ·subst hb12
       replace hr := cd_t rfl hr
       refine .gn fine (ca1 (ok0 (terrain_Check_1_ok n g.Width v1 hc2)) (ca1 (ok0 (terrain_Check_1_ok n g.Height v4 hc5)) (ca3 (ok0 (terrain_far_ok n g.X0 true hc11))))) <| .mu 3 <| .ca cf0 <| .p0 (v := aB false) (Eq.trans (b := some (.pure (aB (!v1)))) (by kernel_rfl) (by rw [hb3])) <| .mu 4 <| .ca (cfA (fun h => by rw [sv hc5 hc2 (terrain_Check_1_cg n h)]) cf0) <| .pure (v := aB false) (by kernel_rfl) (Eq.trans (b := some (.pure (aB (!v4)))) (by kernel_rfl) (by rw [hb6])) <| .mu 4 <| .pure (v := aB false) (by kernel_rfl) (Eq.trans (b := some (.pure (aB (decide (g.Step < 2))))) (by kernel_rfl) (by rw [hb7])) <| .mu 4 <| .pure (v := aB false) (by kernel_rfl) (Eq.trans (b := some (.pure (aB (decide (g.Step > 65536))))) (by kernel_rfl) (by rw [hb8])) <| .mu 5 <| .pure (v := aB false) (by kernel_rfl) (Eq.trans (b := some (.pure (aB (((g.Step.tmod 2) : Int) != 0)))) (by kernel_rfl) (by rw [hb9])) <| .mu 4 <| .ca (cfF (cfF cf0)) <| .mu 6 <| .done <| .n2 54 [(1, .hp 0 0), (41, aB true)] [.own (api_Grid.c g)] <| .cT (by kernel_rfl) <| .seq <| .ru fine <| .ret ?_
       obtain rfl := Option.some.inj hr
       exact FinQ.r1 [aI64 2]
      ·subst hb12
       replace hr := cd_f rfl hr
       obtain ⟨v13, hc14, hr⟩ := bd hr
       refine .gn fine (ca1 (ok0 (terrain_Check_1_ok n g.Width v1 hc2)) (ca1 (ok0 (terrain_Check_1_ok n g.Height v4 hc5)) (ca1 (ok0 (terrain_far_ok n g.X0 false hc11)) (ca3 (ok0 (terrain_far_ok n g.Y0 v13 hc14)))))) <| .mu 3 <| .ca cf0 <| .p0 (v := aB false) (Eq.trans (b := some (.pure (aB (!v1)))) (by kernel_rfl) (by rw [hb3])) <| .mu 4 <| .ca (cfA (fun h => by rw [sv hc5 hc2 (terrain_Check_1_cg n h)]) cf0) <| .pure (v := aB false) (by kernel_rfl) (Eq.trans (b := some (.pure (aB (!v4)))) (by kernel_rfl) (by rw [hb6])) <| .mu 4 <| .pure (v := aB false) (by kernel_rfl) (Eq.trans (b := some (.pure (aB (decide (g.Step < 2))))) (by kernel_rfl) (by rw [hb7])) <| .mu 4 <| .pure (v := aB false) (by kernel_rfl) (Eq.trans (b := some (.pure (aB (decide (g.Step > 65536))))) (by kernel_rfl) (by rw [hb8])) <| .mu 5 <| .pure (v := aB false) (by kernel_rfl) (Eq.trans (b := some (.pure (aB (((g.Step.tmod 2) : Int) != 0)))) (by kernel_rfl) (by rw [hb9])) <| .mu 4 <| .ca (cfF (cfF cf0)) <| .mu 4 <| .ca (cfF (cfF (cfA (fun h => by rw [sv hc14 hc11 (terrain_far_cg n h)]) cf0))) <| .mu 1 <| .done <| .n2 54 [(1, .hp 0 0), (41, aB v13)] [.own (api_Grid.c g)] ?_
       refine .cd hr (fun hb15 hr => ?_) (fun hb15 hr => ?_)
       ·refine .seq <| .ru fine <| .ret ?_
        obtain rfl := Option.some.inj hr
        exact FinQ.r1 [aI64 2]
       ·refine .skip <| .seq <| .seq <| .r3 fine 54 [(1, .hp 0 0), (50, aB (((g.Z.length : Int) : Int) != (wrapF .i64 (g.Width * g.Height))))] ?_
        refine .cd hr (fun hb16 hr => ?_) (fun hb16 hr => ?_)
        ·refine .seq <| .ru fine <| .ret ?_
         obtain rfl := Option.some.inj hr
         exact FinQ.r1 [aI64 4]
        ·refine .skip <| .seq <| .seq ?_
         obtain ⟨v17, hc18, hr⟩ := bd hr
         refine .g1 fine (ok0 (slices_ContainsFunc_int_int_of_terrain_Check_2_ok n g.Z v17 hc18)) <| .mu 2 <| .ca cf0 <| .done <| .n2 54 [(53, aB v17)] [.own (api_Grid.c g)] ?_
         refine .cd hr (fun hb19 hr => ?_) (fun hb19 hr => ?_)
         ·refine .seq <| .ru fine <| .ret ?_
          obtain rfl := Option.some.inj hr
          exact FinQ.r1 [aI64 2]
         ·refine .skip <| .seq <| .ru fine <| .ret ?_
          obtain rfl := Option.some.inj hr
          exact FinQ.r1 [aI64 0]

theorem change_Check_1_ok (n : Nat) (n' : Int) (r : Bool) (hr : change_Check_1 n n' = some r) : FnOk Tryz.prog 147 [aI64 n'] (aB r) := by
 unfold change_Check_1 at hr
 refine FnOk.bd fine Tryz.func147 [.tmp 2] ?_
 unfold Tryz.f147
 simp only [Option.getD_some]
 refine .seq <| .r3 fine 9 [(0, aI64 n')] <| .seq ?_
 rcases Bool.eq_false_or_eq_true (decide (n' < 0)) with hb1 | hb1
 ·replace hr := cd_t hb1 hr
  refine .r0 fine <| .mu 1 <| .p0 (v := aB true) (Eq.trans (b := some (.pure (aB (decide (n' < 0))))) (by kernel_rfl) (by rw [hb1])) <| .mu 5 <| .done <| .ret ?_
  obtain rfl := Option.some.inj hr
  exact FinQ.r1 [aB true]
 ·replace hr := cd_f hb1 hr
  refine .r0 fine <| .mu 1 <| .p0 (v := aB false) (Eq.trans (b := some (.pure (aB (decide (n' < 0))))) (by kernel_rfl) (by rw [hb1])) <| .mu 5 <| .done <| .ret ?_
  obtain rfl := Option.some.inj hr
  exact FinQ.r1 [aB (decide (n' > 1048576))]

theorem slices_IndexFunc_int_int_of_change_Check_1_ok (n : Nat) (s : List Int) (r : Int) (hr : slices_IndexFunc_int_int_of_change_Check_1 n s = some r) : FnOk Tryz.prog 174 [sI64 s, .fn 147 [] []] (aI64 r) := by
 unfold slices_IndexFunc_int_int_of_change_Check_1 at hr
 refine FnOk.bd fine Tryz.func174 [.tmp 4] ?_
 unfold Tryz.f174
 simp only [Option.getD_some]
 refine .seq <| .r3 fine 19 [(0, sI64 s), (1, .fn 147 [] [])] <| .seq <| .seq <| .r3 fine 19 [(0, sI64 s), (1, .fn 147 [] []), (7, aI64 (s.length : Int)), (8, aI64 0)] <| .block ?_
 replace hr := bd hr; obtain ⟨o13, hL14, hr⟩ := hr
 refine .loopO (σ := fun z0 => match z0 with | x_1 => ⟨mkS 19 0 [(0, sI64 s), (1, .fn 147 [] []), (7, aI64 (s.length : Int)), (8, aI64 x_1)], []⟩) (Q := fun x st' => match (generalizing := false) o13 with | .inl _ => x = .exit 0 ∧ Wk 0 st' ⟨mkS 19 0 [], []⟩ | .inr (r0) => x = .ret ∧ FinQ Tryz.prog [.tmp 4] (aI64 r0) .ret st') hL14 ((Wk.gc [0, 1, 7, 8] [] rfl pK0).to (by kernel_rfl)) ?_ ?_
 ·clear hr
  rintro m x_1 hr
  show CQ _ _ _ _ _ ⟨_, _⟩
  refine .seq <| .r3 fine 19 [(0, sI64 s), (1, .fn 147 [] []), (7, aI64 (s.length : Int)), (8, aI64 x_1), (9, aB (decide (x_1 < (s.length : Int))))] <| .seq ?_
  refine .cd hr (fun hb8 hr => ?_) (fun hb8 hr => ?_)
  ·refine .skip <| .seq <| .block <| .seq <| .r3 fine 19 [(0, sI64 s), (1, .fn 147 [] []), (5, aI64 x_1), (7, aI64 (s.length : Int)), (8, aI64 x_1)] <| .seq ?_
   obtain ⟨hg9, hr⟩ := gd hr
   obtain ⟨v10, hc11, hr⟩ := bd hr
   refine .g1 fine (ok0 (change_Check_1_ok n (gt s x_1) v10 hc11)) <| .mu 3 <| .p0 (v := .pp (s.flatMap (iC .i64)) (x_1.toNat * 1)) (Eq.trans (b := ORes.ofP (guardV (inR x_1 s.length) (.pp (s.flatMap (iC .i64)) (x_1.toNat * 1)))) (by kernel_rfl) (ofP_guard hg9)) <| .p0 (v := aI64 (gt s x_1)) (Eq.trans (b := ORes.ofP ((s.flatMap (iC .i64))[x_1.toNat * 1]?)) (by kernel_rfl) (ofP_some (flat_get (iC_len _) (inR_lt hg9) (by decide : 0 < 1) (by omega : x_1.toNat * 1 = x_1.toNat * 1 + 0) (by kernel_rfl)))) <| .ca cf0 <| .done <| .n2 19 [(0, sI64 s), (1, .fn 147 [] []), (5, aI64 x_1), (7, aI64 (s.length : Int)), (8, aI64 x_1), (16, aB v10)] [] ?_
   refine .cd hr (fun hb12 hr => ?_) (fun hb12 hr => ?_)
   ·refine .seq <| .ru fine <| .ret ?_
    obtain rfl := Option.some.inj hr
    exact ⟨rfl, FinQ.ret (vs := [aI64 x_1]) (by kernel_rfl) (Sn.pure rfl)⟩
   ·refine .skip <| .pop <| .ru fine ?_
    exact loopF_back (wrapF .i64 (x_1 + 1)) hr ((Wk.gc [0, 1, 7, 8] [] rfl pK0).to (by kernel_rfl))
  ·refine .leave rfl ?_
   obtain rfl := Option.some.inj hr
   exact ⟨rfl, ((Wk.gc [] [] rfl pK0).to (by kernel_rfl))⟩
 ·rcases o13 with ⟨⟩ | r0
  ·rintro x st' hq15
   clear hL14
   obtain ⟨rfl, hq15⟩ := hq15
   refine CQ_exit _ rfl <| .wk hq15 <| .seq <| .ru fine <| .ret ?_
   obtain rfl := Option.some.inj hr
   exact FinQ.r1 [aI64 (-1)]
  ·rintro x st' hq15
   clear hL14
   obtain ⟨rfl, hq15⟩ := hq15
   obtain rfl := Option.some.inj hr
   exact CQ_ret _ hq15

theorem slices_ContainsFunc_int_int_of_change_Check_1_ok (n : Nat) (s : List Int) (r : Bool) (hr : slices_ContainsFunc_int_int_of_change_Check_1 n s = some r) : FnOk Tryz.prog 129 [sI64 s, .fn 147 [] []] (aB r) := by
 unfold slices_ContainsFunc_int_int_of_change_Check_1 at hr
 refine FnOk.bd fine Tryz.func129 [.tmp 4] ?_
 unfold Tryz.f129
 simp only [Option.getD_some]
 refine .seq <| .r3 fine 9 [(0, sI64 s), (1, .fn 147 [] [])] <| .seq ?_
 obtain ⟨v1, hc2, hr⟩ := bd hr
 refine .g1 fine (ok0 (slices_IndexFunc_int_int_of_change_Check_1_ok n s v1 hc2)) <| .mu 2 <| .ca cf0 <| .mu 2 <| .done <| .ret ?_
 obtain rfl := Option.some.inj hr
 exact FinQ.r1 [aB (decide (v1 ≥ 0))]

theorem change_Check_ok (n : Nat) (b : api_Banded) (r : Int) (hr : change_Check n b = some r) : FnOk Tryz.prog 115 [.agg (api_Banded.c b)] (aI64 r) := by
 unfold change_Check at hr
 refine FnOk.bd fine Tryz.func115 [.tmp 2] ?_
 unfold Tryz.f115
 simp only [Option.getD_some]
 refine .seq <| .r2 fine 21 [(1, .hp 0 0)] [.own (api_Banded.c b)] <| .seq <| .seq ?_
 obtain ⟨v1, hc2, hr⟩ := bd hr
 refine .g1 fine (ok0 (terrain_Check_ok n b.Grid v1 hc2)) <| .mu 2 <| .ca cf0 <| .mu 1 <| .done <| .n2 21 [(1, .hp 0 0), (3, aI64 v1)] [.own (api_Banded.c b)] <| .seq <| .r3 fine 21 [(1, .hp 0 0), (3, aI64 v1), (8, aB ((v1 : Int) != 0))] ?_
 refine .cd hr (fun hb3 hr => ?_) (fun hb3 hr => ?_)
 ·refine .seq <| .ru fine <| .ret ?_
  obtain rfl := Option.some.inj hr
  exact FinQ.r1 [aI64 v1]
 ·refine .skip <| .seq <| .seq <| .r3 fine 21 [(1, .hp 0 0), (17, aB (((b.Err.length : Int) : Int) != (b.Grid.Z.length : Int)))] ?_
  refine .cd hr (fun hb4 hr => ?_) (fun hb4 hr => ?_)
  ·refine .seq <| .ru fine <| .ret ?_
   obtain rfl := Option.some.inj hr
   exact FinQ.r1 [aI64 4]
  ·refine .skip <| .seq <| .seq ?_
   obtain ⟨v5, hc6, hr⟩ := bd hr
   refine .g1 fine (ok0 (slices_ContainsFunc_int_int_of_change_Check_1_ok n b.Err v5 hc6)) <| .mu 2 <| .ca cf0 <| .done <| .n2 21 [(20, aB v5)] [.own (api_Banded.c b)] ?_
   refine .cd hr (fun hb7 hr => ?_) (fun hb7 hr => ?_)
   ·refine .seq <| .ru fine <| .ret ?_
    obtain rfl := Option.some.inj hr
    exact FinQ.r1 [aI64 2]
   ·refine .skip <| .seq <| .ru fine <| .ret ?_
    obtain rfl := Option.some.inj hr
    exact FinQ.r1 [aI64 0]

theorem change_fit_ok (n : Nat) (l : List api_Banded) (r : Int) (hr : change_fit n l = some r) : FnOk Tryz.prog 66 [slT api_Banded.c l] (aI64 r) := by
 unfold change_fit at hr
 refine FnOk.bd fine Tryz.func66 [.tmp 2] ?_
 unfold Tryz.f66
 simp only [Option.getD_some]
 refine .seq <| .r3 fine 68 [(0, slT api_Banded.c l)] <| .seq <| .seq <| .r3 fine 68 [(0, slT api_Banded.c l), (10, slT api_Banded.c l), (11, aI64 (l.length : Int)), (12, aI64 0)] <| .block ?_
 replace hr := bd hr; obtain ⟨o13, hL14, hr⟩ := hr
 refine .loopO (σ := fun z0 => match z0 with | x_1 => ⟨mkS 68 0 [(0, slT api_Banded.c l), (10, slT api_Banded.c l), (11, aI64 (l.length : Int)), (12, aI64 x_1)], []⟩) (Q := fun x st' => match (generalizing := false) o13 with | .inl _ => x = .exit 0 ∧ Wk 0 st' ⟨mkS 68 0 [(0, slT api_Banded.c l)], []⟩ | .inr (r0) => x = .ret ∧ FinQ Tryz.prog [.tmp 2] (aI64 r0) .ret st') hL14 ((Wk.gc [0, 10, 11, 12] [] rfl pK0).to (by kernel_rfl)) ?_ ?_
 ·clear hr
  rintro m x_1 hr
  show CQ _ _ _ _ _ ⟨_, _⟩
  refine .seq <| .r3 fine 68 [(0, slT api_Banded.c l), (10, slT api_Banded.c l), (11, aI64 (l.length : Int)), (12, aI64 x_1), (13, aB (decide (x_1 < (l.length : Int))))] <| .seq ?_
  refine .cd hr (fun hb8 hr => ?_) (fun hb8 hr => ?_)
  ·refine .skip <| .seq <| .block <| .seq ?_
   obtain ⟨hg9, hr⟩ := gd hr
   refine .r0 fine <| .p0 (v := .pp (l.flatMap api_Banded.c) (x_1.toNat * 7)) (Eq.trans (b := ORes.ofP (guardV (inR x_1 l.length) (.pp (l.flatMap api_Banded.c) (x_1.toNat * 7)))) (by kernel_rfl) (ofP_guard hg9)) <| .p0 (v := .agg (api_Banded.c (gt l x_1))) (Eq.trans (b := ORes.ofP (guardV (decide (7 ≤ ((l.flatMap api_Banded.c).drop (x_1.toNat * 7)).length)) (.agg (((l.flatMap api_Banded.c).drop (x_1.toNat * 7)).take 7)))) (by kernel_rfl) (flat_load api_Banded.len (inR_lt hg9) (by decide) (by omega : x_1.toNat * 7 = x_1.toNat * 7 + 0) (by kernel_rfl))) <| .mu 2 <| .done <| .n2 68 [(0, slT api_Banded.c l), (4, .hp 0 0), (10, slT api_Banded.c l), (11, aI64 (l.length : Int)), (12, aI64 x_1)] [.own (api_Banded.c (gt l x_1))] <| .seq ?_
   obtain ⟨v10, hc11, hr⟩ := bd hr
   refine .g1 fine (ok0 (change_Check_ok n (gt l x_1) v10 hc11)) <| .mu 1 <| .ca cf0 <| .mu 1 <| .done <| .n2 68 [(0, slT api_Banded.c l), (5, aI64 v10), (10, slT api_Banded.c l), (11, aI64 (l.length : Int)), (12, aI64 x_1)] [.own (api_Banded.c (gt l x_1))] <| .seq <| .r3 fine 68 [(0, slT api_Banded.c l), (5, aI64 v10), (10, slT api_Banded.c l), (11, aI64 (l.length : Int)), (12, aI64 x_1), (19, aB ((v10 : Int) != 0))] ?_
   refine .cd hr (fun hb12 hr => ?_) (fun hb12 hr => ?_)
   ·refine .seq <| .ru fine <| .ret ?_
    obtain rfl := Option.some.inj hr
    exact ⟨rfl, FinQ.ret (vs := [aI64 v10]) (by kernel_rfl) (Sn.pure rfl)⟩
   ·refine .skip <| .pop <| .ru fine ?_
    exact loopF_back (wrapF .i64 (x_1 + 1)) hr ((Wk.gc [0, 10, 11, 12] [] rfl pK0).to (by kernel_rfl))
  ·refine .leave rfl ?_
   obtain rfl := Option.some.inj hr
   exact ⟨rfl, ((Wk.gc [0] [] rfl pK0).to (by kernel_rfl))⟩
 ·rcases o13 with ⟨⟩ | r0
  ·rintro x st' hq15
   clear hL14
   obtain ⟨rfl, hq15⟩ := hq15
   refine CQ_exit _ rfl <| .wk hq15 <| .seq <| .seq <| .r3 fine 68 [(0, slT api_Banded.c l), (22, slT api_Banded.c l), (23, aI64 (l.length : Int)), (24, aI64 0)] <| .block ?_
   replace hr := bd hr; obtain ⟨o34, hL35, hr⟩ := hr
   refine .loopO (σ := fun z0 => match z0 with | x_16 => ⟨mkS 68 0 [(0, slT api_Banded.c l), (22, slT api_Banded.c l), (23, aI64 (l.length : Int)), (24, aI64 x_16)], []⟩) (Q := fun x st' => match (generalizing := false) o34 with | .inl _ => x = .exit 2 ∧ Wk 0 st' ⟨mkS 68 0 [], []⟩ | .inr (r0) => x = .ret ∧ FinQ Tryz.prog [.tmp 2] (aI64 r0) .ret st') hL35 ((Wk.gc [0, 22, 23, 24] [] rfl pK0).to (by kernel_rfl)) ?_ ?_
   ·clear hr
    rintro m x_16 hr
    show CQ _ _ _ _ _ ⟨_, _⟩
    refine .seq <| .r3 fine 68 [(0, slT api_Banded.c l), (22, slT api_Banded.c l), (23, aI64 (l.length : Int)), (24, aI64 x_16), (25, aB (decide (x_16 < (l.length : Int))))] <| .seq ?_
    refine .cd hr (fun hb26 hr => ?_) (fun hb26 hr => ?_)
    ·refine .skip <| .seq <| .block <| .seq ?_
     obtain ⟨hg27, hr⟩ := gd hr
     refine .r0 fine <| .p0 (v := .pp (l.flatMap api_Banded.c) (x_16.toNat * 7)) (Eq.trans (b := ORes.ofP (guardV (inR x_16 l.length) (.pp (l.flatMap api_Banded.c) (x_16.toNat * 7)))) (by kernel_rfl) (ofP_guard hg27)) <| .p0 (v := .agg (api_Banded.c (gt l x_16))) (Eq.trans (b := ORes.ofP (guardV (decide (7 ≤ ((l.flatMap api_Banded.c).drop (x_16.toNat * 7)).length)) (.agg (((l.flatMap api_Banded.c).drop (x_16.toNat * 7)).take 7)))) (by kernel_rfl) (flat_load api_Banded.len (inR_lt hg27) (by decide) (by omega : x_16.toNat * 7 = x_16.toNat * 7 + 0) (by kernel_rfl))) <| .mu 2 <| .done <| .n2 68 [(0, slT api_Banded.c l), (7, .hp 0 0), (22, slT api_Banded.c l), (23, aI64 (l.length : Int)), (24, aI64 x_16)] [.own (api_Banded.c (gt l x_16))] <| .seq ?_
     obtain ⟨hg28, hr⟩ := gd hr
     refine .regionT fine callOf_nil <| .mu 1 <| .pure (v := .pp (l.flatMap api_Banded.c) ((0 : Int).toNat * 7)) (by kernel_rfl) (Eq.trans (b := ORes.ofP (guardV (inR 0 l.length) (.pp (l.flatMap api_Banded.c) ((0 : Int).toNat * 7)))) (by kernel_rfl) (ofP_guard hg28)) (by kernel_rfl) <| .mu 1 <| .pure (v := .agg (api_Grid.c (gt l 0).Grid)) (by kernel_rfl) (Eq.trans (b := ORes.ofP (guardV (decide (6 ≤ ((l.flatMap api_Banded.c).drop ((0 : Int).toNat * 7 + 0)).length)) (.agg (((l.flatMap api_Banded.c).drop ((0 : Int).toNat * 7 + 0)).take 6)))) (by kernel_rfl) (flat_load api_Banded.len (inR_lt hg28) (by decide) (by omega : (0 : Int).toNat * 7 + 0 = (0 : Int).toNat * 7 + 0) (by kernel_rfl))) (by kernel_rfl) <| .mu 6 ?_
     refine .done ⟨by kernel_rfl, ?_⟩
     refine .n2 68 [(0, slT api_Banded.c l), (8, .hp 1 0), (9, .hp 2 0), (22, slT api_Banded.c l), (23, aI64 (l.length : Int)), (24, aI64 x_16)] [.own (api_Banded.c (gt l x_16)), .own (api_Grid.c (gt l 0).Grid), .own (api_Grid.c (gt l x_16).Grid)] <| .seq ?_
     rcases Bool.eq_false_or_eq_true (((gt l 0).Grid.X0 : Int) != (gt l x_16).Grid.X0) with hb29 | hb29
     ·replace hr := cd_t hb29 hr
      refine .r0 fine <| .mu 4 <| .p0 (v := aB true) (Eq.trans (b := some (.pure (aB (((gt l 0).Grid.X0 : Int) != (gt l x_16).Grid.X0)))) (by kernel_rfl) (by rw [hb29])) <| .mu 28 <| .done <| .n2 68 [(0, slT api_Banded.c l), (22, slT api_Banded.c l), (23, aI64 (l.length : Int)), (24, aI64 x_16), (66, aB true)] [.own (api_Banded.c (gt l x_16)), .own (api_Grid.c (gt l 0).Grid), .own (api_Grid.c (gt l x_16).Grid)] <| .cT (by kernel_rfl) <| .seq <| .ru fine <| .ret ?_
      obtain rfl := Option.some.inj hr
      exact ⟨rfl, FinQ.ret (vs := [aI64 4]) (by kernel_rfl) (Sn.pure rfl)⟩
     ·replace hr := cd_f hb29 hr
      rcases Bool.eq_false_or_eq_true (((gt l 0).Grid.Y0 : Int) != (gt l x_16).Grid.Y0) with hb30 | hb30
      ·replace hr := cd_t hb30 hr
       refine .r0 fine <| .mu 4 <| .p0 (v := aB false) (Eq.trans (b := some (.pure (aB (((gt l 0).Grid.X0 : Int) != (gt l x_16).Grid.X0)))) (by kernel_rfl) (by rw [hb29])) <| .mu 5 <| .pure (v := aB true) (by kernel_rfl) (Eq.trans (b := some (.pure (aB (((gt l 0).Grid.Y0 : Int) != (gt l x_16).Grid.Y0)))) (by kernel_rfl) (by rw [hb30])) <| .mu 22 <| .done <| .n2 68 [(0, slT api_Banded.c l), (22, slT api_Banded.c l), (23, aI64 (l.length : Int)), (24, aI64 x_16), (66, aB true)] [.own (api_Banded.c (gt l x_16)), .own (api_Grid.c (gt l 0).Grid), .own (api_Grid.c (gt l x_16).Grid)] <| .cT (by kernel_rfl) <| .seq <| .ru fine <| .ret ?_
       obtain rfl := Option.some.inj hr
       exact ⟨rfl, FinQ.ret (vs := [aI64 4]) (by kernel_rfl) (Sn.pure rfl)⟩
      ·replace hr := cd_f hb30 hr
       rcases Bool.eq_false_or_eq_true (((gt l 0).Grid.Step : Int) != (gt l x_16).Grid.Step) with hb31 | hb31
       ·replace hr := cd_t hb31 hr
        refine .r0 fine <| .mu 4 <| .p0 (v := aB false) (Eq.trans (b := some (.pure (aB (((gt l 0).Grid.X0 : Int) != (gt l x_16).Grid.X0)))) (by kernel_rfl) (by rw [hb29])) <| .mu 5 <| .pure (v := aB false) (by kernel_rfl) (Eq.trans (b := some (.pure (aB (((gt l 0).Grid.Y0 : Int) != (gt l x_16).Grid.Y0)))) (by kernel_rfl) (by rw [hb30])) <| .mu 6 <| .pure (v := aB true) (by kernel_rfl) (Eq.trans (b := some (.pure (aB (((gt l 0).Grid.Step : Int) != (gt l x_16).Grid.Step)))) (by kernel_rfl) (by rw [hb31])) <| .mu 15 <| .done <| .n2 68 [(0, slT api_Banded.c l), (22, slT api_Banded.c l), (23, aI64 (l.length : Int)), (24, aI64 x_16), (66, aB true)] [.own (api_Banded.c (gt l x_16)), .own (api_Grid.c (gt l 0).Grid), .own (api_Grid.c (gt l x_16).Grid)] <| .cT (by kernel_rfl) <| .seq <| .ru fine <| .ret ?_
        obtain rfl := Option.some.inj hr
        exact ⟨rfl, FinQ.ret (vs := [aI64 4]) (by kernel_rfl) (Sn.pure rfl)⟩
       ·replace hr := cd_f hb31 hr
        rcases Bool.eq_false_or_eq_true (((gt l 0).Grid.Width : Int) != (gt l x_16).Grid.Width) with hb32 | hb32
        ·replace hr := cd_t hb32 hr
         refine .r0 fine <| .mu 4 <| .p0 (v := aB false) (Eq.trans (b := some (.pure (aB (((gt l 0).Grid.X0 : Int) != (gt l x_16).Grid.X0)))) (by kernel_rfl) (by rw [hb29])) <| .mu 5 <| .pure (v := aB false) (by kernel_rfl) (Eq.trans (b := some (.pure (aB (((gt l 0).Grid.Y0 : Int) != (gt l x_16).Grid.Y0)))) (by kernel_rfl) (by rw [hb30])) <| .mu 6 <| .pure (v := aB false) (by kernel_rfl) (Eq.trans (b := some (.pure (aB (((gt l 0).Grid.Step : Int) != (gt l x_16).Grid.Step)))) (by kernel_rfl) (by rw [hb31])) <| .mu 6 <| .pure (v := aB true) (by kernel_rfl) (Eq.trans (b := some (.pure (aB (((gt l 0).Grid.Width : Int) != (gt l x_16).Grid.Width)))) (by kernel_rfl) (by rw [hb32])) <| .mu 8 <| .done <| .n2 68 [(0, slT api_Banded.c l), (22, slT api_Banded.c l), (23, aI64 (l.length : Int)), (24, aI64 x_16), (66, aB true)] [.own (api_Banded.c (gt l x_16)), .own (api_Grid.c (gt l 0).Grid), .own (api_Grid.c (gt l x_16).Grid)] <| .cT (by kernel_rfl) <| .seq <| .ru fine <| .ret ?_
         obtain rfl := Option.some.inj hr
         exact ⟨rfl, FinQ.ret (vs := [aI64 4]) (by kernel_rfl) (Sn.pure rfl)⟩
        ·replace hr := cd_f hb32 hr
         refine .r0 fine <| .mu 4 <| .p0 (v := aB false) (Eq.trans (b := some (.pure (aB (((gt l 0).Grid.X0 : Int) != (gt l x_16).Grid.X0)))) (by kernel_rfl) (by rw [hb29])) <| .mu 5 <| .pure (v := aB false) (by kernel_rfl) (Eq.trans (b := some (.pure (aB (((gt l 0).Grid.Y0 : Int) != (gt l x_16).Grid.Y0)))) (by kernel_rfl) (by rw [hb30])) <| .mu 6 <| .pure (v := aB false) (by kernel_rfl) (Eq.trans (b := some (.pure (aB (((gt l 0).Grid.Step : Int) != (gt l x_16).Grid.Step)))) (by kernel_rfl) (by rw [hb31])) <| .mu 6 <| .pure (v := aB false) (by kernel_rfl) (Eq.trans (b := some (.pure (aB (((gt l 0).Grid.Width : Int) != (gt l x_16).Grid.Width)))) (by kernel_rfl) (by rw [hb32])) <| .mu 8 <| .done <| .n2 68 [(0, slT api_Banded.c l), (22, slT api_Banded.c l), (23, aI64 (l.length : Int)), (24, aI64 x_16), (66, aB (((gt l 0).Grid.Height : Int) != (gt l x_16).Grid.Height))] [.own (api_Banded.c (gt l x_16)), .own (api_Grid.c (gt l 0).Grid), .own (api_Grid.c (gt l x_16).Grid)] ?_
         refine .cd hr (fun hb33 hr => ?_) (fun hb33 hr => ?_)
         ·refine .seq <| .ru fine <| .ret ?_
          obtain rfl := Option.some.inj hr
          exact ⟨rfl, FinQ.ret (vs := [aI64 4]) (by kernel_rfl) (Sn.pure rfl)⟩
         ·refine .skip <| .pop <| .ru fine ?_
          exact loopF_back (wrapF .i64 (x_16 + 1)) hr ((Wk.gc [0, 22, 23, 24] [] rfl pK0).to (by kernel_rfl))
    ·refine .leave rfl ?_
     obtain rfl := Option.some.inj hr
     exact ⟨rfl, ((Wk.gc [] [] rfl pK0).to (by kernel_rfl))⟩
   ·rcases o34 with ⟨⟩ | r0
    ·rintro x st' hq36
     clear hL35
     obtain ⟨rfl, hq36⟩ := hq36
     refine CQ_exit _ rfl <| .wk hq36 <| .seq <| .ru fine <| .ret ?_
     obtain rfl := Option.some.inj hr
     exact FinQ.r1 [aI64 0]
    ·rintro x st' hq36
     clear hL35
     obtain ⟨rfl, hq36⟩ := hq36
     obtain rfl := Option.some.inj hr
     exact CQ_ret _ hq36
  ·rintro x st' hq15
   clear hL14
   obtain ⟨rfl, hq15⟩ := hq15
   obtain rfl := Option.some.inj hr
   exact CQ_ret _ hq15

theorem change_difference_ok (n : Nat) (a : api_Banded) (b : api_Banded) (k : Int) (r : Int × Int × Bool) (hr : change_difference n a b k = some r) : FnOk Tryz.prog 111 [.agg (api_Banded.c a), .agg (api_Banded.c b), aI64 k] (.tup [aI64 r.1, aI64 r.2.1, aB r.2.2]) := by
 unfold change_difference at hr
 refine FnOk.bd fine Tryz.func111 [.tmp 6, .tmp 7, .tmp 8] ?_
 unfold Tryz.f111
 simp only [Option.getD_some]
 refine .seq <| .r2 fine 49 [(2, aI64 k), (3, .hp 0 0), (4, .hp 1 0)] [.own (api_Banded.c a), .own (api_Banded.c b)] <| .seq <| .seq ?_
 obtain ⟨hg1, hr⟩ := gd hr
 rcases Bool.eq_false_or_eq_true (((gt a.Grid.Z k) : Int) == (-2147483648)) with hb2 | hb2
 ·replace hr := cd_t hb2 hr
  refine .r0 fine <| .mu 4 <| .p0 (v := .pp (a.Grid.Z.flatMap (iC .i64)) (k.toNat * 1)) (Eq.trans (b := ORes.ofP (guardV (inR k a.Grid.Z.length) (.pp (a.Grid.Z.flatMap (iC .i64)) (k.toNat * 1)))) (by kernel_rfl) (ofP_guard hg1)) <| .p0 (v := aI64 (gt a.Grid.Z k)) (Eq.trans (b := ORes.ofP ((a.Grid.Z.flatMap (iC .i64))[k.toNat * 1]?)) (by kernel_rfl) (ofP_some (flat_get (iC_len _) (inR_lt hg1) (by decide : 0 < 1) (by omega : k.toNat * 1 = k.toNat * 1 + 0) (by kernel_rfl)))) <| .p0 (v := aB true) (Eq.trans (b := some (.pure (aB (((gt a.Grid.Z k) : Int) == (-2147483648))))) (by kernel_rfl) (by rw [hb2])) <| .mu 9 <| .done <| .n2 49 [(2, aI64 k), (3, .hp 0 0), (4, .hp 1 0), (24, aB true)] [.own (api_Banded.c a), .own (api_Banded.c b)] <| .cT (by kernel_rfl) <| .seq <| .ru fine <| .ret ?_
  obtain rfl := Option.some.inj hr
  exact FinQ.ret (vs := [aI64 0, aI64 0, aB false]) (by kernel_rfl) (Sn.tup (SnL.cons (Sn.pure rfl) (SnL.cons (Sn.pure rfl) (SnL.cons (Sn.pure rfl) SnL.nil))))
 ·replace hr := cd_f hb2 hr
  obtain ⟨hg3, hr⟩ := gd hr
  refine .r0 fine <| .mu 4 <| .p0 (v := .pp (a.Grid.Z.flatMap (iC .i64)) (k.toNat * 1)) (Eq.trans (b := ORes.ofP (guardV (inR k a.Grid.Z.length) (.pp (a.Grid.Z.flatMap (iC .i64)) (k.toNat * 1)))) (by kernel_rfl) (ofP_guard hg1)) <| .p0 (v := aI64 (gt a.Grid.Z k)) (Eq.trans (b := ORes.ofP ((a.Grid.Z.flatMap (iC .i64))[k.toNat * 1]?)) (by kernel_rfl) (ofP_some (flat_get (iC_len _) (inR_lt hg1) (by decide : 0 < 1) (by omega : k.toNat * 1 = k.toNat * 1 + 0) (by kernel_rfl)))) <| .p0 (v := aB false) (Eq.trans (b := some (.pure (aB (((gt a.Grid.Z k) : Int) == (-2147483648))))) (by kernel_rfl) (by rw [hb2])) <| .mu 5 <| .pure (v := .pp (b.Grid.Z.flatMap (iC .i64)) (k.toNat * 1)) (by kernel_rfl) (Eq.trans (b := ORes.ofP (guardV (inR k b.Grid.Z.length) (.pp (b.Grid.Z.flatMap (iC .i64)) (k.toNat * 1)))) (by kernel_rfl) (ofP_guard hg3)) <| .pure (v := aI64 (gt b.Grid.Z k)) (by kernel_rfl) (Eq.trans (b := ORes.ofP ((b.Grid.Z.flatMap (iC .i64))[k.toNat * 1]?)) (by kernel_rfl) (ofP_some (flat_get (iC_len _) (inR_lt hg3) (by decide : 0 < 1) (by omega : k.toNat * 1 = k.toNat * 1 + 0) (by kernel_rfl)))) <| .mu 2 <| .done <| .n2 49 [(2, aI64 k), (3, .hp 0 0), (4, .hp 1 0), (24, aB (((gt b.Grid.Z k) : Int) == (-2147483648)))] [.own (api_Banded.c a), .own (api_Banded.c b)] ?_
  refine .cd hr (fun hb4 hr => ?_) (fun hb4 hr => ?_)
  ·refine .seq <| .ru fine <| .ret ?_
   obtain rfl := Option.some.inj hr
   exact FinQ.ret (vs := [aI64 0, aI64 0, aB false]) (by kernel_rfl) (Sn.tup (SnL.cons (Sn.pure rfl) (SnL.cons (Sn.pure rfl) (SnL.cons (Sn.pure rfl) SnL.nil))))
  ·refine .skip <| .seq ?_
   obtain ⟨hg5, hg6, hr⟩ := gd2 hr
   refine .regionT fine callOf_nil <| .mu 4 <| .pure (v := .pp (b.Grid.Z.flatMap (iC .i64)) (k.toNat * 1)) (by kernel_rfl) (Eq.trans (b := ORes.ofP (guardV (inR k b.Grid.Z.length) (.pp (b.Grid.Z.flatMap (iC .i64)) (k.toNat * 1)))) (by kernel_rfl) (ofP_guard hg3)) (by kernel_rfl) <| .pure (v := aI64 (gt b.Grid.Z k)) (by kernel_rfl) (Eq.trans (b := ORes.ofP ((b.Grid.Z.flatMap (iC .i64))[k.toNat * 1]?)) (by kernel_rfl) (ofP_some (flat_get (iC_len _) (inR_lt hg3) (by decide : 0 < 1) (by omega : k.toNat * 1 = k.toNat * 1 + 0) (by kernel_rfl)))) (by kernel_rfl) <| .mu 4 <| .pure (v := .pp (a.Grid.Z.flatMap (iC .i64)) (k.toNat * 1)) (by kernel_rfl) (Eq.trans (b := ORes.ofP (guardV (inR k a.Grid.Z.length) (.pp (a.Grid.Z.flatMap (iC .i64)) (k.toNat * 1)))) (by kernel_rfl) (ofP_guard hg1)) (by kernel_rfl) <| .pure (v := aI64 (gt a.Grid.Z k)) (by kernel_rfl) (Eq.trans (b := ORes.ofP ((a.Grid.Z.flatMap (iC .i64))[k.toNat * 1]?)) (by kernel_rfl) (ofP_some (flat_get (iC_len _) (inR_lt hg1) (by decide : 0 < 1) (by omega : k.toNat * 1 = k.toNat * 1 + 0) (by kernel_rfl)))) (by kernel_rfl) <| .mu 4 <| .pure (v := .pp (a.Err.flatMap (iC .i64)) (k.toNat * 1)) (by kernel_rfl) (Eq.trans (b := ORes.ofP (guardV (inR k a.Err.length) (.pp (a.Err.flatMap (iC .i64)) (k.toNat * 1)))) (by kernel_rfl) (ofP_guard hg5)) (by kernel_rfl) <| .pure (v := aI64 (gt a.Err k)) (by kernel_rfl) (Eq.trans (b := ORes.ofP ((a.Err.flatMap (iC .i64))[k.toNat * 1]?)) (by kernel_rfl) (ofP_some (flat_get (iC_len _) (inR_lt hg5) (by decide : 0 < 1) (by omega : k.toNat * 1 = k.toNat * 1 + 0) (by kernel_rfl)))) (by kernel_rfl) <| .mu 3 <| .pure (v := .pp (b.Err.flatMap (iC .i64)) (k.toNat * 1)) (by kernel_rfl) (Eq.trans (b := ORes.ofP (guardV (inR k b.Err.length) (.pp (b.Err.flatMap (iC .i64)) (k.toNat * 1)))) (by kernel_rfl) (ofP_guard hg6)) (by kernel_rfl) <| .pure (v := aI64 (gt b.Err k)) (by kernel_rfl) (Eq.trans (b := ORes.ofP ((b.Err.flatMap (iC .i64))[k.toNat * 1]?)) (by kernel_rfl) (ofP_some (flat_get (iC_len _) (inR_lt hg6) (by decide : 0 < 1) (by omega : k.toNat * 1 = k.toNat * 1 + 0) (by kernel_rfl)))) (by kernel_rfl) <| .mu 4 ?_
   refine .done ⟨by kernel_rfl, ?_⟩
   refine .ret ?_
   obtain rfl := Option.some.inj hr
   exact FinQ.ret (vs := [aI64 (wrapF .i64 ((gt b.Grid.Z k) - (gt a.Grid.Z k))), aI64 (wrapF .i64 ((gt a.Err k) + (gt b.Err k))), aB true]) (by kernel_rfl) (Sn.tup (SnL.cons (Sn.pure rfl) (SnL.cons (Sn.pure rfl) (SnL.cons (Sn.pure rfl) SnL.nil))))

theorem change_verdict_ok (n : Nat) (a : api_Banded) (b : api_Banded) (k : Int) (r : Int) (hr : change_verdict n a b k = some r) : FnOk Tryz.prog 117 [.agg (api_Banded.c a), .agg (api_Banded.c b), aI64 k] (aI64 r) := by
 unfold change_verdict at hr
 refine FnOk.bd fine Tryz.func117 [.tmp 6] ?_
 unfold Tryz.f117
 simp only [Option.getD_some]
 refine .seq <| .r2 fine 30 [(2, aI64 k), (3, .hp 0 0), (4, .hp 1 0)] [.own (api_Banded.c a), .own (api_Banded.c b)] <| .seq ?_
 obtain ⟨v1, hc2, hr⟩ := bd hr
 refine .g1 fine (ok0 (change_difference_ok n a b k v1 hc2)) <| .mu 3 <| .ca cf0 <| .mu 7 <| .done <| .n2 30 [(7, aI64 v1.1), (8, aI64 v1.2.1), (9, aB v1.2.2)] [.own (api_Banded.c a), .own (api_Banded.c b)] <| .seq <| .block <| .seq <| .r3 fine 30 [(7, aI64 v1.1), (8, aI64 v1.2.1), (18, aB (!v1.2.2))] ?_
 refine .cd hr (fun hb3 hr => ?_) (fun hb3 hr => ?_)
 ·refine .seq <| .ru fine <| .ret ?_
  obtain rfl := Option.some.inj hr
  exact FinQ.r1 [aI64 3]
 ·refine .seq <| .r3 fine 30 [(7, aI64 v1.1), (8, aI64 v1.2.1), (21, aB (decide (v1.1 > v1.2.1)))] ?_
  refine .cd hr (fun hb4 hr => ?_) (fun hb4 hr => ?_)
  ·refine .seq <| .ru fine <| .ret ?_
   obtain rfl := Option.some.inj hr
   exact FinQ.r1 [aI64 1]
  ·refine .seq <| .r0 fine <| .mu 2 <| .p0 (v := aI64 (wrapF .i64 (0 - v1.2.1))) (Eq.trans (b := some (.pure (aI64 (IntKind.wrap .i64 (0 - v1.2.1))))) (by kernel_rfl) wrap_at) <| .mu 2 <| .done <| .n2 30 [(25, aB (decide (v1.1 < (wrapF .i64 (0 - v1.2.1)))))] [.own (api_Banded.c a), .own (api_Banded.c b)] ?_
   refine .cd hr (fun hb5 hr => ?_) (fun hb5 hr => ?_)
   ·refine .seq <| .ru fine <| .ret ?_
    obtain rfl := Option.some.inj hr
    exact FinQ.r1 [aI64 2]
   ·refine .skip <| .pop <| .seq <| .ru fine <| .ret ?_
    obtain rfl := Option.some.inj hr
    exact FinQ.r1 [aI64 0]

theorem change_verdicts_ok (n : Nat) (a : api_Banded) (b : api_Banded) (r : List Int) (hr : change_verdicts n a b = some r) : FnOk Tryz.prog 69 [.agg (api_Banded.c a), .agg (api_Banded.c b)] (sI64 r) := by
 unfold change_verdicts at hr
 refine FnOk.bd fine Tryz.func69 [.tmp 4] ?_
 unfold Tryz.f69
 simp only [Option.getD_some]
 refine .seq <| .r2 fine 23 [(2, .hp 0 0), (3, .hp 1 0)] [.own (api_Banded.c a), .own (api_Banded.c b)] <| .seq <| .r3 fine 23 [(2, .hp 0 0), (3, .hp 1 0), (5, nS)] <| .seq <| .seq <| .r3 fine 23 [(2, .hp 0 0), (3, .hp 1 0), (5, nS), (10, aI64 (a.Grid.Z.length : Int)), (11, aI64 0)] <| .block ?_
 replace hr := bd hr; obtain ⟨out_8, hL16, hr⟩ := hr
 refine .loopO (σ := fun z0 => match z0 with | (out_1, x_2) => ⟨mkS 23 0 [(2, .hp 0 0), (3, .hp 1 0), (5, .hs 2 0 out_1.length 1), (10, aI64 (a.Grid.Z.length : Int)), (11, aI64 x_2)], [.own (api_Banded.c a), .own (api_Banded.c b), .own (out_1.flatMap (iC .i64))]⟩) (Q := fun x st' => x = .exit 0 ∧ Wk 0 st' ⟨mkS 23 0 [(5, .hs 0 0 out_8.length 1)], [.own (out_8.flatMap (iC .i64))]⟩) hL16 ((Wk.nil 5 1 (by kernel_rfl)).trans ((Wk.gc [2, 3, 5, 10, 11] [(0, true), (1, true), (2, false)] rfl (pKt (pKt (pKc trivial)))).to (by kernel_rfl))) ?_ ?_
 ·clear hr
  rintro m ⟨out_1, x_2⟩ hr
  show CQ _ _ _ _ _ ⟨_, _⟩
  refine .seq <| .r3 fine 23 [(2, .hp 0 0), (3, .hp 1 0), (5, .hs 2 0 out_1.length 1), (10, aI64 (a.Grid.Z.length : Int)), (11, aI64 x_2), (12, aB (decide (x_2 < (a.Grid.Z.length : Int))))] <| .seq ?_
  refine .cd hr (fun hb10 hr => ?_) (fun hb10 hr => ?_)
  ·refine .skip <| .seq <| .block <| .seq <| .r3 fine 23 [(2, .hp 0 0), (3, .hp 1 0), (5, .hs 2 0 out_1.length 1), (6, aI64 x_2), (10, aI64 (a.Grid.Z.length : Int)), (11, aI64 x_2)] ?_
   obtain ⟨v11, hc12, hr⟩ := bd hr
   obtain ⟨hg13, hg14, hr⟩ := gd2 hr
   refine .g1 fine (ok0 (change_verdict_ok n a b x_2 v11 hc12)) <| .mu 4 <| .ca cf0 <| .mu 1 <| .e0 (v := .hs 4 0 (out_1 ++ [v11]).length 1) (ws := [(2, .dead), (4, .own ((out_1 ++ [v11]).flatMap (iC .i64)))]) (Eq.trans (b := guardO (decide (0 + out_1.length * 1 ≤ (out_1.flatMap (iC .i64)).length) && decide ((out_1.length + 1) * 8 ≤ 140737488355328) && decide (out_1.length + 1 ≤ 4611686018427387904)) (some (.eff (.hs 4 0 (out_1.length + 1) 1) [(2, .dead), (4, .own (((out_1.flatMap (iC .i64)).drop 0).take (out_1.length * 1) ++ [aI64 v11]))]))) (by kernel_rfl) (app_own (l := out_1) (xs := [v11]) (iC_len _) rfl rfl (by kernel_rfl) hg13 hg14)) <| .mu 1 <| .done <| .pop <| .ru fine ?_
   exact loopF_back (out_1 ++ [v11], wrapF .i64 (x_2 + 1)) hr ((Wk.gc [2, 3, 5, 10, 11] [(0, true), (1, true), (4, false)] rfl (pKt (pKt (pKo (iC .i64) (iC_pure _) (out_1 ++ [v11]) trivial)))).to (by kernel_rfl))
  ·refine .leave rfl ?_
   obtain rfl := Option.some.inj hr
   exact ⟨rfl, ((Wk.gc [5] [(2, false)] rfl (pKo (iC .i64) (iC_pure _) out_1 trivial)).to (by kernel_rfl))⟩
 ·rintro x st' hq17
  clear hL16
  obtain ⟨rfl, hq17⟩ := hq17
  refine CQ_exit _ rfl <| .wk hq17 <| .seq <| .r3 fine 23 [(4, .hs 0 0 out_8.length 1)] <| .ret ?_
  obtain rfl := Option.some.inj hr
  exact FinQ.ret (vs := [.hs 0 0 out_8.length 1]) (by kernel_rfl) (Sn.hs rfl (.inl rfl) (SnC.pure (ids_flat (iC_pure _) _)) (fun h => flat_nil0 h))

theorem change_Compare_ok (n : Nat) (a : api_Banded) (b : api_Banded) (r : List Int × Int) (hr : change_Compare n a b = some r) : FnOk Tryz.prog 60 [.agg (api_Banded.c a), .agg (api_Banded.c b)] (.tup [sI64 r.1, aI64 r.2]) := by
 unfold change_Compare at hr
 refine FnOk.bd fine Tryz.func60 [.tmp 4, .tmp 5] ?_
 unfold Tryz.f60
 simp only [Option.getD_some]
 refine .seq <| .r2 fine 17 [(2, .hp 0 0), (3, .hp 1 0)] [.own (api_Banded.c a), .own (api_Banded.c b)] <| .seq <| .seq ?_
 obtain ⟨v1, hc2, hr⟩ := bd hr
 refine .gn fine (ca4 [.own (api_Banded.c a), .own (api_Banded.c b), .own [aI64 a.Grid.X0, aI64 a.Grid.Y0, aI64 a.Grid.Step, aI64 a.Grid.Width, aI64 a.Grid.Height, sI64 a.Grid.Z, sI64 a.Err, aI64 b.Grid.X0, aI64 b.Grid.Y0, aI64 b.Grid.Step, aI64 b.Grid.Width, aI64 b.Grid.Height, sI64 b.Grid.Z, sI64 b.Err]] (callOk_val (args := [.hs 2 0 2 7]) (l := [2]) rfl (SnL.cons (Sn.hs rfl (.inl rfl) (SnC.cons (Sn.pure rfl) (SnC.cons (Sn.pure rfl) (SnC.cons (Sn.pure rfl) (SnC.cons (Sn.pure rfl) (SnC.cons (Sn.pure rfl) (SnC.cons (Sn.pure rfl) (SnC.cons (Sn.pure rfl) (SnC.cons (Sn.pure rfl) (SnC.cons (Sn.pure rfl) (SnC.cons (Sn.pure rfl) (SnC.cons (Sn.pure rfl) (SnC.cons (Sn.pure rfl) (SnC.cons (Sn.pure rfl) (SnC.cons (Sn.pure rfl) SnC.nil)))))))))))))) (fun h => nomatch h)) SnL.nil) (change_fit_ok n [a, b] v1 hc2))) <| .mu 3 <| .ca cf0 <| .mu 1 <| .done <| .n2 17 [(2, .hp 0 0), (3, .hp 1 0), (6, aI64 v1)] [.own (api_Banded.c a), .own (api_Banded.c b), .own [aI64 a.Grid.X0, aI64 a.Grid.Y0, aI64 a.Grid.Step, aI64 a.Grid.Width, aI64 a.Grid.Height, sI64 a.Grid.Z, sI64 a.Err, aI64 b.Grid.X0, aI64 b.Grid.Y0, aI64 b.Grid.Step, aI64 b.Grid.Width, aI64 b.Grid.Height, sI64 b.Grid.Z, sI64 b.Err]] <| .seq <| .r3 fine 17 [(2, .hp 0 0), (3, .hp 1 0), (6, aI64 v1), (12, aB ((v1 : Int) != 0))] ?_
 refine .cd hr (fun hb3 hr => ?_) (fun hb3 hr => ?_)
 ·refine .seq <| .r3 fine 17 [(4, nS), (5, aI64 v1)] <| .ret ?_
  obtain rfl := Option.some.inj hr
  exact FinQ.ret (vs := [nS, aI64 v1]) (by kernel_rfl) (Sn.tup (SnL.cons Sn.nilsl (SnL.cons (Sn.pure rfl) SnL.nil)))
 ·refine .skip <| .seq ?_
  obtain ⟨v4, hc5, hr⟩ := bd hr
  refine .g1 fine (ok0 (change_verdicts_ok n a b v4 hc5)) <| .mu 2 <| .ca cf0 <| .mu 2 <| .done <| .ret ?_
  obtain rfl := Option.some.inj hr
  exact FinQ.ret (vs := [sI64 v4, aI64 0]) (by kernel_rfl) (Sn.tup (SnL.cons (Sn.pure rfl) (SnL.cons (Sn.pure rfl) SnL.nil)))

theorem integer_split_inj {n' : Int} {n'_ : Int} (h : ([.at (.int .u64 n')] : List AV) = [.at (.int .u64 n'_)]) : n' = n'_ := by
 simp only [List.cons.injEq, AV.agg.injEq, AV.at.injEq, Value.int.injEq, Value.bool.injEq, AV.fn.injEq, AV.pp.injEq, true_and, and_true] at h
 simp_all
theorem integer_split_cg (n : Nat) {n' : Int} {n'_ : Int} (h : ([.at (.int .u64 n')] : List AV) = [.at (.int .u64 n'_)]) : integer_split n n' = integer_split n n'_ := by
 obtain rfl := integer_split_inj h
 rfl
theorem integer_split_ok (n : Nat) (n' : Int) (r : List Int) (hr : integer_split n n' = some r) : FnOk Tryz.prog 96 [aU64 n'] (sU32 r) := by
 unfold integer_split at hr
 refine FnOk.bd fine Tryz.func96 [.tmp 2] ?_
 unfold Tryz.f96
 simp only [Option.getD_some]
 refine .seq <| .r3 fine 15 [(0, aU64 n')] <| .seq <| .r3 fine 15 [(0, aU64 n'), (3, nS)] <| .seq <| .block ?_
 replace hr := bd hr; obtain ⟨g_6, hL12, hr⟩ := hr
 refine .loopO (σ := fun z0 => match z0 with | (n_1, g_2) => ⟨mkS 15 0 [(0, aU64 n_1), (3, .hs 0 0 g_2.length 1)], [.own (g_2.flatMap (iC .u32))]⟩) (Q := fun x st' => x = .exit 0 ∧ Wk 0 st' ⟨mkS 15 0 [(3, .hs 0 0 g_6.length 1)], [.own (g_6.flatMap (iC .u32))]⟩) hL12 ((Wk.nil 3 1 (by kernel_rfl)).trans ((Wk.gc [0, 3] [(0, false)] rfl (pKc trivial)).to (by kernel_rfl))) ?_ ?_
 ·clear hr
  rintro m ⟨n_1, g_2⟩ hr
  show CQ _ _ _ _ _ ⟨_, _⟩
  refine .seq <| .seq <| .r3 fine 15 [(0, aU64 n_1), (3, .hs 0 0 g_2.length 1), (5, aB (decide (n_1 > 0)))] ?_
  refine .cd hr (fun hb8 hr => ?_) (fun hb8 hr => ?_)
  ·refine .skip <| .seq <| .block ?_
   obtain ⟨hg9, hg10, hr⟩ := gd2 hr
   refine .r0 fine <| .mu 5 <| .e0 (v := .hs 2 0 (g_2 ++ [wrapF .u32 (n_1.tmod 1000000000)]).length 1) (ws := [(0, .dead), (2, .own ((g_2 ++ [wrapF .u32 (n_1.tmod 1000000000)]).flatMap (iC .u32)))]) (Eq.trans (b := guardO (decide (0 + g_2.length * 1 ≤ (g_2.flatMap (iC .u32)).length) && decide ((g_2.length + 1) * 4 ≤ 140737488355328) && decide (g_2.length + 1 ≤ 4611686018427387904)) (some (.eff (.hs 2 0 (g_2.length + 1) 1) [(0, .dead), (2, .own (((g_2.flatMap (iC .u32)).drop 0).take (g_2.length * 1) ++ [aU32 (wrapF .u32 (n_1.tmod 1000000000))]))]))) (by kernel_rfl) (app_own (l := g_2) (xs := [wrapF .u32 (n_1.tmod 1000000000)]) (iC_len _) rfl rfl (by kernel_rfl) hg9 hg10)) <| .mu 1 <| .done <| .pop <| .ru fine ?_
   exact loopF_back (wrapF .u64 (n_1.tdiv 1000000000), g_2 ++ [wrapF .u32 (n_1.tmod 1000000000)]) hr ((Wk.gc [0, 3] [(2, false)] rfl (pKo (iC .u32) (iC_pure _) (g_2 ++ [wrapF .u32 (n_1.tmod 1000000000)]) trivial)).to (by kernel_rfl))
  ·refine .leave rfl ?_
   obtain rfl := Option.some.inj hr
   exact ⟨rfl, ((Wk.gc [3] [(0, false)] rfl (pKo (iC .u32) (iC_pure _) g_2 trivial)).to (by kernel_rfl))⟩
 ·rintro x st' hq13
  clear hL12
  obtain ⟨rfl, hq13⟩ := hq13
  refine CQ_exit _ rfl <| .wk hq13 <| .seq <| .r3 fine 15 [(2, .hs 0 0 g_6.length 1)] <| .ret ?_
  obtain rfl := Option.some.inj hr
  exact FinQ.ret (vs := [.hs 0 0 g_6.length 1]) (by kernel_rfl) (Sn.hs rfl (.inl rfl) (SnC.pure (ids_flat (iC_pure _) _)) (fun h => flat_nil0 h))

theorem integer_trim_ok (n : Nat) (g : List Int) (r : List Int) (hr : integer_trim n g = some r) : FnOk Tryz.prog 131 [sU32 g] (sU32 r) := by
 unfold integer_trim at hr
 refine FnOk.bd fine Tryz.func131 [.tmp 2] ?_
 unfold Tryz.f131
 simp only [Option.getD_some]
 refine .seq <| .r3 fine 21 [(0, sU32 g)] <| .seq <| .block ?_
 replace hr := bd hr; obtain ⟨g_6, hL13, hr⟩ := hr
 refine .loopO (σ := fun z0 => match z0 with | g_1 => ⟨mkS 21 0 [(0, sU32 g_1)], []⟩) (Q := fun x st' => x = .exit 0 ∧ Wk 0 st' ⟨mkS 21 0 [(0, sU32 g_6)], []⟩) hL13 ((Wk.gc [0] [] rfl pK0).to (by kernel_rfl)) ?_ ?_
 ·clear hr
  rintro m g_1 hr
  show CQ _ _ _ _ _ ⟨_, _⟩
  refine .seq <| .seq ?_
  rcases Bool.eq_false_or_eq_true (decide ((g_1.length : Int) > 0)) with hb8 | hb8
  ·replace hr := cd_t hb8 hr
   obtain ⟨hg9, hr⟩ := gd hr
   refine .r0 fine <| .mu 2 <| .p0 (v := aB true) (Eq.trans (b := some (.pure (aB (decide ((g_1.length : Int) > 0))))) (by kernel_rfl) (by rw [hb8])) <| .mu 5 <| .pure (v := .pp (g_1.flatMap (iC .u32)) ((wrapF .i64 ((g_1.length : Int) - 1)).toNat * 1)) (by kernel_rfl) (Eq.trans (b := ORes.ofP (guardV (inR (wrapF .i64 ((g_1.length : Int) - 1)) g_1.length) (.pp (g_1.flatMap (iC .u32)) ((wrapF .i64 ((g_1.length : Int) - 1)).toNat * 1)))) (by kernel_rfl) (ofP_guard hg9)) <| .pure (v := aU32 (gt g_1 (wrapF .i64 ((g_1.length : Int) - 1)))) (by kernel_rfl) (Eq.trans (b := ORes.ofP ((g_1.flatMap (iC .u32))[(wrapF .i64 ((g_1.length : Int) - 1)).toNat * 1]?)) (by kernel_rfl) (ofP_some (flat_get (iC_len _) (inR_lt hg9) (by decide : 0 < 1) (by omega : (wrapF .i64 ((g_1.length : Int) - 1)).toNat * 1 = (wrapF .i64 ((g_1.length : Int) - 1)).toNat * 1 + 0) (by kernel_rfl)))) <| .mu 2 <| .done <| .n2 21 [(0, sU32 g_1), (14, aB (((gt g_1 (wrapF .i64 ((g_1.length : Int) - 1))) : Int) == 0))] [] ?_
   refine .cd hr (fun hb10 hr => ?_) (fun hb10 hr => ?_)
   ·refine .skip <| .block ?_
    obtain ⟨hg11, hr⟩ := gd hr
    refine .r0 fine <| .mu 4 <| .p0 (v := sU32 ((g_1.drop (0 : Int).toNat).take ((wrapF .i64 ((g_1.length : Int) - 1)).toNat - (0 : Int).toNat))) (Eq.trans (b := slO (inS 0 (wrapF .i64 ((g_1.length : Int) - 1)) g_1.length) (0 : Int).toNat (wrapF .i64 ((g_1.length : Int) - 1)).toNat (fun z1 z2 => .sl true (((g_1.flatMap (iC .u32)).drop (z1 * 1)).take ((z2 - z1) * 1)) (z2 - z1))) (by kernel_rfl) (slO_t hg11 (sub_sl (iC_len _) (inS_le hg11)))) <| .mu 1 <| .done <| .pop ?_
    exact loopF_back ((g_1.drop (0 : Int).toNat).take ((wrapF .i64 ((g_1.length : Int) - 1)).toNat - (0 : Int).toNat)) hr ((Wk.gc [0] [] rfl pK0).to (by kernel_rfl))
   ·refine .leave rfl ?_
    obtain rfl := Option.some.inj hr
    exact ⟨rfl, ((Wk.gc [0] [] rfl pK0).to (by kernel_rfl))⟩
  ·replace hr := cd_f hb8 hr
   refine .r0 fine <| .mu 2 <| .p0 (v := aB false) (Eq.trans (b := some (.pure (aB (decide ((g_1.length : Int) > 0))))) (by kernel_rfl) (by rw [hb8])) <| .mu 9 <| .done <| .n2 21 [(0, sU32 g_1), (14, aB false)] [] <| .cF (by kernel_rfl) <| .leave rfl ?_
   obtain rfl := Option.some.inj hr
   exact ⟨rfl, ((Wk.gc [0] [] rfl pK0).to (by kernel_rfl))⟩
 ·rintro x st' hq14
  clear hL13
  obtain ⟨rfl, hq14⟩ := hq14
  refine CQ_exit _ rfl <| .wk hq14 <| .seq <| .ru fine <| .ret ?_
  obtain rfl := Option.some.inj hr
  exact FinQ.r1 [sU32 g_6]

theorem integer_made_inj {negative : Bool} {g : List Int} {negative_ : Bool} {g_ : List Int} (h : ([.at (.bool negative), slT (iC .u32) g] : List AV) = [.at (.bool negative_), slT (iC .u32) g_]) : negative = negative_ ∧ g = g_ := by
 simp only [List.cons.injEq, AV.agg.injEq, AV.at.injEq, Value.int.injEq, Value.bool.injEq, AV.fn.injEq, AV.pp.injEq, true_and, and_true, slT_inj_int] at h
 simp_all
theorem integer_made_cg (n : Nat) {negative : Bool} {g : List Int} {negative_ : Bool} {g_ : List Int} (h : ([.at (.bool negative), slT (iC .u32) g] : List AV) = [.at (.bool negative_), slT (iC .u32) g_]) : integer_made n negative g = integer_made n negative_ g_ := by
 obtain ⟨rfl, rfl⟩ := integer_made_inj h
 rfl
theorem integer_made_ok (n : Nat) (negative : Bool) (g : List Int) (r : api_Int) (hr : integer_made n negative g = some r) : FnOk Tryz.prog 95 [aB negative, sU32 g] (.agg (api_Int.c r)) := by
 unfold integer_made at hr
 refine FnOk.bd fine Tryz.func95 [.cell 4 37] ?_
 unfold Tryz.f95
 simp only [Option.getD_some]
 refine .seq <| .r2 fine 14 [(0, aB negative), (1, sU32 g), (4, .hp 0 0)] [.own [aB false, nS]] <| .seq ?_
 obtain ⟨v1, hc2, hr⟩ := bd hr
 refine .g1 fine (ok0 (integer_trim_ok n g v1 hc2)) <| .mu 1 <| .ca cf0 <| .mu 1 <| .done <| .n2 14 [(0, aB negative), (1, sU32 v1), (4, .hp 0 0)] [.own [aB false, nS]] <| .seq <| .seq <| .r3 fine 14 [(0, aB negative), (1, sU32 v1), (4, .hp 0 0), (9, aB (((v1.length : Int) : Int) == 0))] ?_
 refine .cd hr (fun hb3 hr => ?_) (fun hb3 hr => ?_)
 ·refine .seq <| .r3 fine 14 [(4, .hp 0 0)] <| .ret ?_
  obtain rfl := Option.some.inj hr
  exact FinQ.ret (vs := [.agg [aB false, nS]]) (by kernel_rfl) (Sn.agg (SnL.cons (Sn.pure rfl) (SnL.cons Sn.nilsl SnL.nil)))
 ·refine .skip <| .seq <| .r2 fine 14 [(4, .hp 0 0)] [.own [aB negative, sU32 v1]] <| .ret ?_
  obtain rfl := Option.some.inj hr
  exact FinQ.r1 [.agg [aB negative, sU32 v1]]

theorem integer_Of_inj {n' : Int} {n'_ : Int} (h : ([.at (.int .i64 n')] : List AV) = [.at (.int .i64 n'_)]) : n' = n'_ := by
 simp only [List.cons.injEq, AV.agg.injEq, AV.at.injEq, Value.int.injEq, Value.bool.injEq, AV.fn.injEq, AV.pp.injEq, true_and, and_true] at h
 simp_all
theorem integer_Of_cg (n : Nat) {n' : Int} {n'_ : Int} (h : ([.at (.int .i64 n')] : List AV) = [.at (.int .i64 n'_)]) : integer_Of n n' = integer_Of n n'_ := by
 obtain rfl := integer_Of_inj h
 rfl
theorem integer_Of_ok (n : Nat) (n' : Int) (r : api_Int) (hr : integer_Of n n' = some r) : FnOk Tryz.prog 49 [aI64 n'] (.agg (api_Int.c r)) := by
 unfold integer_Of at hr
 refine FnOk.bd fine Tryz.func49 [.cell 2 37] ?_
 unfold Tryz.f49
 simp only [Option.getD_some]
 refine .seq <| .r2 fine 15 [(0, aI64 n'), (2, .hp 0 0)] [.own [aB false, nS]] <| .seq <| .r3 fine 15 [(0, aI64 n'), (2, .hp 0 0), (3, aU64 (wrapF .u64 n'))] <| .seq <| .seq <| .r3 fine 15 [(0, aI64 n'), (2, .hp 0 0), (3, aU64 (wrapF .u64 n')), (7, aB (decide (n' < 0)))] ?_
 refine .cd hr (fun hb1 hr => ?_) (fun hb1 hr => ?_)
 ·refine .r0 fine <| .mu 1 <| .p0 (v := aU64 (wrapF .u64 (0 - (wrapF .u64 n')))) (Eq.trans (b := some (.pure (aU64 (IntKind.wrap .u64 (0 - (wrapF .u64 n')))))) (by kernel_rfl) wrap_at) <| .mu 1 <| .done <| .n2 15 [(0, aI64 n'), (2, .hp 0 0), (3, aU64 (wrapF .u64 (0 - (wrapF .u64 n'))))] [.own [aB false, nS]] <| .seq ?_
  obtain ⟨v2, hc3, v4, hc5, hr⟩ := bd2 hr
  refine .gn fine (ca1 (ok0 (integer_split_ok n (wrapF .u64 (0 - (wrapF .u64 n'))) v2 hc3)) (ca3 (ok0 (integer_made_ok n true v2 v4 hc5)))) <| .mu 1 <| .p0 (v := aB true) (Eq.trans (b := some (.pure (aB (decide (n' < 0))))) (by kernel_rfl) (by rw [hb1])) <| .mu 1 <| .ca cf0 <| .ca (cfF cf0) <| .mu 1 <| .done <| .n2 15 [(2, .hp 0 0)] [.own (api_Int.c v4)] <| .ret ?_
  obtain rfl := Option.some.inj hr
  exact FinQ.r1 [.agg (api_Int.c v4)]
 ·refine .skip <| .seq ?_
  obtain ⟨v6, hc7, v8, hc9, hr⟩ := bd2 hr
  refine .gn fine (ca1 (ok0 (integer_split_ok n (wrapF .u64 n') v6 hc7)) (ca3 (ok0 (integer_made_ok n false v6 v8 hc9)))) <| .mu 1 <| .p0 (v := aB false) (Eq.trans (b := some (.pure (aB (decide (n' < 0))))) (by kernel_rfl) (by rw [hb1])) <| .mu 1 <| .ca cf0 <| .ca (cfF cf0) <| .mu 1 <| .done <| .n2 15 [(2, .hp 0 0)] [.own (api_Int.c v8)] <| .ret ?_
  obtain rfl := Option.some.inj hr
  exact FinQ.r1 [.agg (api_Int.c v8)]

theorem fraction_Whole_inj {n' : Int} {n'_ : Int} (h : ([.at (.int .i64 n')] : List AV) = [.at (.int .i64 n'_)]) : n' = n'_ := by
 simp only [List.cons.injEq, AV.agg.injEq, AV.at.injEq, Value.int.injEq, Value.bool.injEq, AV.fn.injEq, AV.pp.injEq, true_and, and_true] at h
 simp_all
theorem fraction_Whole_cg (n : Nat) {n' : Int} {n'_ : Int} (h : ([.at (.int .i64 n')] : List AV) = [.at (.int .i64 n'_)]) : fraction_Whole n n' = fraction_Whole n n'_ := by
 obtain rfl := fraction_Whole_inj h
 rfl
theorem fraction_Whole_ok (n : Nat) (n' : Int) (r : api_Rat) (hr : fraction_Whole n n' = some r) : FnOk Tryz.prog 48 [aI64 n'] (.agg (api_Rat.c r)) := by
 unfold fraction_Whole at hr
 refine FnOk.bd fine Tryz.func48 [.cell 2 39] ?_
 unfold Tryz.f48
 simp only [Option.getD_some]
 refine .seq <| .r2 fine 7 [(0, aI64 n'), (2, .hp 0 0)] [.own [aB false, nS, aB false, nS]] <| .seq ?_
 obtain ⟨v1, hc2, v3, hc4, hr⟩ := bd2 hr
 refine .gn fine (ca1 (ok0 (integer_Of_ok n n' v1 hc2)) (ca3 (ok0 (integer_Of_ok n 1 v3 hc4)))) <| .mu 1 <| .ca cf0 <| .ca (cfA (fun h => by rw [sv hc4 hc2 (integer_Of_cg n h)]) cf0) <| .mu 2 <| .done <| .n2 7 [(2, .hp 0 0)] [.own [aB v1.Negative, sU32 v1.Groups, aB v3.Negative, sU32 v3.Groups]] <| .ret ?_
 obtain rfl := Option.some.inj hr
 exact FinQ.r1 [.agg [aB v1.Negative, sU32 v1.Groups, aB v3.Negative, sU32 v3.Groups]]

theorem integer_Valid_1_ok (n : Nat) (g : Int) (r : Bool) (hr : integer_Valid_1 n g = some r) : FnOk Tryz.prog 176 [aU32 g] (aB r) := by
 unfold integer_Valid_1 at hr
 refine FnOk.bd fine Tryz.func176 [.tmp 2] ?_
 unfold Tryz.f176
 simp only [Option.getD_some]
 refine .seq <| .r3 fine 5 [(0, aU32 g)] <| .seq <| .ru fine <| .ret ?_
 obtain rfl := Option.some.inj hr
 exact FinQ.r1 [aB (decide (g ≥ 1000000000))]

theorem slices_IndexFunc_uint32_uint32_of_integer_Valid_1_ok (n : Nat) (s : List Int) (r : Int) (hr : slices_IndexFunc_uint32_uint32_of_integer_Valid_1 n s = some r) : FnOk Tryz.prog 200 [sU32 s, .fn 176 [] []] (aI64 r) := by
 unfold slices_IndexFunc_uint32_uint32_of_integer_Valid_1 at hr
 refine FnOk.bd fine Tryz.func200 [.tmp 4] ?_
 unfold Tryz.f200
 simp only [Option.getD_some]
 refine .seq <| .r3 fine 19 [(0, sU32 s), (1, .fn 176 [] [])] <| .seq <| .seq <| .r3 fine 19 [(0, sU32 s), (1, .fn 176 [] []), (7, aI64 (s.length : Int)), (8, aI64 0)] <| .block ?_
 replace hr := bd hr; obtain ⟨o13, hL14, hr⟩ := hr
 refine .loopO (σ := fun z0 => match z0 with | x_1 => ⟨mkS 19 0 [(0, sU32 s), (1, .fn 176 [] []), (7, aI64 (s.length : Int)), (8, aI64 x_1)], []⟩) (Q := fun x st' => match (generalizing := false) o13 with | .inl _ => x = .exit 0 ∧ Wk 0 st' ⟨mkS 19 0 [], []⟩ | .inr (r0) => x = .ret ∧ FinQ Tryz.prog [.tmp 4] (aI64 r0) .ret st') hL14 ((Wk.gc [0, 1, 7, 8] [] rfl pK0).to (by kernel_rfl)) ?_ ?_
 ·clear hr
  rintro m x_1 hr
  show CQ _ _ _ _ _ ⟨_, _⟩
  refine .seq <| .r3 fine 19 [(0, sU32 s), (1, .fn 176 [] []), (7, aI64 (s.length : Int)), (8, aI64 x_1), (9, aB (decide (x_1 < (s.length : Int))))] <| .seq ?_
  refine .cd hr (fun hb8 hr => ?_) (fun hb8 hr => ?_)
  ·refine .skip <| .seq <| .block <| .seq <| .r3 fine 19 [(0, sU32 s), (1, .fn 176 [] []), (5, aI64 x_1), (7, aI64 (s.length : Int)), (8, aI64 x_1)] <| .seq ?_
   obtain ⟨hg9, hr⟩ := gd hr
   obtain ⟨v10, hc11, hr⟩ := bd hr
   refine .g1 fine (ok0 (integer_Valid_1_ok n (gt s x_1) v10 hc11)) <| .mu 3 <| .p0 (v := .pp (s.flatMap (iC .u32)) (x_1.toNat * 1)) (Eq.trans (b := ORes.ofP (guardV (inR x_1 s.length) (.pp (s.flatMap (iC .u32)) (x_1.toNat * 1)))) (by kernel_rfl) (ofP_guard hg9)) <| .p0 (v := aU32 (gt s x_1)) (Eq.trans (b := ORes.ofP ((s.flatMap (iC .u32))[x_1.toNat * 1]?)) (by kernel_rfl) (ofP_some (flat_get (iC_len _) (inR_lt hg9) (by decide : 0 < 1) (by omega : x_1.toNat * 1 = x_1.toNat * 1 + 0) (by kernel_rfl)))) <| .ca cf0 <| .done <| .n2 19 [(0, sU32 s), (1, .fn 176 [] []), (5, aI64 x_1), (7, aI64 (s.length : Int)), (8, aI64 x_1), (16, aB v10)] [] ?_
   refine .cd hr (fun hb12 hr => ?_) (fun hb12 hr => ?_)
   ·refine .seq <| .ru fine <| .ret ?_
    obtain rfl := Option.some.inj hr
    exact ⟨rfl, FinQ.ret (vs := [aI64 x_1]) (by kernel_rfl) (Sn.pure rfl)⟩
   ·refine .skip <| .pop <| .ru fine ?_
    exact loopF_back (wrapF .i64 (x_1 + 1)) hr ((Wk.gc [0, 1, 7, 8] [] rfl pK0).to (by kernel_rfl))
  ·refine .leave rfl ?_
   obtain rfl := Option.some.inj hr
   exact ⟨rfl, ((Wk.gc [] [] rfl pK0).to (by kernel_rfl))⟩
 ·rcases o13 with ⟨⟩ | r0
  ·rintro x st' hq15
   clear hL14
   obtain ⟨rfl, hq15⟩ := hq15
   refine CQ_exit _ rfl <| .wk hq15 <| .seq <| .ru fine <| .ret ?_
   obtain rfl := Option.some.inj hr
   exact FinQ.r1 [aI64 (-1)]
  ·rintro x st' hq15
   clear hL14
   obtain ⟨rfl, hq15⟩ := hq15
   obtain rfl := Option.some.inj hr
   exact CQ_ret _ hq15

theorem slices_ContainsFunc_uint32_uint32_of_integer_Valid_1_ok (n : Nat) (s : List Int) (r : Bool) (hr : slices_ContainsFunc_uint32_uint32_of_integer_Valid_1 n s = some r) : FnOk Tryz.prog 175 [sU32 s, .fn 176 [] []] (aB r) := by
 unfold slices_ContainsFunc_uint32_uint32_of_integer_Valid_1 at hr
 refine FnOk.bd fine Tryz.func175 [.tmp 4] ?_
 unfold Tryz.f175
 simp only [Option.getD_some]
 refine .seq <| .r3 fine 9 [(0, sU32 s), (1, .fn 176 [] [])] <| .seq ?_
 obtain ⟨v1, hc2, hr⟩ := bd hr
 refine .g1 fine (ok0 (slices_IndexFunc_uint32_uint32_of_integer_Valid_1_ok n s v1 hc2)) <| .mu 2 <| .ca cf0 <| .mu 2 <| .done <| .ret ?_
 obtain rfl := Option.some.inj hr
 exact FinQ.r1 [aB (decide (v1 ≥ 0))]

theorem integer_Valid_inj {x' : api_Int} {x'_ : api_Int} (h : ([.agg [.at (.bool x'.Negative), slT (iC .u32) x'.Groups]] : List AV) = [.agg [.at (.bool x'_.Negative), slT (iC .u32) x'_.Groups]]) : x' = x'_ := by
 obtain ⟨_, _⟩ := x'
 obtain ⟨_, _⟩ := x'_
 simp only [List.cons.injEq, AV.agg.injEq, AV.at.injEq, Value.int.injEq, Value.bool.injEq, AV.fn.injEq, AV.pp.injEq, true_and, and_true, slT_inj_int] at h
 simp_all
theorem integer_Valid_cg (n : Nat) {x' : api_Int} {x'_ : api_Int} (h : ([.agg [.at (.bool x'.Negative), slT (iC .u32) x'.Groups]] : List AV) = [.agg [.at (.bool x'_.Negative), slT (iC .u32) x'_.Groups]]) : integer_Valid n x' = integer_Valid n x'_ := by
 obtain rfl := integer_Valid_inj h
 rfl
theorem integer_Valid_ok (n : Nat) (x' : api_Int) (r : Bool) (hr : integer_Valid n x' = some r) : FnOk Tryz.prog 132 [.agg (api_Int.c x')] (aB r) := by
 unfold integer_Valid at hr
 refine FnOk.bd fine Tryz.func132 [.tmp 2] ?_
 unfold Tryz.f132
 simp only [Option.getD_some]
 refine .seq <| .r2 fine 25 [(1, .hp 0 0)] [.own (api_Int.c x')] <| .seq <| .r3 fine 25 [(1, .hp 0 0), (3, aI64 (x'.Groups.length : Int))] <| .seq <| .seq <| .r3 fine 25 [(1, .hp 0 0), (3, aI64 (x'.Groups.length : Int)), (8, aB (((x'.Groups.length : Int) : Int) == 0))] ?_
 refine .cd hr (fun hb1 hr => ?_) (fun hb1 hr => ?_)
 ·refine .seq <| .ru fine <| .ret ?_
  obtain rfl := Option.some.inj hr
  exact FinQ.r1 [aB (!x'.Negative)]
 ·refine .skip <| .seq ?_
  obtain ⟨hg2, hr⟩ := gd hr
  rcases Bool.eq_false_or_eq_true (((gt x'.Groups (wrapF .i64 ((x'.Groups.length : Int) - 1))) : Int) != 0) with hb3 | hb3
  ·replace hr := cd_t hb3 hr
   obtain ⟨v4, hc5, hr⟩ := bd hr
   refine .g1 fine (ok0 (slices_ContainsFunc_uint32_uint32_of_integer_Valid_1_ok n x'.Groups v4 hc5)) <| .mu 4 <| .p0 (v := .pp (x'.Groups.flatMap (iC .u32)) ((wrapF .i64 ((x'.Groups.length : Int) - 1)).toNat * 1)) (Eq.trans (b := ORes.ofP (guardV (inR (wrapF .i64 ((x'.Groups.length : Int) - 1)) x'.Groups.length) (.pp (x'.Groups.flatMap (iC .u32)) ((wrapF .i64 ((x'.Groups.length : Int) - 1)).toNat * 1)))) (by kernel_rfl) (ofP_guard hg2)) <| .p0 (v := aU32 (gt x'.Groups (wrapF .i64 ((x'.Groups.length : Int) - 1)))) (Eq.trans (b := ORes.ofP ((x'.Groups.flatMap (iC .u32))[(wrapF .i64 ((x'.Groups.length : Int) - 1)).toNat * 1]?)) (by kernel_rfl) (ofP_some (flat_get (iC_len _) (inR_lt hg2) (by decide : 0 < 1) (by omega : (wrapF .i64 ((x'.Groups.length : Int) - 1)).toNat * 1 = (wrapF .i64 ((x'.Groups.length : Int) - 1)).toNat * 1 + 0) (by kernel_rfl)))) <| .p0 (v := aB true) (Eq.trans (b := some (.pure (aB (((gt x'.Groups (wrapF .i64 ((x'.Groups.length : Int) - 1))) : Int) != 0)))) (by kernel_rfl) (by rw [hb3])) <| .mu 3 <| .ca cf0 <| .mu 3 <| .done <| .ret ?_
   obtain rfl := Option.some.inj hr
   exact FinQ.r1 [aB (!v4)]
  ·replace hr := cd_f hb3 hr
   refine .r0 fine <| .mu 4 <| .p0 (v := .pp (x'.Groups.flatMap (iC .u32)) ((wrapF .i64 ((x'.Groups.length : Int) - 1)).toNat * 1)) (Eq.trans (b := ORes.ofP (guardV (inR (wrapF .i64 ((x'.Groups.length : Int) - 1)) x'.Groups.length) (.pp (x'.Groups.flatMap (iC .u32)) ((wrapF .i64 ((x'.Groups.length : Int) - 1)).toNat * 1)))) (by kernel_rfl) (ofP_guard hg2)) <| .p0 (v := aU32 (gt x'.Groups (wrapF .i64 ((x'.Groups.length : Int) - 1)))) (Eq.trans (b := ORes.ofP ((x'.Groups.flatMap (iC .u32))[(wrapF .i64 ((x'.Groups.length : Int) - 1)).toNat * 1]?)) (by kernel_rfl) (ofP_some (flat_get (iC_len _) (inR_lt hg2) (by decide : 0 < 1) (by omega : (wrapF .i64 ((x'.Groups.length : Int) - 1)).toNat * 1 = (wrapF .i64 ((x'.Groups.length : Int) - 1)).toNat * 1 + 0) (by kernel_rfl)))) <| .p0 (v := aB false) (Eq.trans (b := some (.pure (aB (((gt x'.Groups (wrapF .i64 ((x'.Groups.length : Int) - 1))) : Int) != 0)))) (by kernel_rfl) (by rw [hb3])) <| .mu 7 <| .done <| .ret ?_
   obtain rfl := Option.some.inj hr
   exact FinQ.r1 [aB false]

theorem integer_groups_inj {x' : api_Int} {x'_ : api_Int} (h : ([.agg [.at (.bool x'.Negative), slT (iC .u32) x'.Groups]] : List AV) = [.agg [.at (.bool x'_.Negative), slT (iC .u32) x'_.Groups]]) : x' = x'_ := by
 obtain ⟨_, _⟩ := x'
 obtain ⟨_, _⟩ := x'_
 simp only [List.cons.injEq, AV.agg.injEq, AV.at.injEq, Value.int.injEq, Value.bool.injEq, AV.fn.injEq, AV.pp.injEq, true_and, and_true, slT_inj_int] at h
 simp_all
theorem integer_groups_cg (n : Nat) {x' : api_Int} {x'_ : api_Int} (h : ([.agg [.at (.bool x'.Negative), slT (iC .u32) x'.Groups]] : List AV) = [.agg [.at (.bool x'_.Negative), slT (iC .u32) x'_.Groups]]) : integer_groups n x' = integer_groups n x'_ := by
 obtain rfl := integer_groups_inj h
 rfl
theorem integer_groups_ok (n : Nat) (x' : api_Int) (r : List Int) (hr : integer_groups n x' = some r) : FnOk Tryz.prog 100 [.agg (api_Int.c x')] (sU32 r) := by
 unfold integer_groups at hr
 refine FnOk.bd fine Tryz.func100 [.tmp 2] ?_
 unfold Tryz.f100
 simp only [Option.getD_some]
 refine .seq <| .r2 fine 8 [(1, .hp 0 0)] [.own (api_Int.c x')] <| .seq <| .seq ?_
 obtain ⟨v1, hc2, hr⟩ := bd hr
 refine .g1 fine (ok0 (integer_Valid_ok n x' v1 hc2)) <| .mu 1 <| .ca cf0 <| .mu 1 <| .done <| .n2 8 [(1, .hp 0 0), (5, aB (!v1))] [.own (api_Int.c x')] ?_
 refine .cd hr (fun hb3 hr => ?_) (fun hb3 hr => ?_)
 ·refine .seq <| .r3 fine 8 [(2, nS)] <| .ret ?_
  obtain rfl := Option.some.inj hr
  exact FinQ.ret (vs := [nS]) (by kernel_rfl) Sn.nilsl
 ·refine .skip <| .seq <| .ru fine <| .ret ?_
  obtain rfl := Option.some.inj hr
  exact FinQ.r1 [sU32 x'.Groups]

theorem integer_Sign_inj {x' : api_Int} {x'_ : api_Int} (h : ([.agg [.at (.bool x'.Negative), slT (iC .u32) x'.Groups]] : List AV) = [.agg [.at (.bool x'_.Negative), slT (iC .u32) x'_.Groups]]) : x' = x'_ := by
 obtain ⟨_, _⟩ := x'
 obtain ⟨_, _⟩ := x'_
 simp only [List.cons.injEq, AV.agg.injEq, AV.at.injEq, Value.int.injEq, Value.bool.injEq, AV.fn.injEq, AV.pp.injEq, true_and, and_true, slT_inj_int] at h
 simp_all
theorem integer_Sign_cg (n : Nat) {x' : api_Int} {x'_ : api_Int} (h : ([.agg [.at (.bool x'.Negative), slT (iC .u32) x'.Groups]] : List AV) = [.agg [.at (.bool x'_.Negative), slT (iC .u32) x'_.Groups]]) : integer_Sign n x' = integer_Sign n x'_ := by
 obtain rfl := integer_Sign_inj h
 rfl
theorem integer_Sign_ok (n : Nat) (x' : api_Int) (r : Int) (hr : integer_Sign n x' = some r) : FnOk Tryz.prog 91 [.agg (api_Int.c x')] (aI64 r) := by
 unfold integer_Sign at hr
 refine FnOk.bd fine Tryz.func91 [.tmp 2] ?_
 unfold Tryz.f91
 simp only [Option.getD_some]
 refine .seq <| .r2 fine 11 [(1, .hp 0 0)] [.own (api_Int.c x')] <| .seq <| .block <| .seq ?_
 obtain ⟨v1, hc2, hr⟩ := bd hr
 refine .g1 fine (ok0 (integer_groups_ok n x' v1 hc2)) <| .mu 1 <| .ca cf0 <| .mu 3 <| .done <| .n2 11 [(1, .hp 0 0), (3, aB (((v1.length : Int) : Int) == 0))] [.own (api_Int.c x')] ?_
 refine .cd hr (fun hb3 hr => ?_) (fun hb3 hr => ?_)
 ·refine .seq <| .ru fine <| .ret ?_
  obtain rfl := Option.some.inj hr
  exact FinQ.r1 [aI64 0]
 ·refine .seq <| .r3 fine 11 [(8, aB x'.Negative)] ?_
  refine .cd hr (fun hb4 hr => ?_) (fun hb4 hr => ?_)
  ·refine .seq <| .ru fine <| .ret ?_
   obtain rfl := Option.some.inj hr
   exact FinQ.r1 [aI64 (-1)]
  ·refine .skip <| .pop <| .seq <| .ru fine <| .ret ?_
   obtain rfl := Option.some.inj hr
   exact FinQ.r1 [aI64 1]




theorem integer_times_ok (n : Nat) (a : List Int) (b : List Int) (r : List Int) (hr : integer_times n a b = some r) : FnOk Tryz.prog 99 [sU32 a, sU32 b] (sU32 r) := by
 unfold integer_times at hr
 refine FnOk.bd fine Tryz.func99 [.tmp 4] ?_
 unfold Tryz.f99
 simp only [Option.getD_some]
 refine .seq <| .r3 fine 69 [(0, sU32 a), (1, sU32 b)] <| .seq ?_
 obtain ⟨hg1, hg2, hg3, hr⟩ := gd3 hr
 refine .r0 fine <| .mu 5 <| .e0 (v := .hs 0 0 (List.replicate (wrapF .i64 ((a.length : Int) + (b.length : Int))).toNat ((0 : Int) : Int)).length 1) (ws := [(0, .own ((List.replicate (wrapF .i64 ((a.length : Int) + (b.length : Int))).toNat ((0 : Int) : Int)).flatMap (iC .u32)))]) (Eq.trans (b := guardO (decide (0 ≤ (wrapF .i64 ((a.length : Int) + (b.length : Int)))) && decide ((wrapF .i64 ((a.length : Int) + (b.length : Int))) ≤ (wrapF .i64 ((a.length : Int) + (b.length : Int)))) && decide ((4 : Int) * (wrapF .i64 ((a.length : Int) + (b.length : Int))) ≤ 281474976710656) && decide ((wrapF .i64 ((a.length : Int) + (b.length : Int))) ≤ 9223372036854775807) && true && true && true) (some (.eff (.hs 0 0 (wrapF .i64 ((a.length : Int) + (b.length : Int))).toNat 1) [(0, .own (zerosA [aU32 0] (wrapF .i64 ((a.length : Int) + (b.length : Int))).toNat))]))) (by kernel_rfl) (make_own (c := (iC .u32)) (z := (0 : Int)) (n := wrapF .i64 ((a.length : Int) + (b.length : Int))) (by_ := 4) rfl hg1 hg2 hg3)) <| .mu 1 <| .done <| .n2 69 [(0, sU32 a), (1, sU32 b), (5, .hs 0 0 (List.replicate (wrapF .i64 ((a.length : Int) + (b.length : Int))).toNat ((0 : Int) : Int)).length 1)] [.own ((List.replicate (wrapF .i64 ((a.length : Int) + (b.length : Int))).toNat ((0 : Int) : Int)).flatMap (iC .u32))] <| .seq <| .seq <| .r3 fine 69 [(1, sU32 b), (5, .hs 0 0 (List.replicate (wrapF .i64 ((a.length : Int) + (b.length : Int))).toNat ((0 : Int) : Int)).length 1), (18, sU32 a), (19, aI64 (a.length : Int)), (20, aI64 0)] <| .block ?_
 replace hr := bd hr; obtain ⟨out_24, hL45, hr⟩ := hr
 refine .loopO (σ := fun z0 => match z0 with | (out_4, x_5) => ⟨mkS 69 0 [(1, sU32 b), (5, .hs 0 0 out_4.length 1), (18, sU32 a), (19, aI64 (a.length : Int)), (20, aI64 x_5)], [.own (out_4.flatMap (iC .u32))]⟩) (Q := fun x st' => x = .exit 0 ∧ Wk 0 st' ⟨mkS 69 0 [(5, .hs 0 0 out_24.length 1)], [.own (out_24.flatMap (iC .u32))]⟩) hL45 ((Wk.gc [1, 5, 18, 19, 20] [(0, false)] rfl (pKo (iC .u32) (iC_pure _) (List.replicate (wrapF .i64 ((a.length : Int) + (b.length : Int))).toNat ((0 : Int) : Int)) trivial)).to (by kernel_rfl)) ?_ ?_
 ·clear hr
  rintro m ⟨out_4, x_5⟩ hr
  show CQ _ _ _ _ _ ⟨_, _⟩
  refine .seq <| .r3 fine 69 [(1, sU32 b), (5, .hs 0 0 out_4.length 1), (18, sU32 a), (19, aI64 (a.length : Int)), (20, aI64 x_5), (21, aB (decide (x_5 < (a.length : Int))))] <| .seq ?_
  refine .cd hr (fun hb26 hr => ?_) (fun hb26 hr => ?_)
  ·refine .skip <| .seq <| .block <| .seq ?_
   obtain ⟨hg27, hr⟩ := gd hr
   refine .r0 fine <| .mu 1 <| .p0 (v := .pp (a.flatMap (iC .u32)) (x_5.toNat * 1)) (Eq.trans (b := ORes.ofP (guardV (inR x_5 a.length) (.pp (a.flatMap (iC .u32)) (x_5.toNat * 1)))) (by kernel_rfl) (ofP_guard hg27)) <| .p0 (v := aU32 (gt a x_5)) (Eq.trans (b := ORes.ofP ((a.flatMap (iC .u32))[x_5.toNat * 1]?)) (by kernel_rfl) (ofP_some (flat_get (iC_len _) (inR_lt hg27) (by decide : 0 < 1) (by omega : x_5.toNat * 1 = x_5.toNat * 1 + 0) (by kernel_rfl)))) <| .mu 2 <| .done <| .n2 69 [(1, sU32 b), (5, .hs 0 0 out_4.length 1), (6, aI64 x_5), (7, aU32 (gt a x_5)), (18, sU32 a), (19, aI64 (a.length : Int)), (20, aI64 x_5)] [.own (out_4.flatMap (iC .u32))] <| .seq <| .r3 fine 69 [(1, sU32 b), (5, .hs 0 0 out_4.length 1), (6, aI64 x_5), (7, aU32 (gt a x_5)), (8, aU64 0), (18, sU32 a), (19, aI64 (a.length : Int)), (20, aI64 x_5)] <| .seq <| .seq <| .r3 fine 69 [(1, sU32 b), (5, .hs 0 0 out_4.length 1), (6, aI64 x_5), (7, aU32 (gt a x_5)), (8, aU64 0), (18, sU32 a), (19, aI64 (a.length : Int)), (20, aI64 x_5), (25, sU32 b), (26, aI64 (b.length : Int)), (27, aI64 0)] <| .block ?_
   replace hr := bd hr; obtain ⟨o40, hL41, hr⟩ := hr
   refine .loopO (σ := fun z0 => match z0 with | (out_28, carry_29, x_30) => ⟨mkS 69 0 [(1, sU32 b), (5, .hs 0 0 out_28.length 1), (6, aI64 x_5), (7, aU32 (gt a x_5)), (8, aU64 carry_29), (18, sU32 a), (19, aI64 (a.length : Int)), (20, aI64 x_5), (25, sU32 b), (26, aI64 (b.length : Int)), (27, aI64 x_30)], [.own (out_28.flatMap (iC .u32))]⟩) (Q := fun x st' => match (generalizing := false) o40 with | (out_34, carry_35) => x = .exit 2 ∧ Wk 0 st' ⟨mkS 69 0 [(1, sU32 b), (5, .hs 0 0 out_34.length 1), (6, aI64 x_5), (8, aU64 carry_35), (18, sU32 a), (19, aI64 (a.length : Int)), (20, aI64 x_5)], [.own (out_34.flatMap (iC .u32))]⟩) hL41 ((Wk.gc [1, 5, 6, 7, 8, 18, 19, 20, 25, 26, 27] [(0, false)] rfl (pKo (iC .u32) (iC_pure _) out_4 trivial)).to (by kernel_rfl)) ?_ ?_
   ·clear hr
    rintro m ⟨out_28, carry_29, x_30⟩ hr
    show CQ _ _ _ _ _ ⟨_, _⟩
    refine .seq <| .r3 fine 69 [(1, sU32 b), (5, .hs 0 0 out_28.length 1), (6, aI64 x_5), (7, aU32 (gt a x_5)), (8, aU64 carry_29), (18, sU32 a), (19, aI64 (a.length : Int)), (20, aI64 x_5), (25, sU32 b), (26, aI64 (b.length : Int)), (27, aI64 x_30), (28, aB (decide (x_30 < (b.length : Int))))] <| .seq ?_
    refine .cd hr (fun hb37 hr => ?_) (fun hb37 hr => ?_)
    ·refine .skip <| .seq <| .block <| .seq ?_
     obtain ⟨hg38, hr⟩ := gd hr
     refine .r0 fine <| .mu 1 <| .p0 (v := .pp (b.flatMap (iC .u32)) (x_30.toNat * 1)) (Eq.trans (b := ORes.ofP (guardV (inR x_30 b.length) (.pp (b.flatMap (iC .u32)) (x_30.toNat * 1)))) (by kernel_rfl) (ofP_guard hg38)) <| .p0 (v := aU32 (gt b x_30)) (Eq.trans (b := ORes.ofP ((b.flatMap (iC .u32))[x_30.toNat * 1]?)) (by kernel_rfl) (ofP_some (flat_get (iC_len _) (inR_lt hg38) (by decide : 0 < 1) (by omega : x_30.toNat * 1 = x_30.toNat * 1 + 0) (by kernel_rfl)))) <| .mu 2 <| .done <| .n2 69 [(1, sU32 b), (5, .hs 0 0 out_28.length 1), (6, aI64 x_5), (7, aU32 (gt a x_5)), (8, aU64 carry_29), (9, aI64 x_30), (10, aU32 (gt b x_30)), (18, sU32 a), (19, aI64 (a.length : Int)), (20, aI64 x_5), (25, sU32 b), (26, aI64 (b.length : Int)), (27, aI64 x_30)] [.own (out_28.flatMap (iC .u32))] <| .seq ?_
     obtain ⟨hg39, hr⟩ := gd hr
     refine .r0 fine <| .mu 4 <| .p0 (v := .hp 0 (0 + (wrapF .i64 (x_5 + x_30)).toNat * 1)) (Eq.trans (b := ORes.ofP (guardV (inR (wrapF .i64 (x_5 + x_30)) out_28.length) (.hp 0 (0 + (wrapF .i64 (x_5 + x_30)).toNat * 1)))) (by kernel_rfl) (ofP_guard hg39)) <| .p0 (v := aU32 (gt out_28 (wrapF .i64 (x_5 + x_30)))) (Eq.trans (b := ORes.ofP ((out_28.flatMap (iC .u32))[0 + (wrapF .i64 (x_5 + x_30)).toNat * 1]?)) (by kernel_rfl) (ofP_some (flat_get (iC_len _) (inR_lt hg39) (by decide : 0 < 1) (by omega : 0 + (wrapF .i64 (x_5 + x_30)).toNat * 1 = (wrapF .i64 (x_5 + x_30)).toNat * 1 + 0) (by kernel_rfl)))) <| .mu 10 <| .done <| .n2 69 [(1, sU32 b), (5, .hs 0 0 out_28.length 1), (6, aI64 x_5), (7, aU32 (gt a x_5)), (9, aI64 x_30), (11, aU64 (wrapF .u64 ((wrapF .u64 ((wrapF .u64 (gt out_28 (wrapF .i64 (x_5 + x_30)))) + (wrapF .u64 ((wrapF .u64 (gt a x_5)) * (wrapF .u64 (gt b x_30)))))) + carry_29))), (18, sU32 a), (19, aI64 (a.length : Int)), (20, aI64 x_5), (25, sU32 b), (26, aI64 (b.length : Int)), (27, aI64 x_30)] [.own (out_28.flatMap (iC .u32))] <| .r0 fine <| .mu 9 <| .p0 (v := .hp 0 (0 + (wrapF .i64 (x_5 + x_30)).toNat * 1)) (Eq.trans (b := ORes.ofP (guardV (inR (wrapF .i64 (x_5 + x_30)) out_28.length) (.hp 0 (0 + (wrapF .i64 (x_5 + x_30)).toNat * 1)))) (by kernel_rfl) (ofP_guard hg39)) <| .e0 (v := .unk) (ws := [(0, .own ((out_28.set (wrapF .i64 (x_5 + x_30)).toNat (wrapF .u32 ((wrapF .u64 ((wrapF .u64 ((wrapF .u64 (gt out_28 (wrapF .i64 (x_5 + x_30)))) + (wrapF .u64 ((wrapF .u64 (gt a x_5)) * (wrapF .u64 (gt b x_30)))))) + carry_29)).tmod 1000000000))).flatMap (iC .u32)))]) (Eq.trans (b := stO (decide ((0 + (wrapF .i64 (x_5 + x_30)).toNat * 1) + 1 ≤ (out_28.flatMap (iC .u32)).length) && true) [(0, .own (setCells (out_28.flatMap (iC .u32)) (0 + (wrapF .i64 (x_5 + x_30)).toNat * 1) [aU32 (wrapF .u32 ((wrapF .u64 ((wrapF .u64 ((wrapF .u64 (gt out_28 (wrapF .i64 (x_5 + x_30)))) + (wrapF .u64 ((wrapF .u64 (gt a x_5)) * (wrapF .u64 (gt b x_30)))))) + carry_29)).tmod 1000000000))]))]) (by kernel_rfl) (stO_t (and_t (flat_fits (iC_len _) (inR_lt hg39) (Nat.le_of_ble_eq_true rfl) (by omega : 0 + (wrapF .i64 (x_5 + x_30)).toNat * 1 = (wrapF .i64 (x_5 + x_30)).toNat * 1 + 0))) (congrArg Blk.own (flat_set (iC_len _) (inR_lt hg39) (Nat.le_of_ble_eq_true rfl) (by omega : 0 + (wrapF .i64 (x_5 + x_30)).toNat * 1 = (wrapF .i64 (x_5 + x_30)).toNat * 1 + 0) (by kernel_rfl))))) <| .mu 1 <| .done <| .pop <| .ru fine ?_
     exact loopF_back (out_28.set (wrapF .i64 (x_5 + x_30)).toNat (wrapF .u32 ((wrapF .u64 ((wrapF .u64 ((wrapF .u64 (gt out_28 (wrapF .i64 (x_5 + x_30)))) + (wrapF .u64 ((wrapF .u64 (gt a x_5)) * (wrapF .u64 (gt b x_30)))))) + carry_29)).tmod 1000000000)), wrapF .u64 ((wrapF .u64 ((wrapF .u64 ((wrapF .u64 (gt out_28 (wrapF .i64 (x_5 + x_30)))) + (wrapF .u64 ((wrapF .u64 (gt a x_5)) * (wrapF .u64 (gt b x_30)))))) + carry_29)).tdiv 1000000000), wrapF .i64 (x_30 + 1)) hr ((Wk.relen 5 (b := 0) (es := 1) (len := out_28.length) (out_28.set (wrapF .i64 (x_5 + x_30)).toNat (wrapF .u32 ((wrapF .u64 ((wrapF .u64 ((wrapF .u64 (gt out_28 (wrapF .i64 (x_5 + x_30)))) + (wrapF .u64 ((wrapF .u64 (gt a x_5)) * (wrapF .u64 (gt b x_30)))))) + carry_29)).tmod 1000000000))).length (by kernel_rfl) (by simp)).trans ((Wk.gc [1, 5, 6, 7, 8, 18, 19, 20, 25, 26, 27] [(0, false)] rfl (pKo (iC .u32) (iC_pure _) (out_28.set (wrapF .i64 (x_5 + x_30)).toNat (wrapF .u32 ((wrapF .u64 ((wrapF .u64 ((wrapF .u64 (gt out_28 (wrapF .i64 (x_5 + x_30)))) + (wrapF .u64 ((wrapF .u64 (gt a x_5)) * (wrapF .u64 (gt b x_30)))))) + carry_29)).tmod 1000000000))) trivial)).to (by kernel_rfl)))
    ·refine .leave rfl ?_
     obtain rfl := Option.some.inj hr
     exact ⟨rfl, ((Wk.gc [1, 5, 6, 8, 18, 19, 20] [(0, false)] rfl (pKo (iC .u32) (iC_pure _) out_28 trivial)).to (by kernel_rfl))⟩
   ·rcases o40 with ⟨out_34, carry_35⟩
    rintro x st' hq42
    clear hL41
    obtain ⟨rfl, hq42⟩ := hq42
    refine CQ_exit _ rfl <| .wk hq42 ?_
    obtain ⟨hg43, hr⟩ := gd hr
    refine .r0 fine <| .mu 7 <| .p0 (v := .hp 0 (0 + (wrapF .i64 (x_5 + (b.length : Int))).toNat * 1)) (Eq.trans (b := ORes.ofP (guardV (inR (wrapF .i64 (x_5 + (b.length : Int))) out_34.length) (.hp 0 (0 + (wrapF .i64 (x_5 + (b.length : Int))).toNat * 1)))) (by kernel_rfl) (ofP_guard hg43)) <| .e0 (v := .unk) (ws := [(0, .own ((out_34.set (wrapF .i64 (x_5 + (b.length : Int))).toNat (wrapF .u32 carry_35)).flatMap (iC .u32)))]) (Eq.trans (b := stO (decide ((0 + (wrapF .i64 (x_5 + (b.length : Int))).toNat * 1) + 1 ≤ (out_34.flatMap (iC .u32)).length) && true) [(0, .own (setCells (out_34.flatMap (iC .u32)) (0 + (wrapF .i64 (x_5 + (b.length : Int))).toNat * 1) [aU32 (wrapF .u32 carry_35)]))]) (by kernel_rfl) (stO_t (and_t (flat_fits (iC_len _) (inR_lt hg43) (Nat.le_of_ble_eq_true rfl) (by omega : 0 + (wrapF .i64 (x_5 + (b.length : Int))).toNat * 1 = (wrapF .i64 (x_5 + (b.length : Int))).toNat * 1 + 0))) (congrArg Blk.own (flat_set (iC_len _) (inR_lt hg43) (Nat.le_of_ble_eq_true rfl) (by omega : 0 + (wrapF .i64 (x_5 + (b.length : Int))).toNat * 1 = (wrapF .i64 (x_5 + (b.length : Int))).toNat * 1 + 0) (by kernel_rfl))))) <| .done <| .pop <| .ru fine ?_
    exact loopF_back (out_34.set (wrapF .i64 (x_5 + (b.length : Int))).toNat (wrapF .u32 carry_35), wrapF .i64 (x_5 + 1)) hr ((Wk.relen 5 (b := 0) (es := 1) (len := out_34.length) (out_34.set (wrapF .i64 (x_5 + (b.length : Int))).toNat (wrapF .u32 carry_35)).length (by kernel_rfl) (by simp)).trans ((Wk.gc [1, 5, 18, 19, 20] [(0, false)] rfl (pKo (iC .u32) (iC_pure _) (out_34.set (wrapF .i64 (x_5 + (b.length : Int))).toNat (wrapF .u32 carry_35)) trivial)).to (by kernel_rfl)))
  ·refine .leave rfl ?_
   obtain rfl := Option.some.inj hr
   exact ⟨rfl, ((Wk.gc [5] [(0, false)] rfl (pKo (iC .u32) (iC_pure _) out_4 trivial)).to (by kernel_rfl))⟩
 ·rintro x st' hq46
  clear hL45
  obtain ⟨rfl, hq46⟩ := hq46
  refine CQ_exit _ rfl <| .wk hq46 <| .seq ?_
  obtain ⟨v47, hc48, hr⟩ := bd hr
  refine .g1 fine (callOk_ref (args := [.hs 0 0 out_24.length 1]) (l := [0]) (SnL.cons (Sn.hs rfl (.inl rfl) (SnC.pure (ids_flat (iC_pure _) _)) (fun h => flat_nil0 h)) SnL.nil) (integer_trim_ok n out_24 v47 hc48)) <| .mu 1 <| .ca cf0 <| .mu 1 <| .done <| .ret ?_
  obtain rfl := Option.some.inj hr
  exact FinQ.r1 [sU32 v47]

theorem integer_trim_w_ok (n : Nat) (g : List Int) (r : List Int) (hr : integer_trim_w n g = some r) : FnMut 1 Tryz.prog 131 [.hs 0 0 g.length 1] [.own (g.flatMap (iC .u32))] (.hs 0 0 r.length 1) [.own (r.flatMap (iC .u32))] := by
 unfold integer_trim_w at hr
 refine FnMut.bodyW fine Tryz.func131 (c := (Tryz.f131.body).getD .skip) rfl (us := [.hs 0 0 r.length 1]) (s := mkS 21 0 [(0, .hs 0 0 g.length 1)]) (by kernel_rfl) (rs := [.tmp 2]) rfl ?_
 unfold Tryz.f131
 simp only [Option.getD_some]
 refine .seq <| .r3 fine 21 [(0, .hs 0 0 g.length 1)] <| .seq <| .block ?_
 replace hr := bd hr; obtain ⟨g_21, hL28, hr⟩ := hr
 refine .loopO (σ := fun z0 => match z0 with | g_16 => ⟨mkS 21 0 [(0, .hs 0 0 g_16.length 1)], [.own (g_16.flatMap (iC .u32))]⟩) (Q := fun x st' => x = .exit 0 ∧ Wk 1 st' ⟨mkS 21 0 [(0, .hs 0 0 g_21.length 1)], [.own (g_21.flatMap (iC .u32))]⟩) hL28 ((Wk.gc [0] [(0, false)] rfl (pKo (iC .u32) (iC_pure _) g trivial)).to (by kernel_rfl)) ?_ ?_
 ·clear hr
  rintro m g_16 hr
  show CQ _ _ _ _ _ ⟨_, _⟩
  refine .seq <| .seq ?_
  rcases Bool.eq_false_or_eq_true (decide ((g_16.length : Int) > 0)) with hb23 | hb23
  ·replace hr := cd_t hb23 hr
   obtain ⟨hg24, hr⟩ := gd hr
   refine .r0 fine <| .mu 2 <| .p0 (v := aB true) (Eq.trans (b := some (.pure (aB (decide ((g_16.length : Int) > 0))))) (by kernel_rfl) (by rw [hb23])) <| .mu 5 <| .pure (v := .hp 0 (0 + (wrapF .i64 ((g_16.length : Int) - 1)).toNat * 1)) (by kernel_rfl) (Eq.trans (b := ORes.ofP (guardV (inR (wrapF .i64 ((g_16.length : Int) - 1)) g_16.length) (.hp 0 (0 + (wrapF .i64 ((g_16.length : Int) - 1)).toNat * 1)))) (by kernel_rfl) (ofP_guard hg24)) <| .pure (v := aU32 (gt g_16 (wrapF .i64 ((g_16.length : Int) - 1)))) (by kernel_rfl) (Eq.trans (b := ORes.ofP ((g_16.flatMap (iC .u32))[0 + (wrapF .i64 ((g_16.length : Int) - 1)).toNat * 1]?)) (by kernel_rfl) (ofP_some (flat_get (iC_len _) (inR_lt hg24) (by decide : 0 < 1) (by omega : 0 + (wrapF .i64 ((g_16.length : Int) - 1)).toNat * 1 = (wrapF .i64 ((g_16.length : Int) - 1)).toNat * 1 + 0) (by kernel_rfl)))) <| .mu 2 <| .done <| .n2 21 [(0, .hs 0 0 g_16.length 1), (14, aB (((gt g_16 (wrapF .i64 ((g_16.length : Int) - 1))) : Int) == 0))] [.own (g_16.flatMap (iC .u32))] ?_
   refine .cd hr (fun hb25 hr => ?_) (fun hb25 hr => ?_)
   ·refine .skip <| .block ?_
    obtain ⟨hg26, hr⟩ := gd hr
    refine .r0 fine <| .mu 4 <| .p0 (v := .hs 0 0 (wrapF .i64 ((g_16.length : Int) - 1)).toNat 1) (Eq.trans (b := slH (inS 0 (wrapF .i64 ((g_16.length : Int) - 1)) g_16.length) true ((0 : Int).toNat) ((wrapF .i64 ((g_16.length : Int) - 1)).toNat) (fun z1 z2 => .hs 0 (0 + z1 * 1) (z2 - z1) 1)) (by kernel_rfl) (slH_t hg26 (by kernel_rfl))) <| .mu 1 <| .done <| .pop ?_
    exact loopF_back (g_16.take (wrapF .i64 ((g_16.length : Int) - 1)).toNat) hr ((Wk.cutS (c := (iC .u32)) (es := 1) 0 0 (iC_len _) g_16 (wrapF .i64 ((g_16.length : Int) - 1)).toNat (inS_le hg26) (by kernel_rfl) (by kernel_rfl)).trans ((Wk.gc [0] [(0, false)] rfl (pKo (iC .u32) (iC_pure _) (g_16.take (wrapF .i64 ((g_16.length : Int) - 1)).toNat) trivial)).to (by kernel_rfl)))
   ·refine .leave rfl ?_
    obtain rfl := Option.some.inj hr
    exact ⟨rfl, ((Wk.gc [0] [(0, false)] rfl (pKo (iC .u32) (iC_pure _) g_16 trivial)).to (by kernel_rfl))⟩
  ·replace hr := cd_f hb23 hr
   refine .r0 fine <| .mu 2 <| .p0 (v := aB false) (Eq.trans (b := some (.pure (aB (decide ((g_16.length : Int) > 0))))) (by kernel_rfl) (by rw [hb23])) <| .mu 9 <| .done <| .n2 21 [(0, .hs 0 0 g_16.length 1), (14, aB false)] [.own (g_16.flatMap (iC .u32))] <| .cF (by kernel_rfl) <| .leave rfl ?_
   obtain rfl := Option.some.inj hr
   exact ⟨rfl, ((Wk.gc [0] [(0, false)] rfl (pKo (iC .u32) (iC_pure _) g_16 trivial)).to (by kernel_rfl))⟩
 ·rintro x st' hq29
  clear hL28
  obtain ⟨rfl, hq29⟩ := hq29
  refine CQ_exit _ rfl <| .wk hq29 <| .seq <| .r3 fine 21 [(2, .hs 0 0 g_21.length 1)] <| .ret ?_
  obtain rfl := Option.some.inj hr
  exact FinMW.ret [.hs 0 0 g_21.length 1] ((Wk.gc [0] [(0, false)] rfl (pKo (iC .u32) (iC_pure _) g_21 trivial)).to (by kernel_rfl))

theorem integer_times_w_ok (n : Nat) (a : List Int) (b : List Int) (r : List Int) (hr : integer_times_w n a b = some r) : FnMut 1 Tryz.prog 99 [sU32 a, .hs 0 0 b.length 1] [.own (b.flatMap (iC .u32))] (.hs 1 0 r.length 1) [.own (b.flatMap (iC .u32)), .own (r.flatMap (iC .u32))] := by
 unfold integer_times_w at hr
 refine FnMut.bodyW fine Tryz.func99 (c := (Tryz.f99.body).getD .skip) rfl (us := [.hs 1 0 r.length 1]) (s := mkS 69 0 [(0, sU32 a), (1, .hs 0 0 b.length 1)]) (by kernel_rfl) (rs := [.tmp 4]) rfl ?_
 unfold Tryz.f99
 simp only [Option.getD_some]
 refine .seq <| .r3 fine 69 [(0, sU32 a), (1, .hs 0 0 b.length 1)] <| .seq ?_
 obtain ⟨hg50, hg51, hg52, hr⟩ := gd3 hr
 refine .r0 fine <| .mu 5 <| .e0 (v := .hs 1 0 (List.replicate (wrapF .i64 ((a.length : Int) + (b.length : Int))).toNat ((0 : Int) : Int)).length 1) (ws := [(1, .own ((List.replicate (wrapF .i64 ((a.length : Int) + (b.length : Int))).toNat ((0 : Int) : Int)).flatMap (iC .u32)))]) (Eq.trans (b := guardO (decide (0 ≤ (wrapF .i64 ((a.length : Int) + (b.length : Int)))) && decide ((wrapF .i64 ((a.length : Int) + (b.length : Int))) ≤ (wrapF .i64 ((a.length : Int) + (b.length : Int)))) && decide ((4 : Int) * (wrapF .i64 ((a.length : Int) + (b.length : Int))) ≤ 281474976710656) && decide ((wrapF .i64 ((a.length : Int) + (b.length : Int))) ≤ 9223372036854775807) && true && true && true) (some (.eff (.hs 1 0 (wrapF .i64 ((a.length : Int) + (b.length : Int))).toNat 1) [(1, .own (zerosA [aU32 0] (wrapF .i64 ((a.length : Int) + (b.length : Int))).toNat))]))) (by kernel_rfl) (make_own (c := (iC .u32)) (z := (0 : Int)) (n := wrapF .i64 ((a.length : Int) + (b.length : Int))) (by_ := 4) rfl hg50 hg51 hg52)) <| .mu 1 <| .done <| .n2 69 [(0, sU32 a), (1, .hs 0 0 b.length 1), (5, .hs 1 0 (List.replicate (wrapF .i64 ((a.length : Int) + (b.length : Int))).toNat ((0 : Int) : Int)).length 1)] [.own (b.flatMap (iC .u32)), .own ((List.replicate (wrapF .i64 ((a.length : Int) + (b.length : Int))).toNat ((0 : Int) : Int)).flatMap (iC .u32))] <| .seq <| .seq <| .r3 fine 69 [(1, .hs 0 0 b.length 1), (5, .hs 1 0 (List.replicate (wrapF .i64 ((a.length : Int) + (b.length : Int))).toNat ((0 : Int) : Int)).length 1), (18, sU32 a), (19, aI64 (a.length : Int)), (20, aI64 0)] <| .block ?_
 replace hr := bd hr; obtain ⟨out_73, hL94, hr⟩ := hr
 refine .loopO (σ := fun z0 => match z0 with | (out_53, x_54) => ⟨mkS 69 0 [(1, .hs 0 0 b.length 1), (5, .hs 1 0 out_53.length 1), (18, sU32 a), (19, aI64 (a.length : Int)), (20, aI64 x_54)], [.own (b.flatMap (iC .u32)), .own (out_53.flatMap (iC .u32))]⟩) (Q := fun x st' => x = .exit 0 ∧ Wk 1 st' ⟨mkS 69 0 [(5, .hs 1 0 out_73.length 1)], [.own (b.flatMap (iC .u32)), .own (out_73.flatMap (iC .u32))]⟩) hL94 ((Wk.gc [1, 5, 18, 19, 20] [(0, false), (1, false)] rfl (pKo (iC .u32) (iC_pure _) b (pKo (iC .u32) (iC_pure _) (List.replicate (wrapF .i64 ((a.length : Int) + (b.length : Int))).toNat ((0 : Int) : Int)) trivial))).to (by kernel_rfl)) ?_ ?_
 ·clear hr
  rintro m ⟨out_53, x_54⟩ hr
  show CQ _ _ _ _ _ ⟨_, _⟩
  refine .seq <| .r3 fine 69 [(1, .hs 0 0 b.length 1), (5, .hs 1 0 out_53.length 1), (18, sU32 a), (19, aI64 (a.length : Int)), (20, aI64 x_54), (21, aB (decide (x_54 < (a.length : Int))))] <| .seq ?_
  refine .cd hr (fun hb75 hr => ?_) (fun hb75 hr => ?_)
  ·refine .skip <| .seq <| .block <| .seq ?_
   obtain ⟨hg76, hr⟩ := gd hr
   refine .r0 fine <| .mu 1 <| .p0 (v := .pp (a.flatMap (iC .u32)) (x_54.toNat * 1)) (Eq.trans (b := ORes.ofP (guardV (inR x_54 a.length) (.pp (a.flatMap (iC .u32)) (x_54.toNat * 1)))) (by kernel_rfl) (ofP_guard hg76)) <| .p0 (v := aU32 (gt a x_54)) (Eq.trans (b := ORes.ofP ((a.flatMap (iC .u32))[x_54.toNat * 1]?)) (by kernel_rfl) (ofP_some (flat_get (iC_len _) (inR_lt hg76) (by decide : 0 < 1) (by omega : x_54.toNat * 1 = x_54.toNat * 1 + 0) (by kernel_rfl)))) <| .mu 2 <| .done <| .n2 69 [(1, .hs 0 0 b.length 1), (5, .hs 1 0 out_53.length 1), (6, aI64 x_54), (7, aU32 (gt a x_54)), (18, sU32 a), (19, aI64 (a.length : Int)), (20, aI64 x_54)] [.own (b.flatMap (iC .u32)), .own (out_53.flatMap (iC .u32))] <| .seq <| .r3 fine 69 [(1, .hs 0 0 b.length 1), (5, .hs 1 0 out_53.length 1), (6, aI64 x_54), (7, aU32 (gt a x_54)), (8, aU64 0), (18, sU32 a), (19, aI64 (a.length : Int)), (20, aI64 x_54)] <| .seq <| .seq <| .r3 fine 69 [(1, .hs 0 0 b.length 1), (5, .hs 1 0 out_53.length 1), (6, aI64 x_54), (7, aU32 (gt a x_54)), (8, aU64 0), (18, sU32 a), (19, aI64 (a.length : Int)), (20, aI64 x_54), (25, .hs 0 0 b.length 1), (26, aI64 (b.length : Int)), (27, aI64 0)] <| .block ?_
   replace hr := bd hr; obtain ⟨o89, hL90, hr⟩ := hr
   refine .loopO (σ := fun z0 => match z0 with | (out_77, carry_78, x_79) => ⟨mkS 69 0 [(1, .hs 0 0 b.length 1), (5, .hs 1 0 out_77.length 1), (6, aI64 x_54), (7, aU32 (gt a x_54)), (8, aU64 carry_78), (18, sU32 a), (19, aI64 (a.length : Int)), (20, aI64 x_54), (25, .hs 0 0 b.length 1), (26, aI64 (b.length : Int)), (27, aI64 x_79)], [.own (b.flatMap (iC .u32)), .own (out_77.flatMap (iC .u32))]⟩) (Q := fun x st' => match (generalizing := false) o89 with | (out_83, carry_84) => x = .exit 2 ∧ Wk 1 st' ⟨mkS 69 0 [(1, .hs 0 0 b.length 1), (5, .hs 1 0 out_83.length 1), (6, aI64 x_54), (8, aU64 carry_84), (18, sU32 a), (19, aI64 (a.length : Int)), (20, aI64 x_54)], [.own (b.flatMap (iC .u32)), .own (out_83.flatMap (iC .u32))]⟩) hL90 ((Wk.gc [1, 5, 6, 7, 8, 18, 19, 20, 25, 26, 27] [(0, false), (1, false)] rfl (pKo (iC .u32) (iC_pure _) b (pKo (iC .u32) (iC_pure _) out_53 trivial))).to (by kernel_rfl)) ?_ ?_
   ·clear hr
    rintro m ⟨out_77, carry_78, x_79⟩ hr
    show CQ _ _ _ _ _ ⟨_, _⟩
    refine .seq <| .r3 fine 69 [(1, .hs 0 0 b.length 1), (5, .hs 1 0 out_77.length 1), (6, aI64 x_54), (7, aU32 (gt a x_54)), (8, aU64 carry_78), (18, sU32 a), (19, aI64 (a.length : Int)), (20, aI64 x_54), (25, .hs 0 0 b.length 1), (26, aI64 (b.length : Int)), (27, aI64 x_79), (28, aB (decide (x_79 < (b.length : Int))))] <| .seq ?_
    refine .cd hr (fun hb86 hr => ?_) (fun hb86 hr => ?_)
    ·refine .skip <| .seq <| .block <| .seq ?_
     obtain ⟨hg87, hr⟩ := gd hr
     refine .r0 fine <| .mu 1 <| .p0 (v := .hp 0 (0 + x_79.toNat * 1)) (Eq.trans (b := ORes.ofP (guardV (inR x_79 b.length) (.hp 0 (0 + x_79.toNat * 1)))) (by kernel_rfl) (ofP_guard hg87)) <| .p0 (v := aU32 (gt b x_79)) (Eq.trans (b := ORes.ofP ((b.flatMap (iC .u32))[0 + x_79.toNat * 1]?)) (by kernel_rfl) (ofP_some (flat_get (iC_len _) (inR_lt hg87) (by decide : 0 < 1) (by omega : 0 + x_79.toNat * 1 = x_79.toNat * 1 + 0) (by kernel_rfl)))) <| .mu 2 <| .done <| .n2 69 [(1, .hs 0 0 b.length 1), (5, .hs 1 0 out_77.length 1), (6, aI64 x_54), (7, aU32 (gt a x_54)), (8, aU64 carry_78), (9, aI64 x_79), (10, aU32 (gt b x_79)), (18, sU32 a), (19, aI64 (a.length : Int)), (20, aI64 x_54), (25, .hs 0 0 b.length 1), (26, aI64 (b.length : Int)), (27, aI64 x_79)] [.own (b.flatMap (iC .u32)), .own (out_77.flatMap (iC .u32))] <| .seq ?_
     obtain ⟨hg88, hr⟩ := gd hr
     refine .r0 fine <| .mu 4 <| .p0 (v := .hp 1 (0 + (wrapF .i64 (x_54 + x_79)).toNat * 1)) (Eq.trans (b := ORes.ofP (guardV (inR (wrapF .i64 (x_54 + x_79)) out_77.length) (.hp 1 (0 + (wrapF .i64 (x_54 + x_79)).toNat * 1)))) (by kernel_rfl) (ofP_guard hg88)) <| .p0 (v := aU32 (gt out_77 (wrapF .i64 (x_54 + x_79)))) (Eq.trans (b := ORes.ofP ((out_77.flatMap (iC .u32))[0 + (wrapF .i64 (x_54 + x_79)).toNat * 1]?)) (by kernel_rfl) (ofP_some (flat_get (iC_len _) (inR_lt hg88) (by decide : 0 < 1) (by omega : 0 + (wrapF .i64 (x_54 + x_79)).toNat * 1 = (wrapF .i64 (x_54 + x_79)).toNat * 1 + 0) (by kernel_rfl)))) <| .mu 10 <| .done <| .n2 69 [(1, .hs 0 0 b.length 1), (5, .hs 1 0 out_77.length 1), (6, aI64 x_54), (7, aU32 (gt a x_54)), (9, aI64 x_79), (11, aU64 (wrapF .u64 ((wrapF .u64 ((wrapF .u64 (gt out_77 (wrapF .i64 (x_54 + x_79)))) + (wrapF .u64 ((wrapF .u64 (gt a x_54)) * (wrapF .u64 (gt b x_79)))))) + carry_78))), (18, sU32 a), (19, aI64 (a.length : Int)), (20, aI64 x_54), (25, .hs 0 0 b.length 1), (26, aI64 (b.length : Int)), (27, aI64 x_79)] [.own (b.flatMap (iC .u32)), .own (out_77.flatMap (iC .u32))] <| .r0 fine <| .mu 9 <| .p0 (v := .hp 1 (0 + (wrapF .i64 (x_54 + x_79)).toNat * 1)) (Eq.trans (b := ORes.ofP (guardV (inR (wrapF .i64 (x_54 + x_79)) out_77.length) (.hp 1 (0 + (wrapF .i64 (x_54 + x_79)).toNat * 1)))) (by kernel_rfl) (ofP_guard hg88)) <| .e0 (v := .unk) (ws := [(1, .own ((out_77.set (wrapF .i64 (x_54 + x_79)).toNat (wrapF .u32 ((wrapF .u64 ((wrapF .u64 ((wrapF .u64 (gt out_77 (wrapF .i64 (x_54 + x_79)))) + (wrapF .u64 ((wrapF .u64 (gt a x_54)) * (wrapF .u64 (gt b x_79)))))) + carry_78)).tmod 1000000000))).flatMap (iC .u32)))]) (Eq.trans (b := stO (decide ((0 + (wrapF .i64 (x_54 + x_79)).toNat * 1) + 1 ≤ (out_77.flatMap (iC .u32)).length) && true) [(1, .own (setCells (out_77.flatMap (iC .u32)) (0 + (wrapF .i64 (x_54 + x_79)).toNat * 1) [aU32 (wrapF .u32 ((wrapF .u64 ((wrapF .u64 ((wrapF .u64 (gt out_77 (wrapF .i64 (x_54 + x_79)))) + (wrapF .u64 ((wrapF .u64 (gt a x_54)) * (wrapF .u64 (gt b x_79)))))) + carry_78)).tmod 1000000000))]))]) (by kernel_rfl) (stO_t (and_t (flat_fits (iC_len _) (inR_lt hg88) (Nat.le_of_ble_eq_true rfl) (by omega : 0 + (wrapF .i64 (x_54 + x_79)).toNat * 1 = (wrapF .i64 (x_54 + x_79)).toNat * 1 + 0))) (congrArg Blk.own (flat_set (iC_len _) (inR_lt hg88) (Nat.le_of_ble_eq_true rfl) (by omega : 0 + (wrapF .i64 (x_54 + x_79)).toNat * 1 = (wrapF .i64 (x_54 + x_79)).toNat * 1 + 0) (by kernel_rfl))))) <| .mu 1 <| .done <| .pop <| .ru fine ?_
     exact loopF_back (out_77.set (wrapF .i64 (x_54 + x_79)).toNat (wrapF .u32 ((wrapF .u64 ((wrapF .u64 ((wrapF .u64 (gt out_77 (wrapF .i64 (x_54 + x_79)))) + (wrapF .u64 ((wrapF .u64 (gt a x_54)) * (wrapF .u64 (gt b x_79)))))) + carry_78)).tmod 1000000000)), wrapF .u64 ((wrapF .u64 ((wrapF .u64 ((wrapF .u64 (gt out_77 (wrapF .i64 (x_54 + x_79)))) + (wrapF .u64 ((wrapF .u64 (gt a x_54)) * (wrapF .u64 (gt b x_79)))))) + carry_78)).tdiv 1000000000), wrapF .i64 (x_79 + 1)) hr ((Wk.relen 5 (b := 1) (es := 1) (len := out_77.length) (out_77.set (wrapF .i64 (x_54 + x_79)).toNat (wrapF .u32 ((wrapF .u64 ((wrapF .u64 ((wrapF .u64 (gt out_77 (wrapF .i64 (x_54 + x_79)))) + (wrapF .u64 ((wrapF .u64 (gt a x_54)) * (wrapF .u64 (gt b x_79)))))) + carry_78)).tmod 1000000000))).length (by kernel_rfl) (by simp)).trans ((Wk.gc [1, 5, 6, 7, 8, 18, 19, 20, 25, 26, 27] [(0, false), (1, false)] rfl (pKo (iC .u32) (iC_pure _) b (pKo (iC .u32) (iC_pure _) (out_77.set (wrapF .i64 (x_54 + x_79)).toNat (wrapF .u32 ((wrapF .u64 ((wrapF .u64 ((wrapF .u64 (gt out_77 (wrapF .i64 (x_54 + x_79)))) + (wrapF .u64 ((wrapF .u64 (gt a x_54)) * (wrapF .u64 (gt b x_79)))))) + carry_78)).tmod 1000000000))) trivial))).to (by kernel_rfl)))
    ·refine .leave rfl ?_
     obtain rfl := Option.some.inj hr
     exact ⟨rfl, ((Wk.gc [1, 5, 6, 8, 18, 19, 20] [(0, false), (1, false)] rfl (pKo (iC .u32) (iC_pure _) b (pKo (iC .u32) (iC_pure _) out_77 trivial))).to (by kernel_rfl))⟩
   ·rcases o89 with ⟨out_83, carry_84⟩
    rintro x st' hq91
    clear hL90
    obtain ⟨rfl, hq91⟩ := hq91
    refine CQ_exit _ rfl <| .wk hq91 ?_
    obtain ⟨hg92, hr⟩ := gd hr
    refine .r0 fine <| .mu 7 <| .p0 (v := .hp 1 (0 + (wrapF .i64 (x_54 + (b.length : Int))).toNat * 1)) (Eq.trans (b := ORes.ofP (guardV (inR (wrapF .i64 (x_54 + (b.length : Int))) out_83.length) (.hp 1 (0 + (wrapF .i64 (x_54 + (b.length : Int))).toNat * 1)))) (by kernel_rfl) (ofP_guard hg92)) <| .e0 (v := .unk) (ws := [(1, .own ((out_83.set (wrapF .i64 (x_54 + (b.length : Int))).toNat (wrapF .u32 carry_84)).flatMap (iC .u32)))]) (Eq.trans (b := stO (decide ((0 + (wrapF .i64 (x_54 + (b.length : Int))).toNat * 1) + 1 ≤ (out_83.flatMap (iC .u32)).length) && true) [(1, .own (setCells (out_83.flatMap (iC .u32)) (0 + (wrapF .i64 (x_54 + (b.length : Int))).toNat * 1) [aU32 (wrapF .u32 carry_84)]))]) (by kernel_rfl) (stO_t (and_t (flat_fits (iC_len _) (inR_lt hg92) (Nat.le_of_ble_eq_true rfl) (by omega : 0 + (wrapF .i64 (x_54 + (b.length : Int))).toNat * 1 = (wrapF .i64 (x_54 + (b.length : Int))).toNat * 1 + 0))) (congrArg Blk.own (flat_set (iC_len _) (inR_lt hg92) (Nat.le_of_ble_eq_true rfl) (by omega : 0 + (wrapF .i64 (x_54 + (b.length : Int))).toNat * 1 = (wrapF .i64 (x_54 + (b.length : Int))).toNat * 1 + 0) (by kernel_rfl))))) <| .done <| .pop <| .ru fine ?_
    exact loopF_back (out_83.set (wrapF .i64 (x_54 + (b.length : Int))).toNat (wrapF .u32 carry_84), wrapF .i64 (x_54 + 1)) hr ((Wk.relen 5 (b := 1) (es := 1) (len := out_83.length) (out_83.set (wrapF .i64 (x_54 + (b.length : Int))).toNat (wrapF .u32 carry_84)).length (by kernel_rfl) (by simp)).trans ((Wk.gc [1, 5, 18, 19, 20] [(0, false), (1, false)] rfl (pKo (iC .u32) (iC_pure _) b (pKo (iC .u32) (iC_pure _) (out_83.set (wrapF .i64 (x_54 + (b.length : Int))).toNat (wrapF .u32 carry_84)) trivial))).to (by kernel_rfl)))
  ·refine .leave rfl ?_
   obtain rfl := Option.some.inj hr
   exact ⟨rfl, ((Wk.gc [5] [(0, false), (1, false)] rfl (pKo (iC .u32) (iC_pure _) b (pKo (iC .u32) (iC_pure _) out_53 trivial))).to (by kernel_rfl))⟩
 ·rintro x st' hq95
  clear hL94
  obtain ⟨rfl, hq95⟩ := hq95
  refine CQ_exit _ rfl <| .wk hq95 <| .seq ?_
  obtain ⟨v96, hc97, hr⟩ := bd hr
  refine .g1 fine (callOk_mutU (args := [.hs 1 0 out_73.length 1]) 1 0 [(1, false)] [false] (integer_trim_w_ok n out_73 v96 hc97) (by exact ⟨ids_flat (iC_pure _) _, trivial⟩) (by exact ⟨ids_flat (iC_pure _) _, trivial⟩) rfl rfl (by kernel_rfl) (by kernel_rfl)) <| .mu 1 <| .ca cf0 <| .mu 1 <| .done <| .n2 69 [(4, .hs 1 0 v96.length 1)] [.own (b.flatMap (iC .u32)), .own (v96.flatMap (iC .u32))] <| .ret ?_
  obtain rfl := Option.some.inj hr
  exact FinMW.ret [.hs 1 0 v96.length 1] ((Wk.gc [0] [(0, false), (1, false)] rfl (pKo (iC .u32) (iC_pure _) b (pKo (iC .u32) (iC_pure _) v96 trivial))).to (by kernel_rfl))

theorem integer_at_inj {g : List Int} {i : Int} {g_ : List Int} {i_ : Int} (h : ([slT (iC .u32) g, .at (.int .i64 i)] : List AV) = [slT (iC .u32) g_, .at (.int .i64 i_)]) : g = g_ ∧ i = i_ := by
 simp only [List.cons.injEq, AV.agg.injEq, AV.at.injEq, Value.int.injEq, Value.bool.injEq, AV.fn.injEq, AV.pp.injEq, true_and, and_true, slT_inj_int] at h
 simp_all
theorem integer_at_cg (n : Nat) {g : List Int} {i : Int} {g_ : List Int} {i_ : Int} (h : ([slT (iC .u32) g, .at (.int .i64 i)] : List AV) = [slT (iC .u32) g_, .at (.int .i64 i_)]) : integer_at n g i = integer_at n g_ i_ := by
 obtain ⟨rfl, rfl⟩ := integer_at_inj h
 rfl
theorem integer_at_ok (n : Nat) (g : List Int) (i : Int) (r : Int) (hr : integer_at n g i = some r) : FnOk Tryz.prog 197 [sU32 g, aI64 i] (aU32 r) := by
 unfold integer_at at hr
 refine FnOk.bd fine Tryz.func197 [.tmp 4] ?_
 unfold Tryz.f197
 simp only [Option.getD_some]
 refine .seq <| .r3 fine 13 [(0, sU32 g), (1, aI64 i)] <| .seq <| .seq <| .r3 fine 13 [(0, sU32 g), (1, aI64 i), (8, aB (decide (i < (g.length : Int))))] ?_
 refine .cd hr (fun hb1 hr => ?_) (fun hb1 hr => ?_)
 ·refine .seq ?_
  obtain ⟨hg2, hr⟩ := gd hr
  refine .r0 fine <| .mu 2 <| .p0 (v := .pp (g.flatMap (iC .u32)) (i.toNat * 1)) (Eq.trans (b := ORes.ofP (guardV (inR i g.length) (.pp (g.flatMap (iC .u32)) (i.toNat * 1)))) (by kernel_rfl) (ofP_guard hg2)) <| .p0 (v := aU32 (gt g i)) (Eq.trans (b := ORes.ofP ((g.flatMap (iC .u32))[i.toNat * 1]?)) (by kernel_rfl) (ofP_some (flat_get (iC_len _) (inR_lt hg2) (by decide : 0 < 1) (by omega : i.toNat * 1 = i.toNat * 1 + 0) (by kernel_rfl)))) <| .mu 1 <| .done <| .ret ?_
  obtain rfl := Option.some.inj hr
  exact FinQ.r1 [aU32 (gt g i)]
 ·refine .skip <| .seq <| .ru fine <| .ret ?_
  obtain rfl := Option.some.inj hr
  exact FinQ.r1 [aU32 0]
end Go.L
