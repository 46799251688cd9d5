/- The program's functions compute what the plain Lean programs compute, part 1; printed by a program. -/
import Derived.Test.YtlajgmapmocpbabGreatMergLD
import Derived.Test.YtlajgmapmocpbabGreatL0d
import Derived.Test.YtlajgmapmocpbabGreatChecked
import Derived.KernelRfl
set_option linter.unusedVariables false
set_option linter.unusedSimpArgs false
set_option maxRecDepth 100000
set_option maxHeartbeats 4000000
namespace Go.L
open Go Go.Eng Go.Proofs
theorem fiduciallaw59_banded_ok (n : Nat) (err : Int) (z : List Int) (r : api_Banded) (hr : fiduciallaw59_banded n err z = some r) : FnOk Tryz.prog 59 [.at (.int .i64 err), slT (iC .i64) z] (.agg [.at (.int .i64 r.Grid.X0), .at (.int .i64 r.Grid.Y0), .at (.int .i64 r.Grid.Step), .at (.int .i64 r.Grid.Width), .at (.int .i64 r.Grid.Height), slT (iC .i64) r.Grid.Z, slT (iC .i64) r.Err]) := by
 unfold fiduciallaw59_banded at hr
 refine FnOk.body fine Tryz.func59 (c := (Tryz.f59.body).getD .skip) rfl (s := mkS 13 0 [(0, aI64 err), (1, sI64 z)]) (by kernel_rfl) (rs := [.cell 4 56]) rfl ?_
 unfold Tryz.f59
 simp only [Option.getD_some]
 refine .seq <| .rn fine [0, 1, 4] (mkS 13 0 [(0, aI64 err), (1, sI64 z), (4, .hp 0 0)]) [.own [aI64 0, aI64 0, aI64 0, aI64 0, aI64 0, .at (.slice none 0 0), .at (.slice none 0 0)]] <| .seq <| .rn fine [4] (mkS 13 0 [(4, .hp 0 0)]) [.own [aI64 0, aI64 0, aI64 2, aI64 2, aI64 2, sI64 z, .hs 1 0 4 1], .own [aI64 err, aI64 err, aI64 err, aI64 err]] <| .ret ?_
 obtain rfl := Option.some.inj hr
 exact FinQ.ret (vs := [.agg [aI64 0, aI64 0, aI64 2, aI64 2, aI64 2, sI64 z, .hs 1 0 4 1]]) (by kernel_rfl) (Sn.agg (SnL.cons (Sn.pure rfl) (SnL.cons (Sn.pure rfl) (SnL.cons (Sn.pure rfl) (SnL.cons (Sn.pure rfl) (SnL.cons (Sn.pure rfl) (SnL.cons (Sn.pure rfl) (SnL.cons (Sn.hs rfl (.inl rfl) (SnC.cons (Sn.pure rfl) (SnC.cons (Sn.pure rfl) (SnC.cons (Sn.pure rfl) (SnC.cons (Sn.pure rfl) SnC.nil)))) (fun h => nomatch h)) SnL.nil))))))))

theorem terrain_Check_1_inj {n' : Int} {n'_ : Int} (h : ([.at (.int .i64 n')] : List AV) = [.at (.int .i64 n'_)]) : n' = n'_ := by
 simp only [List.cons.injEq, AV.agg.injEq, AV.at.injEq, Value.int.injEq, Value.bool.injEq, AV.fn.injEq, AV.pp.injEq, true_and, and_true] at h
 simp_all
theorem terrain_Check_1_ok (n : Nat) (n' : Int) (r : Bool) (hr : terrain_Check_1 n n' = some r) : FnOk Tryz.prog 184 [.at (.int .i64 n')] (.at (.bool r)) := by
 unfold terrain_Check_1 at hr
 refine FnOk.body fine Tryz.func184 (c := (Tryz.f184.body).getD .skip) rfl (s := mkS 9 0 [(0, aI64 n')]) (by kernel_rfl) (rs := [.tmp 2]) rfl ?_
 unfold Tryz.f184
 simp only [Option.getD_some]
 refine .seq <| .rn fine [0] (mkS 9 0 [(0, aI64 n')]) [] <| .seq ?_
 rcases Bool.eq_false_or_eq_true (decide (n' ≥ 2)) with hb1 | hb1
 ·replace hr := cd_t hb1 hr
  refine .r0 fine <| .mu 1 <| .p0 (v := aB true) (Eq.trans (b := some (.pure (aB (decide (n' ≥ 2))))) (by kernel_rfl) (by rw [hb1])) <| .mu 5 <| .done <| .ret ?_
  obtain rfl := Option.some.inj hr
  exact FinQ.r1 [aB (decide (n' ≤ 64))]
 ·replace hr := cd_f hb1 hr
  refine .r0 fine <| .mu 1 <| .p0 (v := aB false) (Eq.trans (b := some (.pure (aB (decide (n' ≥ 2))))) (by kernel_rfl) (by rw [hb1])) <| .mu 5 <| .done <| .ret ?_
  obtain rfl := Option.some.inj hr
  exact FinQ.r1 [aB false]

theorem terrain_far_inj {n' : Int} {n'_ : Int} (h : ([.at (.int .i64 n')] : List AV) = [.at (.int .i64 n'_)]) : n' = n'_ := by
 simp only [List.cons.injEq, AV.agg.injEq, AV.at.injEq, Value.int.injEq, Value.bool.injEq, AV.fn.injEq, AV.pp.injEq, true_and, and_true] at h
 simp_all
theorem terrain_far_ok (n : Nat) (n' : Int) (r : Bool) (hr : terrain_far n n' = some r) : FnOk Tryz.prog 185 [.at (.int .i64 n')] (.at (.bool r)) := by
 unfold terrain_far at hr
 refine FnOk.body fine Tryz.func185 (c := (Tryz.f185.body).getD .skip) rfl (s := mkS 9 0 [(0, aI64 n')]) (by kernel_rfl) (rs := [.tmp 2]) rfl ?_
 unfold Tryz.f185
 simp only [Option.getD_some]
 refine .seq <| .rn fine [0] (mkS 9 0 [(0, aI64 n')]) [] <| .seq ?_
 rcases Bool.eq_false_or_eq_true (decide (n' < (-1048576))) with hb1 | hb1
 ·replace hr := cd_t hb1 hr
  refine .r0 fine <| .mu 1 <| .p0 (v := aB true) (Eq.trans (b := some (.pure (aB (decide (n' < (-1048576)))))) (by kernel_rfl) (by rw [hb1])) <| .mu 5 <| .done <| .ret ?_
  obtain rfl := Option.some.inj hr
  exact FinQ.r1 [aB true]
 ·replace hr := cd_f hb1 hr
  refine .r0 fine <| .mu 1 <| .p0 (v := aB false) (Eq.trans (b := some (.pure (aB (decide (n' < (-1048576)))))) (by kernel_rfl) (by rw [hb1])) <| .mu 5 <| .done <| .ret ?_
  obtain rfl := Option.some.inj hr
  exact FinQ.r1 [aB (decide (n' > 1048576))]

theorem terrain_Check_2_ok (n : Nat) (z : Int) (r : Bool) (hr : terrain_Check_2 n z = some r) : FnOk Tryz.prog 186 [.at (.int .i64 z)] (.at (.bool r)) := by
 unfold terrain_Check_2 at hr
 refine FnOk.body fine Tryz.func186 (c := (Tryz.f186.body).getD .skip) rfl (s := mkS 9 0 [(0, aI64 z)]) (by kernel_rfl) (rs := [.tmp 2]) rfl ?_
 unfold Tryz.f186
 simp only [Option.getD_some]
 refine .seq <| .rn fine [0] (mkS 9 0 [(0, aI64 z)]) [] <| .seq ?_
 rcases Bool.eq_false_or_eq_true ((z : Int) != (-2147483648)) with hb1 | hb1
 ·replace hr := cd_t hb1 hr
  obtain ⟨v2, hc3, hr⟩ := bd hr
  refine .g1 fine (callOk_val (l := []) rfl (SnL.cons (Sn.pure rfl) SnL.nil) (terrain_far_ok n z v2 hc3)) <| .mu 1 <| .p0 (v := aB true) (Eq.trans (b := some (.pure (aB ((z : Int) != (-2147483648))))) (by kernel_rfl) (by rw [hb1])) <| .mu 2 <| .cal (by kernel_rfl) (by kernel_rfl) (callOf_at (by kernel_rfl)) <| .mu 2 <| .done <| .ret ?_
  obtain rfl := Option.some.inj hr
  exact FinQ.r1 [aB v2]
 ·replace hr := cd_f hb1 hr
  refine .r0 fine <| .mu 1 <| .p0 (v := aB false) (Eq.trans (b := some (.pure (aB ((z : Int) != (-2147483648))))) (by kernel_rfl) (by rw [hb1])) <| .mu 5 <| .done <| .ret ?_
  obtain rfl := Option.some.inj hr
  exact FinQ.r1 [aB false]

theorem slices_IndexFunc_int_int_of_terrain_Check_2_ok (n : Nat) (s : List Int) (r : Int) (hr : slices_IndexFunc_int_int_of_terrain_Check_2 n s = some r) : FnOk Tryz.prog 174 [slT (iC .i64) s, .fn 186 [] []] (.at (.int .i64 r)) := by
 unfold slices_IndexFunc_int_int_of_terrain_Check_2 at hr
 refine FnOk.body fine Tryz.func174 (c := (Tryz.f174.body).getD .skip) rfl (s := mkS 19 0 [(0, sI64 s), (1, .fn 186 [] [])]) (by kernel_rfl) (rs := [.tmp 4]) rfl ?_
 unfold Tryz.f174
 simp only [Option.getD_some]
 refine .seq <| .rn fine [0, 1] (mkS 19 0 [(0, sI64 s), (1, .fn 186 [] [])]) [] <| .seq <| .seq <| .rn fine [0, 1, 7, 8] (mkS 19 0 [(0, sI64 s), (1, .fn 186 [] []), (7, aI64 (s.length : Int)), (8, aI64 0)]) [] <| .block ?_
 replace hr := bd hr; obtain ⟨o13, hL14, hr⟩ := hr
 refine .loopO (σ := fun z0 => match z0 with | x_1 => ⟨mkS 19 0 [(0, sI64 s), (1, .fn 186 [] []), (7, aI64 (s.length : Int)), (8, aI64 x_1)], []⟩) (Q := fun x st' => match (generalizing := false) o13 with | .inl _ => x = .exit 0 ∧ Wk 0 st' ⟨mkS 19 0 [], []⟩ | .inr (r0) => x = .ret ∧ FinQ Tryz.prog [.tmp 4] (aI64 r0) .ret st') hL14 ((Wk.gc [0, 1, 7, 8] [] rfl pK0).to (by kernel_rfl)) ?_ ?_
 ·clear hr
  rintro m x_1 hr
  show CQ _ _ _ _ _ ⟨_, _⟩
  refine .seq <| .rn fine [0, 1, 7, 8, 9] (mkS 19 0 [(0, sI64 s), (1, .fn 186 [] []), (7, aI64 (s.length : Int)), (8, aI64 x_1), (9, aB (decide (x_1 < (s.length : Int))))]) [] <| .seq ?_
  refine .cond (t := decide (x_1 < (s.length : Int))) (by kernel_rfl) (fun hb8 => ?_) (fun hb8 => ?_)
  ·replace hr := cd_t hb8 hr
   refine .skip <| .seq <| .block <| .seq <| .rn fine [0, 1, 5, 7, 8] (mkS 19 0 [(0, sI64 s), (1, .fn 186 [] []), (5, aI64 x_1), (7, aI64 (s.length : Int)), (8, aI64 x_1)]) [] <| .seq ?_
   obtain ⟨hg9, hr⟩ := gd hr
   obtain ⟨v10, hc11, hr⟩ := bd hr
   refine .g1 fine (callOk_val (l := []) rfl (SnL.cons (Sn.pure rfl) SnL.nil) (terrain_Check_2_ok n (gt s x_1) v10 hc11)) <| .mu 3 <| .p0 (v := .pp (s.flatMap (iC .i64)) (x_1.toNat * 1)) (Eq.trans (b := ORes.ofP (guardV (inR x_1 s.length) (.pp (s.flatMap (iC .i64)) (x_1.toNat * 1)))) (by kernel_rfl) (ofP_guard hg9)) <| .p0 (v := aI64 (gt s x_1)) (Eq.trans (b := ORes.ofP ((s.flatMap (iC .i64))[x_1.toNat * 1]?)) (by kernel_rfl) (ofP_some (flat_get (iC_len _) (inR_lt hg9) (by decide : 0 < 1) (by omega : x_1.toNat * 1 = x_1.toNat * 1 + 0) (by kernel_rfl)))) <| .c0 (by kernel_rfl) (callOf_at (by kernel_rfl)) <| .done <| .n1 [0, 1, 5, 7, 8, 16] (mkS 19 0 [(0, sI64 s), (1, .fn 186 [] []), (5, aI64 x_1), (7, aI64 (s.length : Int)), (8, aI64 x_1), (16, aB v10)]) [] ?_
   refine .cond (t := v10) (by kernel_rfl) (fun hb12 => ?_) (fun hb12 => ?_)
   ·replace hr := cd_t hb12 hr
    refine .seq <| .ru fine <| .ret ?_
    obtain rfl := Option.some.inj hr
    exact ⟨rfl, FinQ.ret (vs := [aI64 x_1]) (by kernel_rfl) (Sn.pure rfl)⟩
   ·replace hr := cd_f hb12 hr
    refine .skip <| .pop <| .ru fine ?_
    exact loopF_back (wrapF .i64 (x_1 + 1)) hr ((Wk.gc [0, 1, 7, 8] [] rfl pK0).to (by kernel_rfl))
  ·replace hr := cd_f hb8 hr
   refine .leave rfl ?_
   obtain rfl := Option.some.inj hr
   exact ⟨rfl, ((Wk.gc [] [] rfl pK0).to (by kernel_rfl))⟩
 ·rcases o13 with ⟨⟩ | r0
  ·rintro x st' hq15
   clear hL14
   obtain ⟨rfl, hq15⟩ := hq15
   refine CQ_exit _ rfl <| .wk hq15 <| .seq <| .ru fine <| .ret ?_
   obtain rfl := Option.some.inj hr
   exact FinQ.r1 [aI64 (-1)]
  ·rintro x st' hq15
   clear hL14
   obtain ⟨rfl, hq15⟩ := hq15
   obtain rfl := Option.some.inj hr
   exact CQ_ret _ hq15

theorem slices_ContainsFunc_int_int_of_terrain_Check_2_ok (n : Nat) (s : List Int) (r : Bool) (hr : slices_ContainsFunc_int_int_of_terrain_Check_2 n s = some r) : FnOk Tryz.prog 129 [slT (iC .i64) s, .fn 186 [] []] (.at (.bool r)) := by
 unfold slices_ContainsFunc_int_int_of_terrain_Check_2 at hr
 refine FnOk.body fine Tryz.func129 (c := (Tryz.f129.body).getD .skip) rfl (s := mkS 9 0 [(0, sI64 s), (1, .fn 186 [] [])]) (by kernel_rfl) (rs := [.tmp 4]) rfl ?_
 unfold Tryz.f129
 simp only [Option.getD_some]
 refine .seq <| .rn fine [0, 1] (mkS 9 0 [(0, sI64 s), (1, .fn 186 [] [])]) [] <| .seq ?_
 obtain ⟨v1, hc2, hr⟩ := bd hr
 refine .g1 fine (callOk_val (l := []) rfl (SnL.cons (Sn.pure rfl) (SnL.cons (Sn.pure rfl) SnL.nil)) (slices_IndexFunc_int_int_of_terrain_Check_2_ok n s v1 hc2)) <| .mu 2 <| .c0 (by kernel_rfl) (callOf_at (by kernel_rfl)) <| .mu 2 <| .done <| .ret ?_
 obtain rfl := Option.some.inj hr
 exact FinQ.r1 [aB (decide (v1 ≥ 0))]

theorem terrain_Check_ok (n : Nat) (g : api_Grid) (r : Int) (hr : terrain_Check n g = some r) : FnOk Tryz.prog 146 [.agg [.at (.int .i64 g.X0), .at (.int .i64 g.Y0), .at (.int .i64 g.Step), .at (.int .i64 g.Width), .at (.int .i64 g.Height), slT (iC .i64) g.Z]] (.at (.int .i64 r)) := by
 unfold terrain_Check at hr
 refine FnOk.body fine Tryz.func146 (c := (Tryz.f146.body).getD .skip) rfl (s := mkS 54 0 [(0, .agg (api_Grid.c g))]) (by kernel_rfl) (rs := [.tmp 2]) rfl ?_
 unfold Tryz.f146
 simp only [Option.getD_some]
 refine .seq <| .rn fine [1] (mkS 54 0 [(1, .hp 0 0)]) [.own (api_Grid.c g)] <| .seq <| .rn fine [1, 3] (mkS 54 0 [(1, .hp 0 0), (3, .fn 184 [] [])]) [.own (api_Grid.c g)] <| .seq <| .seq ?_
 obtain ⟨v1, hc2, hr⟩ := bd hr
 rcases Bool.eq_false_or_eq_true (!v1) with hb3 | hb3
 ·replace hr := cd_t hb3 hr
  refine .g1 fine (callOk_val (l := []) rfl (SnL.cons (Sn.pure rfl) SnL.nil) (terrain_Check_1_ok n g.Width v1 hc2)) <| .mu 3 <| .c0 (by kernel_rfl) (callOf_at (by kernel_rfl)) <| .p0 (v := aB true) (Eq.trans (b := some (.pure (aB (!v1)))) (by kernel_rfl) (by rw [hb3])) <| .mu 33 <| .done <| .n1 [1, 41] (mkS 54 0 [(1, .hp 0 0), (41, aB true)]) [.own (api_Grid.c g)] <| .cT (by kernel_rfl) <| .seq <| .ru fine <| .ret ?_
  obtain rfl := Option.some.inj hr
  exact FinQ.r1 [aI64 2]
 ·replace hr := cd_f hb3 hr
  obtain ⟨v4, hc5, hr⟩ := bd hr
  rcases Bool.eq_false_or_eq_true (!v4) with hb6 | hb6
  ·replace hr := cd_t hb6 hr
   refine .region fine (callOf_cons (callOk_val (H := [.own (api_Grid.c g)]) (l := []) rfl (SnL.cons (Sn.pure rfl) SnL.nil) (terrain_Check_1_ok n g.Width v1 hc2)) (callOf_cons (callOk_val (H := [.own (api_Grid.c g)]) (l := []) rfl (SnL.cons (Sn.pure rfl) SnL.nil) (terrain_Check_1_ok n g.Height v4 hc5)) callOf_nil)) <| .mu 3 <| .c0 (by kernel_rfl) (callOf_at (by kernel_rfl)) <| .p0 (v := aB false) (Eq.trans (b := some (.pure (aB (!v1)))) (by kernel_rfl) (by rw [hb3])) <| .mu 4 <| .cal (by kernel_rfl) (by kernel_rfl) (callOf_skip (fun _ h => by obtain e0 := terrain_Check_1_inj h; rw [show v4 = v1 from Option.some.inj (hc5.symm.trans ((show terrain_Check_1 n g.Height = terrain_Check_1 n g.Width from (congr rfl e0)).trans hc2))]) (callOf_at (by kernel_rfl))) <| .pure (v := aB true) (by kernel_rfl) (Eq.trans (b := some (.pure (aB (!v4)))) (by kernel_rfl) (by rw [hb6])) <| .mu 27 <| .done <| .n1 [1, 41] (mkS 54 0 [(1, .hp 0 0), (41, aB true)]) [.own (api_Grid.c g)] <| .cT (by kernel_rfl) <| .seq <| .ru fine <| .ret ?_
   obtain rfl := Option.some.inj hr
   exact FinQ.r1 [aI64 2]
  ·replace hr := cd_f hb6 hr
   rcases Bool.eq_false_or_eq_true (decide (g.Step < 2)) with hb7 | hb7
   ·replace hr := cd_t hb7 hr
    refine .region fine (callOf_cons (callOk_val (H := [.own (api_Grid.c g)]) (l := []) rfl (SnL.cons (Sn.pure rfl) SnL.nil) (terrain_Check_1_ok n g.Width v1 hc2)) (callOf_cons (callOk_val (H := [.own (api_Grid.c g)]) (l := []) rfl (SnL.cons (Sn.pure rfl) SnL.nil) (terrain_Check_1_ok n g.Height v4 hc5)) callOf_nil)) <| .mu 3 <| .c0 (by kernel_rfl) (callOf_at (by kernel_rfl)) <| .p0 (v := aB false) (Eq.trans (b := some (.pure (aB (!v1)))) (by kernel_rfl) (by rw [hb3])) <| .mu 4 <| .cal (by kernel_rfl) (by kernel_rfl) (callOf_skip (fun _ h => by obtain e0 := terrain_Check_1_inj h; rw [show v4 = v1 from Option.some.inj (hc5.symm.trans ((show terrain_Check_1 n g.Height = terrain_Check_1 n g.Width from (congr rfl e0)).trans hc2))]) (callOf_at (by kernel_rfl))) <| .pure (v := aB false) (by kernel_rfl) (Eq.trans (b := some (.pure (aB (!v4)))) (by kernel_rfl) (by rw [hb6])) <| .mu 4 <| .pure (v := aB true) (by kernel_rfl) (Eq.trans (b := some (.pure (aB (decide (g.Step < 2))))) (by kernel_rfl) (by rw [hb7])) <| .mu 22 <| .done <| .n1 [1, 41] (mkS 54 0 [(1, .hp 0 0), (41, aB true)]) [.own (api_Grid.c g)] <| .cT (by kernel_rfl) <| .seq <| .ru fine <| .ret ?_
    obtain rfl := Option.some.inj hr
    exact FinQ.r1 [aI64 2]
   ·replace hr := cd_f hb7 hr
    rcases Bool.eq_false_or_eq_true (decide (g.Step > 65536)) with hb8 | hb8
    ·replace hr := cd_t hb8 hr
     refine .region fine (callOf_cons (callOk_val (H := [.own (api_Grid.c g)]) (l := []) rfl (SnL.cons (Sn.pure rfl) SnL.nil) (terrain_Check_1_ok n g.Width v1 hc2)) (callOf_cons (callOk_val (H := [.own (api_Grid.c g)]) (l := []) rfl (SnL.cons (Sn.pure rfl) SnL.nil) (terrain_Check_1_ok n g.Height v4 hc5)) callOf_nil)) <| .mu 3 <| .c0 (by kernel_rfl) (callOf_at (by kernel_rfl)) <| .p0 (v := aB false) (Eq.trans (b := some (.pure (aB (!v1)))) (by kernel_rfl) (by rw [hb3])) <| .mu 4 <| .cal (by kernel_rfl) (by kernel_rfl) (callOf_skip (fun _ h => by obtain e0 := terrain_Check_1_inj h; rw [show v4 = v1 from Option.some.inj (hc5.symm.trans ((show terrain_Check_1 n g.Height = terrain_Check_1 n g.Width from (congr rfl e0)).trans hc2))]) (callOf_at (by kernel_rfl))) <| .pure (v := aB false) (by kernel_rfl) (Eq.trans (b := some (.pure (aB (!v4)))) (by kernel_rfl) (by rw [hb6])) <| .mu 4 <| .pure (v := aB false) (by kernel_rfl) (Eq.trans (b := some (.pure (aB (decide (g.Step < 2))))) (by kernel_rfl) (by rw [hb7])) <| .mu 4 <| .pure (v := aB true) (by kernel_rfl) (Eq.trans (b := some (.pure (aB (decide (g.Step > 65536))))) (by kernel_rfl) (by rw [hb8])) <| .mu 17 <| .done <| .n1 [1, 41] (mkS 54 0 [(1, .hp 0 0), (41, aB true)]) [.own (api_Grid.c g)] <| .cT (by kernel_rfl) <| .seq <| .ru fine <| .ret ?_
     obtain rfl := Option.some.inj hr
     exact FinQ.r1 [aI64 2]
    ·replace hr := cd_f hb8 hr
     rcases Bool.eq_false_or_eq_true (((g.Step.tmod 2) : Int) != 0) with hb9 | hb9
     ·replace hr := cd_t hb9 hr
      refine .region fine (callOf_cons (callOk_val (H := [.own (api_Grid.c g)]) (l := []) rfl (SnL.cons (Sn.pure rfl) SnL.nil) (terrain_Check_1_ok n g.Width v1 hc2)) (callOf_cons (callOk_val (H := [.own (api_Grid.c g)]) (l := []) rfl (SnL.cons (Sn.pure rfl) SnL.nil) (terrain_Check_1_ok n g.Height v4 hc5)) callOf_nil)) <| .mu 3 <| .c0 (by kernel_rfl) (callOf_at (by kernel_rfl)) <| .p0 (v := aB false) (Eq.trans (b := some (.pure (aB (!v1)))) (by kernel_rfl) (by rw [hb3])) <| .mu 4 <| .cal (by kernel_rfl) (by kernel_rfl) (callOf_skip (fun _ h => by obtain e0 := terrain_Check_1_inj h; rw [show v4 = v1 from Option.some.inj (hc5.symm.trans ((show terrain_Check_1 n g.Height = terrain_Check_1 n g.Width from (congr rfl e0)).trans hc2))]) (callOf_at (by kernel_rfl))) <| .pure (v := aB false) (by kernel_rfl) (Eq.trans (b := some (.pure (aB (!v4)))) (by kernel_rfl) (by rw [hb6])) <| .mu 4 <| .pure (v := aB false) (by kernel_rfl) (Eq.trans (b := some (.pure (aB (decide (g.Step < 2))))) (by kernel_rfl) (by rw [hb7])) <| .mu 4 <| .pure (v := aB false) (by kernel_rfl) (Eq.trans (b := some (.pure (aB (decide (g.Step > 65536))))) (by kernel_rfl) (by rw [hb8])) <| .mu 5 <| .pure (v := aB true) (by kernel_rfl) (Eq.trans (b := some (.pure (aB (((g.Step.tmod 2) : Int) != 0)))) (by kernel_rfl) (by rw [hb9])) <| .mu 11 <| .done <| .n1 [1, 41] (mkS 54 0 [(1, .hp 0 0), (41, aB true)]) [.own (api_Grid.c g)] <| .cT (by kernel_rfl) <| .seq <| .ru fine <| .ret ?_
      obtain rfl := Option.some.inj hr
      exact FinQ.r1 [aI64 2]
     ·replace hr := cd_f hb9 hr
      obtain ⟨v10, hc11, hr⟩ := bd hr
      rcases Bool.eq_false_or_eq_true v10 with hb12 | hb12
      ·subst hb12
       replace hr := cd_t rfl hr
       refine .region fine (callOf_cons (callOk_val (H := [.own (api_Grid.c g)]) (l := []) rfl (SnL.cons (Sn.pure rfl) SnL.nil) (terrain_Check_1_ok n g.Width v1 hc2)) (callOf_cons (callOk_val (H := [.own (api_Grid.c g)]) (l := []) rfl (SnL.cons (Sn.pure rfl) SnL.nil) (terrain_Check_1_ok n g.Height v4 hc5)) (callOf_cons (callOk_val (H := [.own (api_Grid.c g)]) (l := []) rfl (SnL.cons (Sn.pure rfl) SnL.nil) (terrain_far_ok n g.X0 true hc11)) callOf_nil))) <| .mu 3 <| .c0 (by kernel_rfl) (callOf_at (by kernel_rfl)) <| .p0 (v := aB false) (Eq.trans (b := some (.pure (aB (!v1)))) (by kernel_rfl) (by rw [hb3])) <| .mu 4 <| .cal (by kernel_rfl) (by kernel_rfl) (callOf_skip (fun _ h => by obtain e0 := terrain_Check_1_inj h; rw [show v4 = v1 from Option.some.inj (hc5.symm.trans ((show terrain_Check_1 n g.Height = terrain_Check_1 n g.Width from (congr rfl e0)).trans hc2))]) (callOf_at (by kernel_rfl))) <| .pure (v := aB false) (by kernel_rfl) (Eq.trans (b := some (.pure (aB (!v4)))) (by kernel_rfl) (by rw [hb6])) <| .mu 4 <| .pure (v := aB false) (by kernel_rfl) (Eq.trans (b := some (.pure (aB (decide (g.Step < 2))))) (by kernel_rfl) (by rw [hb7])) <| .mu 4 <| .pure (v := aB false) (by kernel_rfl) (Eq.trans (b := some (.pure (aB (decide (g.Step > 65536))))) (by kernel_rfl) (by rw [hb8])) <| .mu 5 <| .pure (v := aB false) (by kernel_rfl) (Eq.trans (b := some (.pure (aB (((g.Step.tmod 2) : Int) != 0)))) (by kernel_rfl) (by rw [hb9])) <| .mu 4 <| .cal (by kernel_rfl) (by kernel_rfl) (callOf_skip (fun h _ => absurd (show (185 : Nat) = 184 from h) (by decide)) (callOf_skip (fun h _ => absurd (show (185 : Nat) = 184 from h) (by decide)) (callOf_at (by kernel_rfl)))) <| .mu 6 <| .done <| .n1 [1, 41] (mkS 54 0 [(1, .hp 0 0), (41, aB true)]) [.own (api_Grid.c g)] <| .cT (by kernel_rfl) <| .seq <| .ru fine <| .ret ?_
       obtain rfl := Option.some.inj hr
       exact FinQ.r1 [aI64 2]
      ·subst hb12
       replace hr := cd_f rfl hr
       obtain ⟨v13, hc14, hr⟩ := bd hr
       refine .region fine (callOf_cons (callOk_val (H := [.own (api_Grid.c g)]) (l := []) rfl (SnL.cons (Sn.pure rfl) SnL.nil) (terrain_Check_1_ok n g.Width v1 hc2)) (callOf_cons (callOk_val (H := [.own (api_Grid.c g)]) (l := []) rfl (SnL.cons (Sn.pure rfl) SnL.nil) (terrain_Check_1_ok n g.Height v4 hc5)) (callOf_cons (callOk_val (H := [.own (api_Grid.c g)]) (l := []) rfl (SnL.cons (Sn.pure rfl) SnL.nil) (terrain_far_ok n g.X0 false hc11)) (callOf_cons (callOk_val (H := [.own (api_Grid.c g)]) (l := []) rfl (SnL.cons (Sn.pure rfl) SnL.nil) (terrain_far_ok n g.Y0 v13 hc14)) callOf_nil)))) <| .mu 3 <| .c0 (by kernel_rfl) (callOf_at (by kernel_rfl)) <| .p0 (v := aB false) (Eq.trans (b := some (.pure (aB (!v1)))) (by kernel_rfl) (by rw [hb3])) <| .mu 4 <| .cal (by kernel_rfl) (by kernel_rfl) (callOf_skip (fun _ h => by obtain e0 := terrain_Check_1_inj h; rw [show v4 = v1 from Option.some.inj (hc5.symm.trans ((show terrain_Check_1 n g.Height = terrain_Check_1 n g.Width from (congr rfl e0)).trans hc2))]) (callOf_at (by kernel_rfl))) <| .pure (v := aB false) (by kernel_rfl) (Eq.trans (b := some (.pure (aB (!v4)))) (by kernel_rfl) (by rw [hb6])) <| .mu 4 <| .pure (v := aB false) (by kernel_rfl) (Eq.trans (b := some (.pure (aB (decide (g.Step < 2))))) (by kernel_rfl) (by rw [hb7])) <| .mu 4 <| .pure (v := aB false) (by kernel_rfl) (Eq.trans (b := some (.pure (aB (decide (g.Step > 65536))))) (by kernel_rfl) (by rw [hb8])) <| .mu 5 <| .pure (v := aB false) (by kernel_rfl) (Eq.trans (b := some (.pure (aB (((g.Step.tmod 2) : Int) != 0)))) (by kernel_rfl) (by rw [hb9])) <| .mu 4 <| .cal (by kernel_rfl) (by kernel_rfl) (callOf_skip (fun h _ => absurd (show (185 : Nat) = 184 from h) (by decide)) (callOf_skip (fun h _ => absurd (show (185 : Nat) = 184 from h) (by decide)) (callOf_at (by kernel_rfl)))) <| .mu 4 <| .cal (by kernel_rfl) (by kernel_rfl) (callOf_skip (fun h _ => absurd (show (185 : Nat) = 184 from h) (by decide)) (callOf_skip (fun h _ => absurd (show (185 : Nat) = 184 from h) (by decide)) (callOf_skip (fun _ h => by obtain e0 := terrain_far_inj h; rw [show v13 = false from Option.some.inj (hc14.symm.trans ((show terrain_far n g.Y0 = terrain_far n g.X0 from (congr rfl e0)).trans hc11))]) (callOf_at (by kernel_rfl))))) <| .mu 1 <| .done <| .n1 [1, 41] (mkS 54 0 [(1, .hp 0 0), (41, aB v13)]) [.own (api_Grid.c g)] ?_
       refine .cond (t := v13) (by kernel_rfl) (fun hb15 => ?_) (fun hb15 => ?_)
       ·replace hr := cd_t hb15 hr
        refine .seq <| .ru fine <| .ret ?_
        obtain rfl := Option.some.inj hr
        exact FinQ.r1 [aI64 2]
       ·replace hr := cd_f hb15 hr
        refine .skip <| .seq <| .seq <| .rn fine [1, 50] (mkS 54 0 [(1, .hp 0 0), (50, aB (((g.Z.length : Int) : Int) != (wrapF .i64 (g.Width * g.Height))))]) [.own (api_Grid.c g)] ?_
        refine .cond (t := ((g.Z.length : Int) : Int) != (wrapF .i64 (g.Width * g.Height))) (by kernel_rfl) (fun hb16 => ?_) (fun hb16 => ?_)
        ·replace hr := cd_t hb16 hr
         refine .seq <| .ru fine <| .ret ?_
         obtain rfl := Option.some.inj hr
         exact FinQ.r1 [aI64 4]
        ·replace hr := cd_f hb16 hr
         refine .skip <| .seq <| .seq ?_
         obtain ⟨v17, hc18, hr⟩ := bd hr
         refine .g1 fine (callOk_val (l := []) rfl (SnL.cons (Sn.pure rfl) (SnL.cons (Sn.pure rfl) SnL.nil)) (slices_ContainsFunc_int_int_of_terrain_Check_2_ok n g.Z v17 hc18)) <| .mu 2 <| .c0 (by kernel_rfl) (callOf_at (by kernel_rfl)) <| .done <| .n1 [53] (mkS 54 0 [(53, aB v17)]) [.own (api_Grid.c g)] ?_
         refine .cond (t := v17) (by kernel_rfl) (fun hb19 => ?_) (fun hb19 => ?_)
         ·replace hr := cd_t hb19 hr
          refine .seq <| .ru fine <| .ret ?_
          obtain rfl := Option.some.inj hr
          exact FinQ.r1 [aI64 2]
         ·replace hr := cd_f hb19 hr
          refine .skip <| .seq <| .ru fine <| .ret ?_
          obtain rfl := Option.some.inj hr
          exact FinQ.r1 [aI64 0]

theorem change_Check_1_ok (n : Nat) (n' : Int) (r : Bool) (hr : change_Check_1 n n' = some r) : FnOk Tryz.prog 147 [.at (.int .i64 n')] (.at (.bool r)) := by
 unfold change_Check_1 at hr
 refine FnOk.body fine Tryz.func147 (c := (Tryz.f147.body).getD .skip) rfl (s := mkS 9 0 [(0, aI64 n')]) (by kernel_rfl) (rs := [.tmp 2]) rfl ?_
 unfold Tryz.f147
 simp only [Option.getD_some]
 refine .seq <| .rn fine [0] (mkS 9 0 [(0, aI64 n')]) [] <| .seq ?_
 rcases Bool.eq_false_or_eq_true (decide (n' < 0)) with hb1 | hb1
 ·replace hr := cd_t hb1 hr
  refine .r0 fine <| .mu 1 <| .p0 (v := aB true) (Eq.trans (b := some (.pure (aB (decide (n' < 0))))) (by kernel_rfl) (by rw [hb1])) <| .mu 5 <| .done <| .ret ?_
  obtain rfl := Option.some.inj hr
  exact FinQ.r1 [aB true]
 ·replace hr := cd_f hb1 hr
  refine .r0 fine <| .mu 1 <| .p0 (v := aB false) (Eq.trans (b := some (.pure (aB (decide (n' < 0))))) (by kernel_rfl) (by rw [hb1])) <| .mu 5 <| .done <| .ret ?_
  obtain rfl := Option.some.inj hr
  exact FinQ.r1 [aB (decide (n' > 1048576))]

theorem slices_IndexFunc_int_int_of_change_Check_1_ok (n : Nat) (s : List Int) (r : Int) (hr : slices_IndexFunc_int_int_of_change_Check_1 n s = some r) : FnOk Tryz.prog 174 [slT (iC .i64) s, .fn 147 [] []] (.at (.int .i64 r)) := by
 unfold slices_IndexFunc_int_int_of_change_Check_1 at hr
 refine FnOk.body fine Tryz.func174 (c := (Tryz.f174.body).getD .skip) rfl (s := mkS 19 0 [(0, sI64 s), (1, .fn 147 [] [])]) (by kernel_rfl) (rs := [.tmp 4]) rfl ?_
 unfold Tryz.f174
 simp only [Option.getD_some]
 refine .seq <| .rn fine [0, 1] (mkS 19 0 [(0, sI64 s), (1, .fn 147 [] [])]) [] <| .seq <| .seq <| .rn fine [0, 1, 7, 8] (mkS 19 0 [(0, sI64 s), (1, .fn 147 [] []), (7, aI64 (s.length : Int)), (8, aI64 0)]) [] <| .block ?_
 replace hr := bd hr; obtain ⟨o13, hL14, hr⟩ := hr
 refine .loopO (σ := fun z0 => match z0 with | x_1 => ⟨mkS 19 0 [(0, sI64 s), (1, .fn 147 [] []), (7, aI64 (s.length : Int)), (8, aI64 x_1)], []⟩) (Q := fun x st' => match (generalizing := false) o13 with | .inl _ => x = .exit 0 ∧ Wk 0 st' ⟨mkS 19 0 [], []⟩ | .inr (r0) => x = .ret ∧ FinQ Tryz.prog [.tmp 4] (aI64 r0) .ret st') hL14 ((Wk.gc [0, 1, 7, 8] [] rfl pK0).to (by kernel_rfl)) ?_ ?_
 ·clear hr
  rintro m x_1 hr
  show CQ _ _ _ _ _ ⟨_, _⟩
  refine .seq <| .rn fine [0, 1, 7, 8, 9] (mkS 19 0 [(0, sI64 s), (1, .fn 147 [] []), (7, aI64 (s.length : Int)), (8, aI64 x_1), (9, aB (decide (x_1 < (s.length : Int))))]) [] <| .seq ?_
  refine .cond (t := decide (x_1 < (s.length : Int))) (by kernel_rfl) (fun hb8 => ?_) (fun hb8 => ?_)
  ·replace hr := cd_t hb8 hr
   refine .skip <| .seq <| .block <| .seq <| .rn fine [0, 1, 5, 7, 8] (mkS 19 0 [(0, sI64 s), (1, .fn 147 [] []), (5, aI64 x_1), (7, aI64 (s.length : Int)), (8, aI64 x_1)]) [] <| .seq ?_
   obtain ⟨hg9, hr⟩ := gd hr
   obtain ⟨v10, hc11, hr⟩ := bd hr
   refine .g1 fine (callOk_val (l := []) rfl (SnL.cons (Sn.pure rfl) SnL.nil) (change_Check_1_ok n (gt s x_1) v10 hc11)) <| .mu 3 <| .p0 (v := .pp (s.flatMap (iC .i64)) (x_1.toNat * 1)) (Eq.trans (b := ORes.ofP (guardV (inR x_1 s.length) (.pp (s.flatMap (iC .i64)) (x_1.toNat * 1)))) (by kernel_rfl) (ofP_guard hg9)) <| .p0 (v := aI64 (gt s x_1)) (Eq.trans (b := ORes.ofP ((s.flatMap (iC .i64))[x_1.toNat * 1]?)) (by kernel_rfl) (ofP_some (flat_get (iC_len _) (inR_lt hg9) (by decide : 0 < 1) (by omega : x_1.toNat * 1 = x_1.toNat * 1 + 0) (by kernel_rfl)))) <| .c0 (by kernel_rfl) (callOf_at (by kernel_rfl)) <| .done <| .n1 [0, 1, 5, 7, 8, 16] (mkS 19 0 [(0, sI64 s), (1, .fn 147 [] []), (5, aI64 x_1), (7, aI64 (s.length : Int)), (8, aI64 x_1), (16, aB v10)]) [] ?_
   refine .cond (t := v10) (by kernel_rfl) (fun hb12 => ?_) (fun hb12 => ?_)
   ·replace hr := cd_t hb12 hr
    refine .seq <| .ru fine <| .ret ?_
    obtain rfl := Option.some.inj hr
    exact ⟨rfl, FinQ.ret (vs := [aI64 x_1]) (by kernel_rfl) (Sn.pure rfl)⟩
   ·replace hr := cd_f hb12 hr
    refine .skip <| .pop <| .ru fine ?_
    exact loopF_back (wrapF .i64 (x_1 + 1)) hr ((Wk.gc [0, 1, 7, 8] [] rfl pK0).to (by kernel_rfl))
  ·replace hr := cd_f hb8 hr
   refine .leave rfl ?_
   obtain rfl := Option.some.inj hr
   exact ⟨rfl, ((Wk.gc [] [] rfl pK0).to (by kernel_rfl))⟩
 ·rcases o13 with ⟨⟩ | r0
  ·rintro x st' hq15
   clear hL14
   obtain ⟨rfl, hq15⟩ := hq15
   refine CQ_exit _ rfl <| .wk hq15 <| .seq <| .ru fine <| .ret ?_
   obtain rfl := Option.some.inj hr
   exact FinQ.r1 [aI64 (-1)]
  ·rintro x st' hq15
   clear hL14
   obtain ⟨rfl, hq15⟩ := hq15
   obtain rfl := Option.some.inj hr
   exact CQ_ret _ hq15

theorem slices_ContainsFunc_int_int_of_change_Check_1_ok (n : Nat) (s : List Int) (r : Bool) (hr : slices_ContainsFunc_int_int_of_change_Check_1 n s = some r) : FnOk Tryz.prog 129 [slT (iC .i64) s, .fn 147 [] []] (.at (.bool r)) := by
 unfold slices_ContainsFunc_int_int_of_change_Check_1 at hr
 refine FnOk.body fine Tryz.func129 (c := (Tryz.f129.body).getD .skip) rfl (s := mkS 9 0 [(0, sI64 s), (1, .fn 147 [] [])]) (by kernel_rfl) (rs := [.tmp 4]) rfl ?_
 unfold Tryz.f129
 simp only [Option.getD_some]
 refine .seq <| .rn fine [0, 1] (mkS 9 0 [(0, sI64 s), (1, .fn 147 [] [])]) [] <| .seq ?_
 obtain ⟨v1, hc2, hr⟩ := bd hr
 refine .g1 fine (callOk_val (l := []) rfl (SnL.cons (Sn.pure rfl) (SnL.cons (Sn.pure rfl) SnL.nil)) (slices_IndexFunc_int_int_of_change_Check_1_ok n s v1 hc2)) <| .mu 2 <| .c0 (by kernel_rfl) (callOf_at (by kernel_rfl)) <| .mu 2 <| .done <| .ret ?_
 obtain rfl := Option.some.inj hr
 exact FinQ.r1 [aB (decide (v1 ≥ 0))]

theorem change_Check_ok (n : Nat) (b : api_Banded) (r : Int) (hr : change_Check n b = some r) : FnOk Tryz.prog 115 [.agg [.at (.int .i64 b.Grid.X0), .at (.int .i64 b.Grid.Y0), .at (.int .i64 b.Grid.Step), .at (.int .i64 b.Grid.Width), .at (.int .i64 b.Grid.Height), slT (iC .i64) b.Grid.Z, slT (iC .i64) b.Err]] (.at (.int .i64 r)) := by
 unfold change_Check at hr
 refine FnOk.body fine Tryz.func115 (c := (Tryz.f115.body).getD .skip) rfl (s := mkS 21 0 [(0, .agg (api_Banded.c b))]) (by kernel_rfl) (rs := [.tmp 2]) rfl ?_
 unfold Tryz.f115
 simp only [Option.getD_some]
 refine .seq <| .rn fine [1] (mkS 21 0 [(1, .hp 0 0)]) [.own (api_Banded.c b)] <| .seq <| .seq ?_
 obtain ⟨v1, hc2, hr⟩ := bd hr
 refine .g1 fine (callOk_val (l := []) rfl (SnL.cons (Sn.pure rfl) SnL.nil) (terrain_Check_ok n b.Grid v1 hc2)) <| .mu 2 <| .c0 (by kernel_rfl) (callOf_at (by kernel_rfl)) <| .mu 1 <| .done <| .n1 [1, 3] (mkS 21 0 [(1, .hp 0 0), (3, aI64 v1)]) [.own (api_Banded.c b)] <| .seq <| .rn fine [1, 3, 8] (mkS 21 0 [(1, .hp 0 0), (3, aI64 v1), (8, aB ((v1 : Int) != 0))]) [.own (api_Banded.c b)] ?_
 refine .cond (t := (v1 : Int) != 0) (by kernel_rfl) (fun hb3 => ?_) (fun hb3 => ?_)
 ·replace hr := cd_t hb3 hr
  refine .seq <| .ru fine <| .ret ?_
  obtain rfl := Option.some.inj hr
  exact FinQ.r1 [aI64 v1]
 ·replace hr := cd_f hb3 hr
  refine .skip <| .seq <| .seq <| .rn fine [1, 17] (mkS 21 0 [(1, .hp 0 0), (17, aB (((b.Err.length : Int) : Int) != (b.Grid.Z.length : Int)))]) [.own (api_Banded.c b)] ?_
  refine .cond (t := ((b.Err.length : Int) : Int) != (b.Grid.Z.length : Int)) (by kernel_rfl) (fun hb4 => ?_) (fun hb4 => ?_)
  ·replace hr := cd_t hb4 hr
   refine .seq <| .ru fine <| .ret ?_
   obtain rfl := Option.some.inj hr
   exact FinQ.r1 [aI64 4]
  ·replace hr := cd_f hb4 hr
   refine .skip <| .seq <| .seq ?_
   obtain ⟨v5, hc6, hr⟩ := bd hr
   refine .g1 fine (callOk_val (l := []) rfl (SnL.cons (Sn.pure rfl) (SnL.cons (Sn.pure rfl) SnL.nil)) (slices_ContainsFunc_int_int_of_change_Check_1_ok n b.Err v5 hc6)) <| .mu 2 <| .c0 (by kernel_rfl) (callOf_at (by kernel_rfl)) <| .done <| .n1 [20] (mkS 21 0 [(20, aB v5)]) [.own (api_Banded.c b)] ?_
   refine .cond (t := v5) (by kernel_rfl) (fun hb7 => ?_) (fun hb7 => ?_)
   ·replace hr := cd_t hb7 hr
    refine .seq <| .ru fine <| .ret ?_
    obtain rfl := Option.some.inj hr
    exact FinQ.r1 [aI64 2]
   ·replace hr := cd_f hb7 hr
    refine .skip <| .seq <| .ru fine <| .ret ?_
    obtain rfl := Option.some.inj hr
    exact FinQ.r1 [aI64 0]

theorem change_fit_ok (n : Nat) (l : List api_Banded) (r : Int) (hr : change_fit n l = some r) : FnOk Tryz.prog 66 [slT api_Banded.c l] (.at (.int .i64 r)) := by
 unfold change_fit at hr
 refine FnOk.body fine Tryz.func66 (c := (Tryz.f66.body).getD .skip) rfl (s := mkS 68 0 [(0, slT api_Banded.c l)]) (by kernel_rfl) (rs := [.tmp 2]) rfl ?_
 unfold Tryz.f66
 simp only [Option.getD_some]
 refine .seq <| .rn fine [0] (mkS 68 0 [(0, slT api_Banded.c l)]) [] <| .seq <| .seq <| .rn fine [0, 10, 11, 12] (mkS 68 0 [(0, slT api_Banded.c l), (10, slT api_Banded.c l), (11, aI64 (l.length : Int)), (12, aI64 0)]) [] <| .block ?_
 replace hr := bd hr; obtain ⟨o13, hL14, hr⟩ := hr
 refine .loopO (σ := fun z0 => match z0 with | x_1 => ⟨mkS 68 0 [(0, slT api_Banded.c l), (10, slT api_Banded.c l), (11, aI64 (l.length : Int)), (12, aI64 x_1)], []⟩) (Q := fun x st' => match (generalizing := false) o13 with | .inl _ => x = .exit 0 ∧ Wk 0 st' ⟨mkS 68 0 [(0, slT api_Banded.c l)], []⟩ | .inr (r0) => x = .ret ∧ FinQ Tryz.prog [.tmp 2] (aI64 r0) .ret st') hL14 ((Wk.gc [0, 10, 11, 12] [] rfl pK0).to (by kernel_rfl)) ?_ ?_
 ·clear hr
  rintro m x_1 hr
  show CQ _ _ _ _ _ ⟨_, _⟩
  refine .seq <| .rn fine [0, 10, 11, 12, 13] (mkS 68 0 [(0, slT api_Banded.c l), (10, slT api_Banded.c l), (11, aI64 (l.length : Int)), (12, aI64 x_1), (13, aB (decide (x_1 < (l.length : Int))))]) [] <| .seq ?_
  refine .cond (t := decide (x_1 < (l.length : Int))) (by kernel_rfl) (fun hb8 => ?_) (fun hb8 => ?_)
  ·replace hr := cd_t hb8 hr
   refine .skip <| .seq <| .block <| .seq ?_
   obtain ⟨hg9, hr⟩ := gd hr
   refine .r0 fine <| .p0 (v := .pp (l.flatMap api_Banded.c) (x_1.toNat * 7)) (Eq.trans (b := ORes.ofP (guardV (inR x_1 l.length) (.pp (l.flatMap api_Banded.c) (x_1.toNat * 7)))) (by kernel_rfl) (ofP_guard hg9)) <| .p0 (v := .agg (api_Banded.c (gt l x_1))) (Eq.trans (b := ORes.ofP (guardV (decide (7 ≤ ((l.flatMap api_Banded.c).drop (x_1.toNat * 7)).length)) (.agg (((l.flatMap api_Banded.c).drop (x_1.toNat * 7)).take 7)))) (by kernel_rfl) (flat_load api_Banded.len (inR_lt hg9) (by decide) (by omega : x_1.toNat * 7 = x_1.toNat * 7 + 0) (by kernel_rfl))) <| .mu 2 <| .done <| .n1 [0, 4, 10, 11, 12] (mkS 68 0 [(0, slT api_Banded.c l), (4, .hp 0 0), (10, slT api_Banded.c l), (11, aI64 (l.length : Int)), (12, aI64 x_1)]) [.own (api_Banded.c (gt l x_1))] <| .seq ?_
   obtain ⟨v10, hc11, hr⟩ := bd hr
   refine .g1 fine (callOk_val (l := []) rfl (SnL.cons (Sn.pure rfl) SnL.nil) (change_Check_ok n (gt l x_1) v10 hc11)) <| .mu 1 <| .c0 (by kernel_rfl) (callOf_at (by kernel_rfl)) <| .mu 1 <| .done <| .n1 [0, 5, 10, 11, 12] (mkS 68 0 [(0, slT api_Banded.c l), (5, aI64 v10), (10, slT api_Banded.c l), (11, aI64 (l.length : Int)), (12, aI64 x_1)]) [.own (api_Banded.c (gt l x_1))] <| .seq <| .rn fine [0, 5, 10, 11, 12, 19] (mkS 68 0 [(0, slT api_Banded.c l), (5, aI64 v10), (10, slT api_Banded.c l), (11, aI64 (l.length : Int)), (12, aI64 x_1), (19, aB ((v10 : Int) != 0))]) [.own (api_Banded.c (gt l x_1))] ?_
   refine .cond (t := (v10 : Int) != 0) (by kernel_rfl) (fun hb12 => ?_) (fun hb12 => ?_)
   ·replace hr := cd_t hb12 hr
    refine .seq <| .ru fine <| .ret ?_
    obtain rfl := Option.some.inj hr
    exact ⟨rfl, FinQ.ret (vs := [aI64 v10]) (by kernel_rfl) (Sn.pure rfl)⟩
   ·replace hr := cd_f hb12 hr
    refine .skip <| .pop <| .ru fine ?_
    exact loopF_back (wrapF .i64 (x_1 + 1)) hr ((Wk.gc [0, 10, 11, 12] [] rfl pK0).to (by kernel_rfl))
  ·replace hr := cd_f hb8 hr
   refine .leave rfl ?_
   obtain rfl := Option.some.inj hr
   exact ⟨rfl, ((Wk.gc [0] [] rfl pK0).to (by kernel_rfl))⟩
 ·rcases o13 with ⟨⟩ | r0
  ·rintro x st' hq15
   clear hL14
   obtain ⟨rfl, hq15⟩ := hq15
   refine CQ_exit _ rfl <| .wk hq15 <| .seq <| .seq <| .rn fine [0, 22, 23, 24] (mkS 68 0 [(0, slT api_Banded.c l), (22, slT api_Banded.c l), (23, aI64 (l.length : Int)), (24, aI64 0)]) [] <| .block ?_
   replace hr := bd hr; obtain ⟨o34, hL35, hr⟩ := hr
   refine .loopO (σ := fun z0 => match z0 with | x_16 => ⟨mkS 68 0 [(0, slT api_Banded.c l), (22, slT api_Banded.c l), (23, aI64 (l.length : Int)), (24, aI64 x_16)], []⟩) (Q := fun x st' => match (generalizing := false) o34 with | .inl _ => x = .exit 2 ∧ Wk 0 st' ⟨mkS 68 0 [], []⟩ | .inr (r0) => x = .ret ∧ FinQ Tryz.prog [.tmp 2] (aI64 r0) .ret st') hL35 ((Wk.gc [0, 22, 23, 24] [] rfl pK0).to (by kernel_rfl)) ?_ ?_
   ·clear hr
    rintro m x_16 hr
    show CQ _ _ _ _ _ ⟨_, _⟩
    refine .seq <| .rn fine [0, 22, 23, 24, 25] (mkS 68 0 [(0, slT api_Banded.c l), (22, slT api_Banded.c l), (23, aI64 (l.length : Int)), (24, aI64 x_16), (25, aB (decide (x_16 < (l.length : Int))))]) [] <| .seq ?_
    refine .cond (t := decide (x_16 < (l.length : Int))) (by kernel_rfl) (fun hb26 => ?_) (fun hb26 => ?_)
    ·replace hr := cd_t hb26 hr
     refine .skip <| .seq <| .block <| .seq ?_
     obtain ⟨hg27, hr⟩ := gd hr
     refine .r0 fine <| .p0 (v := .pp (l.flatMap api_Banded.c) (x_16.toNat * 7)) (Eq.trans (b := ORes.ofP (guardV (inR x_16 l.length) (.pp (l.flatMap api_Banded.c) (x_16.toNat * 7)))) (by kernel_rfl) (ofP_guard hg27)) <| .p0 (v := .agg (api_Banded.c (gt l x_16))) (Eq.trans (b := ORes.ofP (guardV (decide (7 ≤ ((l.flatMap api_Banded.c).drop (x_16.toNat * 7)).length)) (.agg (((l.flatMap api_Banded.c).drop (x_16.toNat * 7)).take 7)))) (by kernel_rfl) (flat_load api_Banded.len (inR_lt hg27) (by decide) (by omega : x_16.toNat * 7 = x_16.toNat * 7 + 0) (by kernel_rfl))) <| .mu 2 <| .done <| .n1 [0, 7, 22, 23, 24] (mkS 68 0 [(0, slT api_Banded.c l), (7, .hp 0 0), (22, slT api_Banded.c l), (23, aI64 (l.length : Int)), (24, aI64 x_16)]) [.own (api_Banded.c (gt l x_16))] <| .seq ?_
     obtain ⟨hg28, hr⟩ := gd hr
     refine .regionT fine callOf_nil <| .mu 1 <| .pure (v := .pp (l.flatMap api_Banded.c) ((0 : Int).toNat * 7)) (by kernel_rfl) (Eq.trans (b := ORes.ofP (guardV (inR 0 l.length) (.pp (l.flatMap api_Banded.c) ((0 : Int).toNat * 7)))) (by kernel_rfl) (ofP_guard hg28)) (by kernel_rfl) <| .mu 1 <| .pure (v := .agg (api_Grid.c (gt l 0).Grid)) (by kernel_rfl) (Eq.trans (b := ORes.ofP (guardV (decide (6 ≤ ((l.flatMap api_Banded.c).drop ((0 : Int).toNat * 7 + 0)).length)) (.agg (((l.flatMap api_Banded.c).drop ((0 : Int).toNat * 7 + 0)).take 6)))) (by kernel_rfl) (flat_load api_Banded.len (inR_lt hg28) (by decide) (by omega : (0 : Int).toNat * 7 + 0 = (0 : Int).toNat * 7 + 0) (by kernel_rfl))) (by kernel_rfl) <| .mu 6 ?_
     refine .done ⟨by kernel_rfl, ?_⟩
     refine .n1 [0, 8, 9, 22, 23, 24] (mkS 68 0 [(0, slT api_Banded.c l), (8, .hp 1 0), (9, .hp 2 0), (22, slT api_Banded.c l), (23, aI64 (l.length : Int)), (24, aI64 x_16)]) [.own (api_Banded.c (gt l x_16)), .own (api_Grid.c (gt l 0).Grid), .own (api_Grid.c (gt l x_16).Grid)] <| .seq ?_
     rcases Bool.eq_false_or_eq_true (((gt l 0).Grid.X0 : Int) != (gt l x_16).Grid.X0) with hb29 | hb29
     ·replace hr := cd_t hb29 hr
      refine .r0 fine <| .mu 4 <| .p0 (v := aB true) (Eq.trans (b := some (.pure (aB (((gt l 0).Grid.X0 : Int) != (gt l x_16).Grid.X0)))) (by kernel_rfl) (by rw [hb29])) <| .mu 28 <| .done <| .n1 [0, 22, 23, 24, 66] (mkS 68 0 [(0, slT api_Banded.c l), (22, slT api_Banded.c l), (23, aI64 (l.length : Int)), (24, aI64 x_16), (66, aB true)]) [.own (api_Banded.c (gt l x_16)), .own (api_Grid.c (gt l 0).Grid), .own (api_Grid.c (gt l x_16).Grid)] <| .cT (by kernel_rfl) <| .seq <| .ru fine <| .ret ?_
      obtain rfl := Option.some.inj hr
      exact ⟨rfl, FinQ.ret (vs := [aI64 4]) (by kernel_rfl) (Sn.pure rfl)⟩
     ·replace hr := cd_f hb29 hr
      rcases Bool.eq_false_or_eq_true (((gt l 0).Grid.Y0 : Int) != (gt l x_16).Grid.Y0) with hb30 | hb30
      ·replace hr := cd_t hb30 hr
       refine .r0 fine <| .mu 4 <| .p0 (v := aB false) (Eq.trans (b := some (.pure (aB (((gt l 0).Grid.X0 : Int) != (gt l x_16).Grid.X0)))) (by kernel_rfl) (by rw [hb29])) <| .mu 5 <| .pure (v := aB true) (by kernel_rfl) (Eq.trans (b := some (.pure (aB (((gt l 0).Grid.Y0 : Int) != (gt l x_16).Grid.Y0)))) (by kernel_rfl) (by rw [hb30])) <| .mu 22 <| .done <| .n1 [0, 22, 23, 24, 66] (mkS 68 0 [(0, slT api_Banded.c l), (22, slT api_Banded.c l), (23, aI64 (l.length : Int)), (24, aI64 x_16), (66, aB true)]) [.own (api_Banded.c (gt l x_16)), .own (api_Grid.c (gt l 0).Grid), .own (api_Grid.c (gt l x_16).Grid)] <| .cT (by kernel_rfl) <| .seq <| .ru fine <| .ret ?_
       obtain rfl := Option.some.inj hr
       exact ⟨rfl, FinQ.ret (vs := [aI64 4]) (by kernel_rfl) (Sn.pure rfl)⟩
      ·replace hr := cd_f hb30 hr
       rcases Bool.eq_false_or_eq_true (((gt l 0).Grid.Step : Int) != (gt l x_16).Grid.Step) with hb31 | hb31
       ·replace hr := cd_t hb31 hr
        refine .r0 fine <| .mu 4 <| .p0 (v := aB false) (Eq.trans (b := some (.pure (aB (((gt l 0).Grid.X0 : Int) != (gt l x_16).Grid.X0)))) (by kernel_rfl) (by rw [hb29])) <| .mu 5 <| .pure (v := aB false) (by kernel_rfl) (Eq.trans (b := some (.pure (aB (((gt l 0).Grid.Y0 : Int) != (gt l x_16).Grid.Y0)))) (by kernel_rfl) (by rw [hb30])) <| .mu 6 <| .pure (v := aB true) (by kernel_rfl) (Eq.trans (b := some (.pure (aB (((gt l 0).Grid.Step : Int) != (gt l x_16).Grid.Step)))) (by kernel_rfl) (by rw [hb31])) <| .mu 15 <| .done <| .n1 [0, 22, 23, 24, 66] (mkS 68 0 [(0, slT api_Banded.c l), (22, slT api_Banded.c l), (23, aI64 (l.length : Int)), (24, aI64 x_16), (66, aB true)]) [.own (api_Banded.c (gt l x_16)), .own (api_Grid.c (gt l 0).Grid), .own (api_Grid.c (gt l x_16).Grid)] <| .cT (by kernel_rfl) <| .seq <| .ru fine <| .ret ?_
        obtain rfl := Option.some.inj hr
        exact ⟨rfl, FinQ.ret (vs := [aI64 4]) (by kernel_rfl) (Sn.pure rfl)⟩
       ·replace hr := cd_f hb31 hr
        rcases Bool.eq_false_or_eq_true (((gt l 0).Grid.Width : Int) != (gt l x_16).Grid.Width) with hb32 | hb32
        ·replace hr := cd_t hb32 hr
         refine .r0 fine <| .mu 4 <| .p0 (v := aB false) (Eq.trans (b := some (.pure (aB (((gt l 0).Grid.X0 : Int) != (gt l x_16).Grid.X0)))) (by kernel_rfl) (by rw [hb29])) <| .mu 5 <| .pure (v := aB false) (by kernel_rfl) (Eq.trans (b := some (.pure (aB (((gt l 0).Grid.Y0 : Int) != (gt l x_16).Grid.Y0)))) (by kernel_rfl) (by rw [hb30])) <| .mu 6 <| .pure (v := aB false) (by kernel_rfl) (Eq.trans (b := some (.pure (aB (((gt l 0).Grid.Step : Int) != (gt l x_16).Grid.Step)))) (by kernel_rfl) (by rw [hb31])) <| .mu 6 <| .pure (v := aB true) (by kernel_rfl) (Eq.trans (b := some (.pure (aB (((gt l 0).Grid.Width : Int) != (gt l x_16).Grid.Width)))) (by kernel_rfl) (by rw [hb32])) <| .mu 8 <| .done <| .n1 [0, 22, 23, 24, 66] (mkS 68 0 [(0, slT api_Banded.c l), (22, slT api_Banded.c l), (23, aI64 (l.length : Int)), (24, aI64 x_16), (66, aB true)]) [.own (api_Banded.c (gt l x_16)), .own (api_Grid.c (gt l 0).Grid), .own (api_Grid.c (gt l x_16).Grid)] <| .cT (by kernel_rfl) <| .seq <| .ru fine <| .ret ?_
         obtain rfl := Option.some.inj hr
         exact ⟨rfl, FinQ.ret (vs := [aI64 4]) (by kernel_rfl) (Sn.pure rfl)⟩
        ·replace hr := cd_f hb32 hr
         refine .r0 fine <| .mu 4 <| .p0 (v := aB false) (Eq.trans (b := some (.pure (aB (((gt l 0).Grid.X0 : Int) != (gt l x_16).Grid.X0)))) (by kernel_rfl) (by rw [hb29])) <| .mu 5 <| .pure (v := aB false) (by kernel_rfl) (Eq.trans (b := some (.pure (aB (((gt l 0).Grid.Y0 : Int) != (gt l x_16).Grid.Y0)))) (by kernel_rfl) (by rw [hb30])) <| .mu 6 <| .pure (v := aB false) (by kernel_rfl) (Eq.trans (b := some (.pure (aB (((gt l 0).Grid.Step : Int) != (gt l x_16).Grid.Step)))) (by kernel_rfl) (by rw [hb31])) <| .mu 6 <| .pure (v := aB false) (by kernel_rfl) (Eq.trans (b := some (.pure (aB (((gt l 0).Grid.Width : Int) != (gt l x_16).Grid.Width)))) (by kernel_rfl) (by rw [hb32])) <| .mu 8 <| .done <| .n1 [0, 22, 23, 24, 66] (mkS 68 0 [(0, slT api_Banded.c l), (22, slT api_Banded.c l), (23, aI64 (l.length : Int)), (24, aI64 x_16), (66, aB (((gt l 0).Grid.Height : Int) != (gt l x_16).Grid.Height))]) [.own (api_Banded.c (gt l x_16)), .own (api_Grid.c (gt l 0).Grid), .own (api_Grid.c (gt l x_16).Grid)] ?_
         refine .cond (t := ((gt l 0).Grid.Height : Int) != (gt l x_16).Grid.Height) (by kernel_rfl) (fun hb33 => ?_) (fun hb33 => ?_)
         ·replace hr := cd_t hb33 hr
          refine .seq <| .ru fine <| .ret ?_
          obtain rfl := Option.some.inj hr
          exact ⟨rfl, FinQ.ret (vs := [aI64 4]) (by kernel_rfl) (Sn.pure rfl)⟩
         ·replace hr := cd_f hb33 hr
          refine .skip <| .pop <| .ru fine ?_
          exact loopF_back (wrapF .i64 (x_16 + 1)) hr ((Wk.gc [0, 22, 23, 24] [] rfl pK0).to (by kernel_rfl))
    ·replace hr := cd_f hb26 hr
     refine .leave rfl ?_
     obtain rfl := Option.some.inj hr
     exact ⟨rfl, ((Wk.gc [] [] rfl pK0).to (by kernel_rfl))⟩
   ·rcases o34 with ⟨⟩ | r0
    ·rintro x st' hq36
     clear hL35
     obtain ⟨rfl, hq36⟩ := hq36
     refine CQ_exit _ rfl <| .wk hq36 <| .seq <| .ru fine <| .ret ?_
     obtain rfl := Option.some.inj hr
     exact FinQ.r1 [aI64 0]
    ·rintro x st' hq36
     clear hL35
     obtain ⟨rfl, hq36⟩ := hq36
     obtain rfl := Option.some.inj hr
     exact CQ_ret _ hq36
  ·rintro x st' hq15
   clear hL14
   obtain ⟨rfl, hq15⟩ := hq15
   obtain rfl := Option.some.inj hr
   exact CQ_ret _ hq15

theorem change_difference_ok (n : Nat) (a : api_Banded) (b : api_Banded) (k : Int) (r : Int × Int × Bool) (hr : change_difference n a b k = some r) : FnOk Tryz.prog 111 [.agg [.at (.int .i64 a.Grid.X0), .at (.int .i64 a.Grid.Y0), .at (.int .i64 a.Grid.Step), .at (.int .i64 a.Grid.Width), .at (.int .i64 a.Grid.Height), slT (iC .i64) a.Grid.Z, slT (iC .i64) a.Err], .agg [.at (.int .i64 b.Grid.X0), .at (.int .i64 b.Grid.Y0), .at (.int .i64 b.Grid.Step), .at (.int .i64 b.Grid.Width), .at (.int .i64 b.Grid.Height), slT (iC .i64) b.Grid.Z, slT (iC .i64) b.Err], .at (.int .i64 k)] (.tup [.at (.int .i64 r.1), .at (.int .i64 r.2.1), .at (.bool r.2.2)]) := by
 unfold change_difference at hr
 refine FnOk.body fine Tryz.func111 (c := (Tryz.f111.body).getD .skip) rfl (s := mkS 49 0 [(0, .agg (api_Banded.c a)), (1, .agg (api_Banded.c b)), (2, aI64 k)]) (by kernel_rfl) (rs := [.tmp 6, .tmp 7, .tmp 8]) rfl ?_
 unfold Tryz.f111
 simp only [Option.getD_some]
 refine .seq <| .rn fine [2, 3, 4] (mkS 49 0 [(2, aI64 k), (3, .hp 0 0), (4, .hp 1 0)]) [.own (api_Banded.c a), .own (api_Banded.c b)] <| .seq <| .seq ?_
 obtain ⟨hg1, hr⟩ := gd hr
 rcases Bool.eq_false_or_eq_true (((gt a.Grid.Z k) : Int) == (-2147483648)) with hb2 | hb2
 ·replace hr := cd_t hb2 hr
  refine .r0 fine <| .mu 4 <| .p0 (v := .pp (a.Grid.Z.flatMap (iC .i64)) (k.toNat * 1)) (Eq.trans (b := ORes.ofP (guardV (inR k a.Grid.Z.length) (.pp (a.Grid.Z.flatMap (iC .i64)) (k.toNat * 1)))) (by kernel_rfl) (ofP_guard hg1)) <| .p0 (v := aI64 (gt a.Grid.Z k)) (Eq.trans (b := ORes.ofP ((a.Grid.Z.flatMap (iC .i64))[k.toNat * 1]?)) (by kernel_rfl) (ofP_some (flat_get (iC_len _) (inR_lt hg1) (by decide : 0 < 1) (by omega : k.toNat * 1 = k.toNat * 1 + 0) (by kernel_rfl)))) <| .p0 (v := aB true) (Eq.trans (b := some (.pure (aB (((gt a.Grid.Z k) : Int) == (-2147483648))))) (by kernel_rfl) (by rw [hb2])) <| .mu 9 <| .done <| .n1 [2, 3, 4, 24] (mkS 49 0 [(2, aI64 k), (3, .hp 0 0), (4, .hp 1 0), (24, aB true)]) [.own (api_Banded.c a), .own (api_Banded.c b)] <| .cT (by kernel_rfl) <| .seq <| .ru fine <| .ret ?_
  obtain rfl := Option.some.inj hr
  exact FinQ.ret (vs := [aI64 0, aI64 0, aB false]) (by kernel_rfl) (Sn.tup (SnL.cons (Sn.pure rfl) (SnL.cons (Sn.pure rfl) (SnL.cons (Sn.pure rfl) SnL.nil))))
 ·replace hr := cd_f hb2 hr
  obtain ⟨hg3, hr⟩ := gd hr
  refine .r0 fine <| .mu 4 <| .p0 (v := .pp (a.Grid.Z.flatMap (iC .i64)) (k.toNat * 1)) (Eq.trans (b := ORes.ofP (guardV (inR k a.Grid.Z.length) (.pp (a.Grid.Z.flatMap (iC .i64)) (k.toNat * 1)))) (by kernel_rfl) (ofP_guard hg1)) <| .p0 (v := aI64 (gt a.Grid.Z k)) (Eq.trans (b := ORes.ofP ((a.Grid.Z.flatMap (iC .i64))[k.toNat * 1]?)) (by kernel_rfl) (ofP_some (flat_get (iC_len _) (inR_lt hg1) (by decide : 0 < 1) (by omega : k.toNat * 1 = k.toNat * 1 + 0) (by kernel_rfl)))) <| .p0 (v := aB false) (Eq.trans (b := some (.pure (aB (((gt a.Grid.Z k) : Int) == (-2147483648))))) (by kernel_rfl) (by rw [hb2])) <| .mu 5 <| .pure (v := .pp (b.Grid.Z.flatMap (iC .i64)) (k.toNat * 1)) (by kernel_rfl) (Eq.trans (b := ORes.ofP (guardV (inR k b.Grid.Z.length) (.pp (b.Grid.Z.flatMap (iC .i64)) (k.toNat * 1)))) (by kernel_rfl) (ofP_guard hg3)) <| .pure (v := aI64 (gt b.Grid.Z k)) (by kernel_rfl) (Eq.trans (b := ORes.ofP ((b.Grid.Z.flatMap (iC .i64))[k.toNat * 1]?)) (by kernel_rfl) (ofP_some (flat_get (iC_len _) (inR_lt hg3) (by decide : 0 < 1) (by omega : k.toNat * 1 = k.toNat * 1 + 0) (by kernel_rfl)))) <| .mu 2 <| .done <| .n1 [2, 3, 4, 24] (mkS 49 0 [(2, aI64 k), (3, .hp 0 0), (4, .hp 1 0), (24, aB (((gt b.Grid.Z k) : Int) == (-2147483648)))]) [.own (api_Banded.c a), .own (api_Banded.c b)] ?_
  refine .cond (t := ((gt b.Grid.Z k) : Int) == (-2147483648)) (by kernel_rfl) (fun hb4 => ?_) (fun hb4 => ?_)
  ·replace hr := cd_t hb4 hr
   refine .seq <| .ru fine <| .ret ?_
   obtain rfl := Option.some.inj hr
   exact FinQ.ret (vs := [aI64 0, aI64 0, aB false]) (by kernel_rfl) (Sn.tup (SnL.cons (Sn.pure rfl) (SnL.cons (Sn.pure rfl) (SnL.cons (Sn.pure rfl) SnL.nil))))
  ·replace hr := cd_f hb4 hr
   refine .skip <| .seq ?_
   obtain ⟨hg5, hr⟩ := gd hr
   obtain ⟨hg6, hr⟩ := gd hr
   refine .regionT fine callOf_nil <| .mu 4 <| .pure (v := .pp (b.Grid.Z.flatMap (iC .i64)) (k.toNat * 1)) (by kernel_rfl) (Eq.trans (b := ORes.ofP (guardV (inR k b.Grid.Z.length) (.pp (b.Grid.Z.flatMap (iC .i64)) (k.toNat * 1)))) (by kernel_rfl) (ofP_guard hg3)) (by kernel_rfl) <| .pure (v := aI64 (gt b.Grid.Z k)) (by kernel_rfl) (Eq.trans (b := ORes.ofP ((b.Grid.Z.flatMap (iC .i64))[k.toNat * 1]?)) (by kernel_rfl) (ofP_some (flat_get (iC_len _) (inR_lt hg3) (by decide : 0 < 1) (by omega : k.toNat * 1 = k.toNat * 1 + 0) (by kernel_rfl)))) (by kernel_rfl) <| .mu 4 <| .pure (v := .pp (a.Grid.Z.flatMap (iC .i64)) (k.toNat * 1)) (by kernel_rfl) (Eq.trans (b := ORes.ofP (guardV (inR k a.Grid.Z.length) (.pp (a.Grid.Z.flatMap (iC .i64)) (k.toNat * 1)))) (by kernel_rfl) (ofP_guard hg1)) (by kernel_rfl) <| .pure (v := aI64 (gt a.Grid.Z k)) (by kernel_rfl) (Eq.trans (b := ORes.ofP ((a.Grid.Z.flatMap (iC .i64))[k.toNat * 1]?)) (by kernel_rfl) (ofP_some (flat_get (iC_len _) (inR_lt hg1) (by decide : 0 < 1) (by omega : k.toNat * 1 = k.toNat * 1 + 0) (by kernel_rfl)))) (by kernel_rfl) <| .mu 4 <| .pure (v := .pp (a.Err.flatMap (iC .i64)) (k.toNat * 1)) (by kernel_rfl) (Eq.trans (b := ORes.ofP (guardV (inR k a.Err.length) (.pp (a.Err.flatMap (iC .i64)) (k.toNat * 1)))) (by kernel_rfl) (ofP_guard hg5)) (by kernel_rfl) <| .pure (v := aI64 (gt a.Err k)) (by kernel_rfl) (Eq.trans (b := ORes.ofP ((a.Err.flatMap (iC .i64))[k.toNat * 1]?)) (by kernel_rfl) (ofP_some (flat_get (iC_len _) (inR_lt hg5) (by decide : 0 < 1) (by omega : k.toNat * 1 = k.toNat * 1 + 0) (by kernel_rfl)))) (by kernel_rfl) <| .mu 3 <| .pure (v := .pp (b.Err.flatMap (iC .i64)) (k.toNat * 1)) (by kernel_rfl) (Eq.trans (b := ORes.ofP (guardV (inR k b.Err.length) (.pp (b.Err.flatMap (iC .i64)) (k.toNat * 1)))) (by kernel_rfl) (ofP_guard hg6)) (by kernel_rfl) <| .pure (v := aI64 (gt b.Err k)) (by kernel_rfl) (Eq.trans (b := ORes.ofP ((b.Err.flatMap (iC .i64))[k.toNat * 1]?)) (by kernel_rfl) (ofP_some (flat_get (iC_len _) (inR_lt hg6) (by decide : 0 < 1) (by omega : k.toNat * 1 = k.toNat * 1 + 0) (by kernel_rfl)))) (by kernel_rfl) <| .mu 4 ?_
   refine .done ⟨by kernel_rfl, ?_⟩
   refine .ret ?_
   obtain rfl := Option.some.inj hr
   exact FinQ.ret (vs := [aI64 (wrapF .i64 ((gt b.Grid.Z k) - (gt a.Grid.Z k))), aI64 (wrapF .i64 ((gt a.Err k) + (gt b.Err k))), aB true]) (by kernel_rfl) (Sn.tup (SnL.cons (Sn.pure rfl) (SnL.cons (Sn.pure rfl) (SnL.cons (Sn.pure rfl) SnL.nil))))

theorem change_verdict_ok (n : Nat) (a : api_Banded) (b : api_Banded) (k : Int) (r : Int) (hr : change_verdict n a b k = some r) : FnOk Tryz.prog 117 [.agg [.at (.int .i64 a.Grid.X0), .at (.int .i64 a.Grid.Y0), .at (.int .i64 a.Grid.Step), .at (.int .i64 a.Grid.Width), .at (.int .i64 a.Grid.Height), slT (iC .i64) a.Grid.Z, slT (iC .i64) a.Err], .agg [.at (.int .i64 b.Grid.X0), .at (.int .i64 b.Grid.Y0), .at (.int .i64 b.Grid.Step), .at (.int .i64 b.Grid.Width), .at (.int .i64 b.Grid.Height), slT (iC .i64) b.Grid.Z, slT (iC .i64) b.Err], .at (.int .i64 k)] (.at (.int .i64 r)) := by
 unfold change_verdict at hr
 refine FnOk.body fine Tryz.func117 (c := (Tryz.f117.body).getD .skip) rfl (s := mkS 30 0 [(0, .agg (api_Banded.c a)), (1, .agg (api_Banded.c b)), (2, aI64 k)]) (by kernel_rfl) (rs := [.tmp 6]) rfl ?_
 unfold Tryz.f117
 simp only [Option.getD_some]
 refine .seq <| .rn fine [2, 3, 4] (mkS 30 0 [(2, aI64 k), (3, .hp 0 0), (4, .hp 1 0)]) [.own (api_Banded.c a), .own (api_Banded.c b)] <| .seq ?_
 obtain ⟨v1, hc2, hr⟩ := bd hr
 refine .g1 fine (callOk_val (l := []) rfl (SnL.cons (Sn.pure rfl) (SnL.cons (Sn.pure rfl) (SnL.cons (Sn.pure rfl) SnL.nil))) (change_difference_ok n a b k v1 hc2)) <| .mu 3 <| .c0 (by kernel_rfl) (callOf_at (by kernel_rfl)) <| .mu 7 <| .done <| .n1 [7, 8, 9] (mkS 30 0 [(7, aI64 v1.1), (8, aI64 v1.2.1), (9, aB v1.2.2)]) [.own (api_Banded.c a), .own (api_Banded.c b)] <| .seq <| .block <| .seq <| .rn fine [7, 8, 18] (mkS 30 0 [(7, aI64 v1.1), (8, aI64 v1.2.1), (18, aB (!v1.2.2))]) [.own (api_Banded.c a), .own (api_Banded.c b)] ?_
 refine .cond (t := !v1.2.2) (by kernel_rfl) (fun hb3 => ?_) (fun hb3 => ?_)
 ·replace hr := cd_t hb3 hr
  refine .seq <| .ru fine <| .ret ?_
  obtain rfl := Option.some.inj hr
  exact FinQ.r1 [aI64 3]
 ·replace hr := cd_f hb3 hr
  refine .seq <| .rn fine [7, 8, 21] (mkS 30 0 [(7, aI64 v1.1), (8, aI64 v1.2.1), (21, aB (decide (v1.1 > v1.2.1)))]) [.own (api_Banded.c a), .own (api_Banded.c b)] ?_
  refine .cond (t := decide (v1.1 > v1.2.1)) (by kernel_rfl) (fun hb4 => ?_) (fun hb4 => ?_)
  ·replace hr := cd_t hb4 hr
   refine .seq <| .ru fine <| .ret ?_
   obtain rfl := Option.some.inj hr
   exact FinQ.r1 [aI64 1]
  ·replace hr := cd_f hb4 hr
   refine .seq <| .r0 fine <| .mu 2 <| .p0 (v := aI64 (wrapF .i64 (0 - v1.2.1))) (Eq.trans (b := some (.pure (aI64 (IntKind.wrap .i64 (0 - v1.2.1))))) (by kernel_rfl) wrap_at) <| .mu 2 <| .done <| .n1 [25] (mkS 30 0 [(25, aB (decide (v1.1 < (wrapF .i64 (0 - v1.2.1)))))]) [.own (api_Banded.c a), .own (api_Banded.c b)] ?_
   refine .cond (t := decide (v1.1 < (wrapF .i64 (0 - v1.2.1)))) (by kernel_rfl) (fun hb5 => ?_) (fun hb5 => ?_)
   ·replace hr := cd_t hb5 hr
    refine .seq <| .ru fine <| .ret ?_
    obtain rfl := Option.some.inj hr
    exact FinQ.r1 [aI64 2]
   ·replace hr := cd_f hb5 hr
    refine .skip <| .pop <| .seq <| .ru fine <| .ret ?_
    obtain rfl := Option.some.inj hr
    exact FinQ.r1 [aI64 0]

theorem change_verdicts_ok (n : Nat) (a : api_Banded) (b : api_Banded) (r : List Int) (hr : change_verdicts n a b = some r) : FnOk Tryz.prog 69 [.agg [.at (.int .i64 a.Grid.X0), .at (.int .i64 a.Grid.Y0), .at (.int .i64 a.Grid.Step), .at (.int .i64 a.Grid.Width), .at (.int .i64 a.Grid.Height), slT (iC .i64) a.Grid.Z, slT (iC .i64) a.Err], .agg [.at (.int .i64 b.Grid.X0), .at (.int .i64 b.Grid.Y0), .at (.int .i64 b.Grid.Step), .at (.int .i64 b.Grid.Width), .at (.int .i64 b.Grid.Height), slT (iC .i64) b.Grid.Z, slT (iC .i64) b.Err]] (slT (iC .i64) r) := by
 unfold change_verdicts at hr
 refine FnOk.body fine Tryz.func69 (c := (Tryz.f69.body).getD .skip) rfl (s := mkS 23 0 [(0, .agg (api_Banded.c a)), (1, .agg (api_Banded.c b))]) (by kernel_rfl) (rs := [.tmp 4]) rfl ?_
 unfold Tryz.f69
 simp only [Option.getD_some]
 refine .seq <| .rn fine [2, 3] (mkS 23 0 [(2, .hp 0 0), (3, .hp 1 0)]) [.own (api_Banded.c a), .own (api_Banded.c b)] <| .seq <| .rn fine [2, 3, 5] (mkS 23 0 [(2, .hp 0 0), (3, .hp 1 0), (5, .at (.slice none 0 0))]) [.own (api_Banded.c a), .own (api_Banded.c b)] <| .seq <| .seq <| .rn fine [2, 3, 5, 10, 11] (mkS 23 0 [(2, .hp 0 0), (3, .hp 1 0), (5, .at (.slice none 0 0)), (10, aI64 (a.Grid.Z.length : Int)), (11, aI64 0)]) [.own (api_Banded.c a), .own (api_Banded.c b)] <| .block ?_
 replace hr := bd hr; obtain ⟨out_8, hL16, hr⟩ := hr
 refine .loopO (σ := fun z0 => match z0 with | (out_1, x_2) => ⟨mkS 23 0 [(2, .hp 0 0), (3, .hp 1 0), (5, .hs 2 0 out_1.length 1), (10, aI64 (a.Grid.Z.length : Int)), (11, aI64 x_2)], [.own (api_Banded.c a), .own (api_Banded.c b), .own (out_1.flatMap (iC .i64))]⟩) (Q := fun x st' => x = .exit 0 ∧ Wk 0 st' ⟨mkS 23 0 [(5, .hs 0 0 out_8.length 1)], [.own (out_8.flatMap (iC .i64))]⟩) hL16 ((Wk.nil 5 1 (by kernel_rfl)).trans ((Wk.gc [2, 3, 5, 10, 11] [(0, true), (1, true), (2, false)] rfl (pKt (pKt (pKc trivial)))).to (by kernel_rfl))) ?_ ?_
 ·clear hr
  rintro m ⟨out_1, x_2⟩ hr
  show CQ _ _ _ _ _ ⟨_, _⟩
  refine .seq <| .rn fine [2, 3, 5, 10, 11, 12] (mkS 23 0 [(2, .hp 0 0), (3, .hp 1 0), (5, .hs 2 0 out_1.length 1), (10, aI64 (a.Grid.Z.length : Int)), (11, aI64 x_2), (12, aB (decide (x_2 < (a.Grid.Z.length : Int))))]) [.own (api_Banded.c a), .own (api_Banded.c b), .own (out_1.flatMap (iC .i64))] <| .seq ?_
  refine .cond (t := decide (x_2 < (a.Grid.Z.length : Int))) (by kernel_rfl) (fun hb10 => ?_) (fun hb10 => ?_)
  ·replace hr := cd_t hb10 hr
   refine .skip <| .seq <| .block <| .seq <| .rn fine [2, 3, 5, 6, 10, 11] (mkS 23 0 [(2, .hp 0 0), (3, .hp 1 0), (5, .hs 2 0 out_1.length 1), (6, aI64 x_2), (10, aI64 (a.Grid.Z.length : Int)), (11, aI64 x_2)]) [.own (api_Banded.c a), .own (api_Banded.c b), .own (out_1.flatMap (iC .i64))] ?_
   obtain ⟨v11, hc12, hr⟩ := bd hr
   obtain ⟨hg13, hr⟩ := gd hr
   obtain ⟨hg14, hr⟩ := gd hr
   refine .g1 fine (callOk_val (l := []) rfl (SnL.cons (Sn.pure rfl) (SnL.cons (Sn.pure rfl) (SnL.cons (Sn.pure rfl) SnL.nil))) (change_verdict_ok n a b x_2 v11 hc12)) <| .mu 4 <| .c0 (by kernel_rfl) (callOf_at (by kernel_rfl)) <| .mu 1 <| .e0 (v := .hs 4 0 (out_1 ++ [v11]).length 1) (ws := [(2, .dead), (4, .own ((out_1 ++ [v11]).flatMap (iC .i64)))]) (Eq.trans (b := guardO (decide (0 + out_1.length * 1 ≤ (out_1.flatMap (iC .i64)).length) && decide ((out_1.length + 1) * 8 ≤ 140737488355328) && decide (out_1.length + 1 ≤ 4611686018427387904)) (some (.eff (.hs 4 0 (out_1.length + 1) 1) [(2, .dead), (4, .own (((out_1.flatMap (iC .i64)).drop 0).take (out_1.length * 1) ++ [aI64 v11]))]))) (by kernel_rfl) (app_own (l := out_1) (xs := [v11]) (iC_len _) rfl rfl (by kernel_rfl) hg13 hg14)) <| .mu 1 <| .done <| .pop <| .ru fine ?_
   exact loopF_back (out_1 ++ [v11], wrapF .i64 (x_2 + 1)) hr ((Wk.gc [2, 3, 5, 10, 11] [(0, true), (1, true), (4, false)] rfl (pKt (pKt (pKo (iC .i64) (iC_pure _) (out_1 ++ [v11]) trivial)))).to (by kernel_rfl))
  ·replace hr := cd_f hb10 hr
   refine .leave rfl ?_
   obtain rfl := Option.some.inj hr
   exact ⟨rfl, ((Wk.gc [5] [(2, false)] rfl (pKo (iC .i64) (iC_pure _) out_1 trivial)).to (by kernel_rfl))⟩
 ·rintro x st' hq17
  clear hL16
  obtain ⟨rfl, hq17⟩ := hq17
  refine CQ_exit _ rfl <| .wk hq17 <| .seq <| .rn fine [4] (mkS 23 0 [(4, .hs 0 0 out_8.length 1)]) [.own (out_8.flatMap (iC .i64))] <| .ret ?_
  obtain rfl := Option.some.inj hr
  exact FinQ.ret (vs := [.hs 0 0 out_8.length 1]) (by kernel_rfl) (Sn.hs rfl (.inl rfl) (SnC.pure (ids_flat (iC_pure _) _)) (fun h => flat_nil0 h))

theorem change_Compare_ok (n : Nat) (a : api_Banded) (b : api_Banded) (r : List Int × Int) (hr : change_Compare n a b = some r) : FnOk Tryz.prog 60 [.agg [.at (.int .i64 a.Grid.X0), .at (.int .i64 a.Grid.Y0), .at (.int .i64 a.Grid.Step), .at (.int .i64 a.Grid.Width), .at (.int .i64 a.Grid.Height), slT (iC .i64) a.Grid.Z, slT (iC .i64) a.Err], .agg [.at (.int .i64 b.Grid.X0), .at (.int .i64 b.Grid.Y0), .at (.int .i64 b.Grid.Step), .at (.int .i64 b.Grid.Width), .at (.int .i64 b.Grid.Height), slT (iC .i64) b.Grid.Z, slT (iC .i64) b.Err]] (.tup [slT (iC .i64) r.1, .at (.int .i64 r.2)]) := by
 unfold change_Compare at hr
 refine FnOk.body fine Tryz.func60 (c := (Tryz.f60.body).getD .skip) rfl (s := mkS 17 0 [(0, .agg (api_Banded.c a)), (1, .agg (api_Banded.c b))]) (by kernel_rfl) (rs := [.tmp 4, .tmp 5]) rfl ?_
 unfold Tryz.f60
 simp only [Option.getD_some]
 refine .seq <| .rn fine [2, 3] (mkS 17 0 [(2, .hp 0 0), (3, .hp 1 0)]) [.own (api_Banded.c a), .own (api_Banded.c b)] <| .seq <| .seq ?_
 obtain ⟨v1, hc2, hr⟩ := bd hr
 refine .region fine (callOf_cons (callOk_val (H := [.own (api_Banded.c a), .own (api_Banded.c b), .own [aI64 a.Grid.X0, aI64 a.Grid.Y0, aI64 a.Grid.Step, aI64 a.Grid.Width, aI64 a.Grid.Height, sI64 a.Grid.Z, sI64 a.Err, aI64 b.Grid.X0, aI64 b.Grid.Y0, aI64 b.Grid.Step, aI64 b.Grid.Width, aI64 b.Grid.Height, sI64 b.Grid.Z, sI64 b.Err]]) (args := [.hs 2 0 2 7]) (l := [2]) rfl (SnL.cons (Sn.hs rfl (.inl rfl) (SnC.cons (Sn.pure rfl) (SnC.cons (Sn.pure rfl) (SnC.cons (Sn.pure rfl) (SnC.cons (Sn.pure rfl) (SnC.cons (Sn.pure rfl) (SnC.cons (Sn.pure rfl) (SnC.cons (Sn.pure rfl) (SnC.cons (Sn.pure rfl) (SnC.cons (Sn.pure rfl) (SnC.cons (Sn.pure rfl) (SnC.cons (Sn.pure rfl) (SnC.cons (Sn.pure rfl) (SnC.cons (Sn.pure rfl) (SnC.cons (Sn.pure rfl) SnC.nil)))))))))))))) (fun h => nomatch h)) SnL.nil) (change_fit_ok n [a, b] v1 hc2)) callOf_nil) <| .mu 3 <| .c0 (by kernel_rfl) (callOf_at (by kernel_rfl)) <| .mu 1 <| .done <| .n1 [2, 3, 6] (mkS 17 0 [(2, .hp 0 0), (3, .hp 1 0), (6, aI64 v1)]) [.own (api_Banded.c a), .own (api_Banded.c b), .own [aI64 a.Grid.X0, aI64 a.Grid.Y0, aI64 a.Grid.Step, aI64 a.Grid.Width, aI64 a.Grid.Height, sI64 a.Grid.Z, sI64 a.Err, aI64 b.Grid.X0, aI64 b.Grid.Y0, aI64 b.Grid.Step, aI64 b.Grid.Width, aI64 b.Grid.Height, sI64 b.Grid.Z, sI64 b.Err]] <| .seq <| .rn fine [2, 3, 6, 12] (mkS 17 0 [(2, .hp 0 0), (3, .hp 1 0), (6, aI64 v1), (12, aB ((v1 : Int) != 0))]) [.own (api_Banded.c a), .own (api_Banded.c b), .own [aI64 a.Grid.X0, aI64 a.Grid.Y0, aI64 a.Grid.Step, aI64 a.Grid.Width, aI64 a.Grid.Height, sI64 a.Grid.Z, sI64 a.Err, aI64 b.Grid.X0, aI64 b.Grid.Y0, aI64 b.Grid.Step, aI64 b.Grid.Width, aI64 b.Grid.Height, sI64 b.Grid.Z, sI64 b.Err]] ?_
 refine .cond (t := (v1 : Int) != 0) (by kernel_rfl) (fun hb3 => ?_) (fun hb3 => ?_)
 ·replace hr := cd_t hb3 hr
  refine .seq <| .rn fine [4, 5] (mkS 17 0 [(4, .at (.slice none 0 0)), (5, aI64 v1)]) [.own (api_Banded.c a), .own (api_Banded.c b), .own [aI64 a.Grid.X0, aI64 a.Grid.Y0, aI64 a.Grid.Step, aI64 a.Grid.Width, aI64 a.Grid.Height, sI64 a.Grid.Z, sI64 a.Err, aI64 b.Grid.X0, aI64 b.Grid.Y0, aI64 b.Grid.Step, aI64 b.Grid.Width, aI64 b.Grid.Height, sI64 b.Grid.Z, sI64 b.Err]] <| .ret ?_
  obtain rfl := Option.some.inj hr
  exact FinQ.ret (vs := [.at (.slice none 0 0), aI64 v1]) (by kernel_rfl) (Sn.tup (SnL.cons Sn.nilsl (SnL.cons (Sn.pure rfl) SnL.nil)))
 ·replace hr := cd_f hb3 hr
  refine .skip <| .seq ?_
  obtain ⟨v4, hc5, hr⟩ := bd hr
  refine .g1 fine (callOk_ref (l := []) (SnL.cons (Sn.pure rfl) (SnL.cons (Sn.pure rfl) SnL.nil)) (change_verdicts_ok n a b v4 hc5)) <| .mu 2 <| .c0 (by kernel_rfl) (callOf_at (by kernel_rfl)) <| .mu 2 <| .done <| .ret ?_
  obtain rfl := Option.some.inj hr
  exact FinQ.ret (vs := [sI64 v4, aI64 0]) (by kernel_rfl) (Sn.tup (SnL.cons (Sn.pure rfl) (SnL.cons (Sn.pure rfl) SnL.nil)))

theorem integer_split_inj {n' : Int} {n'_ : Int} (h : ([.at (.int .u64 n')] : List AV) = [.at (.int .u64 n'_)]) : n' = n'_ := by
 simp only [List.cons.injEq, AV.agg.injEq, AV.at.injEq, Value.int.injEq, Value.bool.injEq, AV.fn.injEq, AV.pp.injEq, true_and, and_true] at h
 simp_all
theorem integer_split_ok (n : Nat) (n' : Int) (r : List Int) (hr : integer_split n n' = some r) : FnOk Tryz.prog 96 [.at (.int .u64 n')] (slT (iC .u32) r) := by
 unfold integer_split at hr
 refine FnOk.body fine Tryz.func96 (c := (Tryz.f96.body).getD .skip) rfl (s := mkS 15 0 [(0, aU64 n')]) (by kernel_rfl) (rs := [.tmp 2]) rfl ?_
 unfold Tryz.f96
 simp only [Option.getD_some]
 refine .seq <| .rn fine [0] (mkS 15 0 [(0, aU64 n')]) [] <| .seq <| .rn fine [0, 3] (mkS 15 0 [(0, aU64 n'), (3, .at (.slice none 0 0))]) [] <| .seq <| .block ?_
 replace hr := bd hr; obtain ⟨g_6, hL12, hr⟩ := hr
 refine .loopO (σ := fun z0 => match z0 with | (n_1, g_2) => ⟨mkS 15 0 [(0, aU64 n_1), (3, .hs 0 0 g_2.length 1)], [.own (g_2.flatMap (iC .u32))]⟩) (Q := fun x st' => x = .exit 0 ∧ Wk 0 st' ⟨mkS 15 0 [(3, .hs 0 0 g_6.length 1)], [.own (g_6.flatMap (iC .u32))]⟩) hL12 ((Wk.nil 3 1 (by kernel_rfl)).trans ((Wk.gc [0, 3] [(0, false)] rfl (pKc trivial)).to (by kernel_rfl))) ?_ ?_
 ·clear hr
  rintro m ⟨n_1, g_2⟩ hr
  show CQ _ _ _ _ _ ⟨_, _⟩
  refine .seq <| .seq <| .rn fine [0, 3, 5] (mkS 15 0 [(0, aU64 n_1), (3, .hs 0 0 g_2.length 1), (5, aB (decide (n_1 > 0)))]) [.own (g_2.flatMap (iC .u32))] ?_
  refine .cond (t := decide (n_1 > 0)) (by kernel_rfl) (fun hb8 => ?_) (fun hb8 => ?_)
  ·replace hr := cd_t hb8 hr
   refine .skip <| .seq <| .block ?_
   obtain ⟨hg9, hr⟩ := gd hr
   obtain ⟨hg10, hr⟩ := gd hr
   refine .r0 fine <| .mu 5 <| .e0 (v := .hs 2 0 (g_2 ++ [wrapF .u32 (n_1.tmod 1000000000)]).length 1) (ws := [(0, .dead), (2, .own ((g_2 ++ [wrapF .u32 (n_1.tmod 1000000000)]).flatMap (iC .u32)))]) (Eq.trans (b := guardO (decide (0 + g_2.length * 1 ≤ (g_2.flatMap (iC .u32)).length) && decide ((g_2.length + 1) * 4 ≤ 140737488355328) && decide (g_2.length + 1 ≤ 4611686018427387904)) (some (.eff (.hs 2 0 (g_2.length + 1) 1) [(0, .dead), (2, .own (((g_2.flatMap (iC .u32)).drop 0).take (g_2.length * 1) ++ [aU32 (wrapF .u32 (n_1.tmod 1000000000))]))]))) (by kernel_rfl) (app_own (l := g_2) (xs := [wrapF .u32 (n_1.tmod 1000000000)]) (iC_len _) rfl rfl (by kernel_rfl) hg9 hg10)) <| .mu 1 <| .done <| .pop <| .ru fine ?_
   exact loopF_back (wrapF .u64 (n_1.tdiv 1000000000), g_2 ++ [wrapF .u32 (n_1.tmod 1000000000)]) hr ((Wk.gc [0, 3] [(2, false)] rfl (pKo (iC .u32) (iC_pure _) (g_2 ++ [wrapF .u32 (n_1.tmod 1000000000)]) trivial)).to (by kernel_rfl))
  ·replace hr := cd_f hb8 hr
   refine .leave rfl ?_
   obtain rfl := Option.some.inj hr
   exact ⟨rfl, ((Wk.gc [3] [(0, false)] rfl (pKo (iC .u32) (iC_pure _) g_2 trivial)).to (by kernel_rfl))⟩
 ·rintro x st' hq13
  clear hL12
  obtain ⟨rfl, hq13⟩ := hq13
  refine CQ_exit _ rfl <| .wk hq13 <| .seq <| .rn fine [2] (mkS 15 0 [(2, .hs 0 0 g_6.length 1)]) [.own (g_6.flatMap (iC .u32))] <| .ret ?_
  obtain rfl := Option.some.inj hr
  exact FinQ.ret (vs := [.hs 0 0 g_6.length 1]) (by kernel_rfl) (Sn.hs rfl (.inl rfl) (SnC.pure (ids_flat (iC_pure _) _)) (fun h => flat_nil0 h))

theorem integer_trim_ok (n : Nat) (g : List Int) (r : List Int) (hr : integer_trim n g = some r) : FnOk Tryz.prog 131 [slT (iC .u32) g] (slT (iC .u32) r) := by
 unfold integer_trim at hr
 refine FnOk.body fine Tryz.func131 (c := (Tryz.f131.body).getD .skip) rfl (s := mkS 21 0 [(0, sU32 g)]) (by kernel_rfl) (rs := [.tmp 2]) rfl ?_
 unfold Tryz.f131
 simp only [Option.getD_some]
 refine .seq <| .rn fine [0] (mkS 21 0 [(0, sU32 g)]) [] <| .seq <| .block ?_
 replace hr := bd hr; obtain ⟨g_6, hL13, hr⟩ := hr
 refine .loopO (σ := fun z0 => match z0 with | g_1 => ⟨mkS 21 0 [(0, sU32 g_1)], []⟩) (Q := fun x st' => x = .exit 0 ∧ Wk 0 st' ⟨mkS 21 0 [(0, sU32 g_6)], []⟩) hL13 ((Wk.gc [0] [] rfl pK0).to (by kernel_rfl)) ?_ ?_
 ·clear hr
  rintro m g_1 hr
  show CQ _ _ _ _ _ ⟨_, _⟩
  refine .seq <| .seq ?_
  rcases Bool.eq_false_or_eq_true (decide ((g_1.length : Int) > 0)) with hb8 | hb8
  ·replace hr := cd_t hb8 hr
   obtain ⟨hg9, hr⟩ := gd hr
   refine .r0 fine <| .mu 2 <| .p0 (v := aB true) (Eq.trans (b := some (.pure (aB (decide ((g_1.length : Int) > 0))))) (by kernel_rfl) (by rw [hb8])) <| .mu 5 <| .pure (v := .pp (g_1.flatMap (iC .u32)) ((wrapF .i64 ((g_1.length : Int) - 1)).toNat * 1)) (by kernel_rfl) (Eq.trans (b := ORes.ofP (guardV (inR (wrapF .i64 ((g_1.length : Int) - 1)) g_1.length) (.pp (g_1.flatMap (iC .u32)) ((wrapF .i64 ((g_1.length : Int) - 1)).toNat * 1)))) (by kernel_rfl) (ofP_guard hg9)) <| .pure (v := aU32 (gt g_1 (wrapF .i64 ((g_1.length : Int) - 1)))) (by kernel_rfl) (Eq.trans (b := ORes.ofP ((g_1.flatMap (iC .u32))[(wrapF .i64 ((g_1.length : Int) - 1)).toNat * 1]?)) (by kernel_rfl) (ofP_some (flat_get (iC_len _) (inR_lt hg9) (by decide : 0 < 1) (by omega : (wrapF .i64 ((g_1.length : Int) - 1)).toNat * 1 = (wrapF .i64 ((g_1.length : Int) - 1)).toNat * 1 + 0) (by kernel_rfl)))) <| .mu 2 <| .done <| .n1 [0, 14] (mkS 21 0 [(0, sU32 g_1), (14, aB (((gt g_1 (wrapF .i64 ((g_1.length : Int) - 1))) : Int) == 0))]) [] ?_
   refine .cond (t := ((gt g_1 (wrapF .i64 ((g_1.length : Int) - 1))) : Int) == 0) (by kernel_rfl) (fun hb10 => ?_) (fun hb10 => ?_)
   ·replace hr := cd_t hb10 hr
    refine .skip <| .block ?_
    obtain ⟨hg11, hr⟩ := gd hr
    refine .r0 fine <| .mu 4 <| .p0 (v := sU32 ((g_1.drop (0 : Int).toNat).take ((wrapF .i64 ((g_1.length : Int) - 1)).toNat - (0 : Int).toNat))) (Eq.trans (b := slO (inS 0 (wrapF .i64 ((g_1.length : Int) - 1)) g_1.length) (0 : Int).toNat (wrapF .i64 ((g_1.length : Int) - 1)).toNat (fun z1 z2 => .sl true (((g_1.flatMap (iC .u32)).drop (z1 * 1)).take ((z2 - z1) * 1)) (z2 - z1))) (by kernel_rfl) (slO_t hg11 (sub_sl (iC_len _) (inS_le hg11)))) <| .mu 1 <| .done <| .pop ?_
    exact loopF_back ((g_1.drop (0 : Int).toNat).take ((wrapF .i64 ((g_1.length : Int) - 1)).toNat - (0 : Int).toNat)) hr ((Wk.gc [0] [] rfl pK0).to (by kernel_rfl))
   ·replace hr := cd_f hb10 hr
    refine .leave rfl ?_
    obtain rfl := Option.some.inj hr
    exact ⟨rfl, ((Wk.gc [0] [] rfl pK0).to (by kernel_rfl))⟩
  ·replace hr := cd_f hb8 hr
   refine .r0 fine <| .mu 2 <| .p0 (v := aB false) (Eq.trans (b := some (.pure (aB (decide ((g_1.length : Int) > 0))))) (by kernel_rfl) (by rw [hb8])) <| .mu 9 <| .done <| .n1 [0, 14] (mkS 21 0 [(0, sU32 g_1), (14, aB false)]) [] <| .cF (by kernel_rfl) <| .leave rfl ?_
   obtain rfl := Option.some.inj hr
   exact ⟨rfl, ((Wk.gc [0] [] rfl pK0).to (by kernel_rfl))⟩
 ·rintro x st' hq14
  clear hL13
  obtain ⟨rfl, hq14⟩ := hq14
  refine CQ_exit _ rfl <| .wk hq14 <| .seq <| .ru fine <| .ret ?_
  obtain rfl := Option.some.inj hr
  exact FinQ.r1 [sU32 g_6]

theorem integer_made_inj {negative : Bool} {g : List Int} {negative_ : Bool} {g_ : List Int} (h : ([.at (.bool negative), slT (iC .u32) g] : List AV) = [.at (.bool negative_), slT (iC .u32) g_]) : negative = negative_ ∧ g = g_ := by
 simp only [List.cons.injEq, AV.agg.injEq, AV.at.injEq, Value.int.injEq, Value.bool.injEq, AV.fn.injEq, AV.pp.injEq, true_and, and_true, slT_inj_int] at h
 simp_all
theorem integer_made_ok (n : Nat) (negative : Bool) (g : List Int) (r : api_Int) (hr : integer_made n negative g = some r) : FnOk Tryz.prog 95 [.at (.bool negative), slT (iC .u32) g] (.agg [.at (.bool r.Negative), slT (iC .u32) r.Groups]) := by
 unfold integer_made at hr
 refine FnOk.body fine Tryz.func95 (c := (Tryz.f95.body).getD .skip) rfl (s := mkS 14 0 [(0, aB negative), (1, sU32 g)]) (by kernel_rfl) (rs := [.cell 4 37]) rfl ?_
 unfold Tryz.f95
 simp only [Option.getD_some]
 refine .seq <| .rn fine [0, 1, 4] (mkS 14 0 [(0, aB negative), (1, sU32 g), (4, .hp 0 0)]) [.own [aB false, .at (.slice none 0 0)]] <| .seq ?_
 obtain ⟨v1, hc2, hr⟩ := bd hr
 refine .g1 fine (callOk_ref (l := []) (SnL.cons (Sn.pure rfl) SnL.nil) (integer_trim_ok n g v1 hc2)) <| .mu 1 <| .c0 (by kernel_rfl) (callOf_at (by kernel_rfl)) <| .mu 1 <| .done <| .n1 [0, 1, 4] (mkS 14 0 [(0, aB negative), (1, sU32 v1), (4, .hp 0 0)]) [.own [aB false, .at (.slice none 0 0)]] <| .seq <| .seq <| .rn fine [0, 1, 4, 9] (mkS 14 0 [(0, aB negative), (1, sU32 v1), (4, .hp 0 0), (9, aB (((v1.length : Int) : Int) == 0))]) [.own [aB false, .at (.slice none 0 0)]] ?_
 refine .cond (t := ((v1.length : Int) : Int) == 0) (by kernel_rfl) (fun hb3 => ?_) (fun hb3 => ?_)
 ·replace hr := cd_t hb3 hr
  refine .seq <| .rn fine [4] (mkS 14 0 [(4, .hp 0 0)]) [.own [aB false, .at (.slice none 0 0)]] <| .ret ?_
  obtain rfl := Option.some.inj hr
  exact FinQ.ret (vs := [.agg [aB false, .at (.slice none 0 0)]]) (by kernel_rfl) (Sn.agg (SnL.cons (Sn.pure rfl) (SnL.cons Sn.nilsl SnL.nil)))
 ·replace hr := cd_f hb3 hr
  refine .skip <| .seq <| .rn fine [4] (mkS 14 0 [(4, .hp 0 0)]) [.own [aB negative, sU32 v1]] <| .ret ?_
  obtain rfl := Option.some.inj hr
  exact FinQ.r1 [.agg [aB negative, sU32 v1]]

theorem integer_Of_inj {n' : Int} {n'_ : Int} (h : ([.at (.int .i64 n')] : List AV) = [.at (.int .i64 n'_)]) : n' = n'_ := by
 simp only [List.cons.injEq, AV.agg.injEq, AV.at.injEq, Value.int.injEq, Value.bool.injEq, AV.fn.injEq, AV.pp.injEq, true_and, and_true] at h
 simp_all
theorem integer_Of_ok (n : Nat) (n' : Int) (r : api_Int) (hr : integer_Of n n' = some r) : FnOk Tryz.prog 49 [.at (.int .i64 n')] (.agg [.at (.bool r.Negative), slT (iC .u32) r.Groups]) := by
 unfold integer_Of at hr
 refine FnOk.body fine Tryz.func49 (c := (Tryz.f49.body).getD .skip) rfl (s := mkS 15 0 [(0, aI64 n')]) (by kernel_rfl) (rs := [.cell 2 37]) rfl ?_
 unfold Tryz.f49
 simp only [Option.getD_some]
 refine .seq <| .rn fine [0, 2] (mkS 15 0 [(0, aI64 n'), (2, .hp 0 0)]) [.own [aB false, .at (.slice none 0 0)]] <| .seq <| .rn fine [0, 2, 3] (mkS 15 0 [(0, aI64 n'), (2, .hp 0 0), (3, aU64 (wrapF .u64 n'))]) [.own [aB false, .at (.slice none 0 0)]] <| .seq <| .seq <| .rn fine [0, 2, 3, 7] (mkS 15 0 [(0, aI64 n'), (2, .hp 0 0), (3, aU64 (wrapF .u64 n')), (7, aB (decide (n' < 0)))]) [.own [aB false, .at (.slice none 0 0)]] ?_
 refine .cond (t := decide (n' < 0)) (by kernel_rfl) (fun hb1 => ?_) (fun hb1 => ?_)
 ·replace hr := cd_t hb1 hr
  refine .r0 fine <| .mu 1 <| .p0 (v := aU64 (wrapF .u64 (0 - (wrapF .u64 n')))) (Eq.trans (b := some (.pure (aU64 (IntKind.wrap .u64 (0 - (wrapF .u64 n')))))) (by kernel_rfl) wrap_at) <| .mu 1 <| .done <| .n1 [0, 2, 3] (mkS 15 0 [(0, aI64 n'), (2, .hp 0 0), (3, aU64 (wrapF .u64 (0 - (wrapF .u64 n'))))]) [.own [aB false, .at (.slice none 0 0)]] <| .seq ?_
  obtain ⟨v2, hc3, hr⟩ := bd hr
  obtain ⟨v4, hc5, hr⟩ := bd hr
  refine .region fine (callOf_cons (callOk_ref (H := [.own [aB false, .at (.slice none 0 0)]]) (l := []) (SnL.cons (Sn.pure rfl) SnL.nil) (integer_split_ok n (wrapF .u64 (0 - (wrapF .u64 n'))) v2 hc3)) (callOf_cons (callOk_ref (H := [.own [aB false, .at (.slice none 0 0)]]) (l := []) (SnL.cons (Sn.pure rfl) (SnL.cons (Sn.pure rfl) SnL.nil)) (integer_made_ok n true v2 v4 hc5)) callOf_nil)) <| .mu 1 <| .p0 (v := aB true) (Eq.trans (b := some (.pure (aB (decide (n' < 0))))) (by kernel_rfl) (by rw [hb1])) <| .mu 1 <| .c0 (by kernel_rfl) (callOf_at (by kernel_rfl)) <| .c0 (by kernel_rfl) (callOf_skip (fun h _ => absurd (show (95 : Nat) = 96 from h) (by decide)) (callOf_at (by kernel_rfl))) <| .mu 1 <| .done <| .n1 [2] (mkS 15 0 [(2, .hp 0 0)]) [.own (api_Int.c v4)] <| .ret ?_
  obtain rfl := Option.some.inj hr
  exact FinQ.r1 [.agg (api_Int.c v4)]
 ·replace hr := cd_f hb1 hr
  refine .skip <| .seq ?_
  obtain ⟨v6, hc7, hr⟩ := bd hr
  obtain ⟨v8, hc9, hr⟩ := bd hr
  refine .region fine (callOf_cons (callOk_ref (H := [.own [aB false, .at (.slice none 0 0)]]) (l := []) (SnL.cons (Sn.pure rfl) SnL.nil) (integer_split_ok n (wrapF .u64 n') v6 hc7)) (callOf_cons (callOk_ref (H := [.own [aB false, .at (.slice none 0 0)]]) (l := []) (SnL.cons (Sn.pure rfl) (SnL.cons (Sn.pure rfl) SnL.nil)) (integer_made_ok n false v6 v8 hc9)) callOf_nil)) <| .mu 1 <| .p0 (v := aB false) (Eq.trans (b := some (.pure (aB (decide (n' < 0))))) (by kernel_rfl) (by rw [hb1])) <| .mu 1 <| .c0 (by kernel_rfl) (callOf_at (by kernel_rfl)) <| .c0 (by kernel_rfl) (callOf_skip (fun h _ => absurd (show (95 : Nat) = 96 from h) (by decide)) (callOf_at (by kernel_rfl))) <| .mu 1 <| .done <| .n1 [2] (mkS 15 0 [(2, .hp 0 0)]) [.own (api_Int.c v8)] <| .ret ?_
  obtain rfl := Option.some.inj hr
  exact FinQ.r1 [.agg (api_Int.c v8)]

theorem fraction_Whole_inj {n' : Int} {n'_ : Int} (h : ([.at (.int .i64 n')] : List AV) = [.at (.int .i64 n'_)]) : n' = n'_ := by
 simp only [List.cons.injEq, AV.agg.injEq, AV.at.injEq, Value.int.injEq, Value.bool.injEq, AV.fn.injEq, AV.pp.injEq, true_and, and_true] at h
 simp_all
theorem fraction_Whole_ok (n : Nat) (n' : Int) (r : api_Rat) (hr : fraction_Whole n n' = some r) : FnOk Tryz.prog 48 [.at (.int .i64 n')] (.agg [.at (.bool r.Num.Negative), slT (iC .u32) r.Num.Groups, .at (.bool r.Den.Negative), slT (iC .u32) r.Den.Groups]) := by
 unfold fraction_Whole at hr
 refine FnOk.body fine Tryz.func48 (c := (Tryz.f48.body).getD .skip) rfl (s := mkS 7 0 [(0, aI64 n')]) (by kernel_rfl) (rs := [.cell 2 39]) rfl ?_
 unfold Tryz.f48
 simp only [Option.getD_some]
 refine .seq <| .rn fine [0, 2] (mkS 7 0 [(0, aI64 n'), (2, .hp 0 0)]) [.own [aB false, .at (.slice none 0 0), aB false, .at (.slice none 0 0)]] <| .seq ?_
 obtain ⟨v1, hc2, hr⟩ := bd hr
 obtain ⟨v3, hc4, hr⟩ := bd hr
 refine .region fine (callOf_cons (callOk_ref (H := [.own [aB false, .at (.slice none 0 0), aB false, .at (.slice none 0 0)]]) (l := []) (SnL.cons (Sn.pure rfl) SnL.nil) (integer_Of_ok n n' v1 hc2)) (callOf_cons (callOk_ref (H := [.own [aB false, .at (.slice none 0 0), aB false, .at (.slice none 0 0)]]) (l := []) (SnL.cons (Sn.pure rfl) SnL.nil) (integer_Of_ok n 1 v3 hc4)) callOf_nil)) <| .mu 1 <| .c0 (by kernel_rfl) (callOf_at (by kernel_rfl)) <| .c0 (by kernel_rfl) (callOf_skip (fun _ h => by obtain e0 := integer_Of_inj h; rw [show v3 = v1 from Option.some.inj (hc4.symm.trans ((show integer_Of n 1 = integer_Of n n' from (congr rfl e0)).trans hc2))]) (callOf_at (by kernel_rfl))) <| .mu 2 <| .done <| .n1 [2] (mkS 7 0 [(2, .hp 0 0)]) [.own [aB v1.Negative, sU32 v1.Groups, aB v3.Negative, sU32 v3.Groups]] <| .ret ?_
 obtain rfl := Option.some.inj hr
 exact FinQ.r1 [.agg [aB v1.Negative, sU32 v1.Groups, aB v3.Negative, sU32 v3.Groups]]

theorem integer_Valid_1_ok (n : Nat) (g : Int) (r : Bool) (hr : integer_Valid_1 n g = some r) : FnOk Tryz.prog 176 [.at (.int .u32 g)] (.at (.bool r)) := by
 unfold integer_Valid_1 at hr
 refine FnOk.body fine Tryz.func176 (c := (Tryz.f176.body).getD .skip) rfl (s := mkS 5 0 [(0, aU32 g)]) (by kernel_rfl) (rs := [.tmp 2]) rfl ?_
 unfold Tryz.f176
 simp only [Option.getD_some]
 refine .seq <| .rn fine [0] (mkS 5 0 [(0, aU32 g)]) [] <| .seq <| .ru fine <| .ret ?_
 obtain rfl := Option.some.inj hr
 exact FinQ.r1 [aB (decide (g ≥ 1000000000))]

theorem slices_IndexFunc_uint32_uint32_of_integer_Valid_1_ok (n : Nat) (s : List Int) (r : Int) (hr : slices_IndexFunc_uint32_uint32_of_integer_Valid_1 n s = some r) : FnOk Tryz.prog 200 [slT (iC .u32) s, .fn 176 [] []] (.at (.int .i64 r)) := by
 unfold slices_IndexFunc_uint32_uint32_of_integer_Valid_1 at hr
 refine FnOk.body fine Tryz.func200 (c := (Tryz.f200.body).getD .skip) rfl (s := mkS 19 0 [(0, sU32 s), (1, .fn 176 [] [])]) (by kernel_rfl) (rs := [.tmp 4]) rfl ?_
 unfold Tryz.f200
 simp only [Option.getD_some]
 refine .seq <| .rn fine [0, 1] (mkS 19 0 [(0, sU32 s), (1, .fn 176 [] [])]) [] <| .seq <| .seq <| .rn fine [0, 1, 7, 8] (mkS 19 0 [(0, sU32 s), (1, .fn 176 [] []), (7, aI64 (s.length : Int)), (8, aI64 0)]) [] <| .block ?_
 replace hr := bd hr; obtain ⟨o13, hL14, hr⟩ := hr
 refine .loopO (σ := fun z0 => match z0 with | x_1 => ⟨mkS 19 0 [(0, sU32 s), (1, .fn 176 [] []), (7, aI64 (s.length : Int)), (8, aI64 x_1)], []⟩) (Q := fun x st' => match (generalizing := false) o13 with | .inl _ => x = .exit 0 ∧ Wk 0 st' ⟨mkS 19 0 [], []⟩ | .inr (r0) => x = .ret ∧ FinQ Tryz.prog [.tmp 4] (aI64 r0) .ret st') hL14 ((Wk.gc [0, 1, 7, 8] [] rfl pK0).to (by kernel_rfl)) ?_ ?_
 ·clear hr
  rintro m x_1 hr
  show CQ _ _ _ _ _ ⟨_, _⟩
  refine .seq <| .rn fine [0, 1, 7, 8, 9] (mkS 19 0 [(0, sU32 s), (1, .fn 176 [] []), (7, aI64 (s.length : Int)), (8, aI64 x_1), (9, aB (decide (x_1 < (s.length : Int))))]) [] <| .seq ?_
  refine .cond (t := decide (x_1 < (s.length : Int))) (by kernel_rfl) (fun hb8 => ?_) (fun hb8 => ?_)
  ·replace hr := cd_t hb8 hr
   refine .skip <| .seq <| .block <| .seq <| .rn fine [0, 1, 5, 7, 8] (mkS 19 0 [(0, sU32 s), (1, .fn 176 [] []), (5, aI64 x_1), (7, aI64 (s.length : Int)), (8, aI64 x_1)]) [] <| .seq ?_
   obtain ⟨hg9, hr⟩ := gd hr
   obtain ⟨v10, hc11, hr⟩ := bd hr
   refine .g1 fine (callOk_val (l := []) rfl (SnL.cons (Sn.pure rfl) SnL.nil) (integer_Valid_1_ok n (gt s x_1) v10 hc11)) <| .mu 3 <| .p0 (v := .pp (s.flatMap (iC .u32)) (x_1.toNat * 1)) (Eq.trans (b := ORes.ofP (guardV (inR x_1 s.length) (.pp (s.flatMap (iC .u32)) (x_1.toNat * 1)))) (by kernel_rfl) (ofP_guard hg9)) <| .p0 (v := aU32 (gt s x_1)) (Eq.trans (b := ORes.ofP ((s.flatMap (iC .u32))[x_1.toNat * 1]?)) (by kernel_rfl) (ofP_some (flat_get (iC_len _) (inR_lt hg9) (by decide : 0 < 1) (by omega : x_1.toNat * 1 = x_1.toNat * 1 + 0) (by kernel_rfl)))) <| .c0 (by kernel_rfl) (callOf_at (by kernel_rfl)) <| .done <| .n1 [0, 1, 5, 7, 8, 16] (mkS 19 0 [(0, sU32 s), (1, .fn 176 [] []), (5, aI64 x_1), (7, aI64 (s.length : Int)), (8, aI64 x_1), (16, aB v10)]) [] ?_
   refine .cond (t := v10) (by kernel_rfl) (fun hb12 => ?_) (fun hb12 => ?_)
   ·replace hr := cd_t hb12 hr
    refine .seq <| .ru fine <| .ret ?_
    obtain rfl := Option.some.inj hr
    exact ⟨rfl, FinQ.ret (vs := [aI64 x_1]) (by kernel_rfl) (Sn.pure rfl)⟩
   ·replace hr := cd_f hb12 hr
    refine .skip <| .pop <| .ru fine ?_
    exact loopF_back (wrapF .i64 (x_1 + 1)) hr ((Wk.gc [0, 1, 7, 8] [] rfl pK0).to (by kernel_rfl))
  ·replace hr := cd_f hb8 hr
   refine .leave rfl ?_
   obtain rfl := Option.some.inj hr
   exact ⟨rfl, ((Wk.gc [] [] rfl pK0).to (by kernel_rfl))⟩
 ·rcases o13 with ⟨⟩ | r0
  ·rintro x st' hq15
   clear hL14
   obtain ⟨rfl, hq15⟩ := hq15
   refine CQ_exit _ rfl <| .wk hq15 <| .seq <| .ru fine <| .ret ?_
   obtain rfl := Option.some.inj hr
   exact FinQ.r1 [aI64 (-1)]
  ·rintro x st' hq15
   clear hL14
   obtain ⟨rfl, hq15⟩ := hq15
   obtain rfl := Option.some.inj hr
   exact CQ_ret _ hq15

theorem slices_ContainsFunc_uint32_uint32_of_integer_Valid_1_ok (n : Nat) (s : List Int) (r : Bool) (hr : slices_ContainsFunc_uint32_uint32_of_integer_Valid_1 n s = some r) : FnOk Tryz.prog 175 [slT (iC .u32) s, .fn 176 [] []] (.at (.bool r)) := by
 unfold slices_ContainsFunc_uint32_uint32_of_integer_Valid_1 at hr
 refine FnOk.body fine Tryz.func175 (c := (Tryz.f175.body).getD .skip) rfl (s := mkS 9 0 [(0, sU32 s), (1, .fn 176 [] [])]) (by kernel_rfl) (rs := [.tmp 4]) rfl ?_
 unfold Tryz.f175
 simp only [Option.getD_some]
 refine .seq <| .rn fine [0, 1] (mkS 9 0 [(0, sU32 s), (1, .fn 176 [] [])]) [] <| .seq ?_
 obtain ⟨v1, hc2, hr⟩ := bd hr
 refine .g1 fine (callOk_val (l := []) rfl (SnL.cons (Sn.pure rfl) (SnL.cons (Sn.pure rfl) SnL.nil)) (slices_IndexFunc_uint32_uint32_of_integer_Valid_1_ok n s v1 hc2)) <| .mu 2 <| .c0 (by kernel_rfl) (callOf_at (by kernel_rfl)) <| .mu 2 <| .done <| .ret ?_
 obtain rfl := Option.some.inj hr
 exact FinQ.r1 [aB (decide (v1 ≥ 0))]

theorem integer_Valid_inj {x' : api_Int} {x'_ : api_Int} (h : ([.agg [.at (.bool x'.Negative), slT (iC .u32) x'.Groups]] : List AV) = [.agg [.at (.bool x'_.Negative), slT (iC .u32) x'_.Groups]]) : x' = x'_ := by
 obtain ⟨_, _⟩ := x'
 obtain ⟨_, _⟩ := x'_
 simp only [List.cons.injEq, AV.agg.injEq, AV.at.injEq, Value.int.injEq, Value.bool.injEq, AV.fn.injEq, AV.pp.injEq, true_and, and_true, slT_inj_int] at h
 simp_all
theorem integer_Valid_ok (n : Nat) (x' : api_Int) (r : Bool) (hr : integer_Valid n x' = some r) : FnOk Tryz.prog 132 [.agg [.at (.bool x'.Negative), slT (iC .u32) x'.Groups]] (.at (.bool r)) := by
 unfold integer_Valid at hr
 refine FnOk.body fine Tryz.func132 (c := (Tryz.f132.body).getD .skip) rfl (s := mkS 25 0 [(0, .agg (api_Int.c x'))]) (by kernel_rfl) (rs := [.tmp 2]) rfl ?_
 unfold Tryz.f132
 simp only [Option.getD_some]
 refine .seq <| .rn fine [1] (mkS 25 0 [(1, .hp 0 0)]) [.own (api_Int.c x')] <| .seq <| .rn fine [1, 3] (mkS 25 0 [(1, .hp 0 0), (3, aI64 (x'.Groups.length : Int))]) [.own (api_Int.c x')] <| .seq <| .seq <| .rn fine [1, 3, 8] (mkS 25 0 [(1, .hp 0 0), (3, aI64 (x'.Groups.length : Int)), (8, aB (((x'.Groups.length : Int) : Int) == 0))]) [.own (api_Int.c x')] ?_
 refine .cond (t := ((x'.Groups.length : Int) : Int) == 0) (by kernel_rfl) (fun hb1 => ?_) (fun hb1 => ?_)
 ·replace hr := cd_t hb1 hr
  refine .seq <| .ru fine <| .ret ?_
  obtain rfl := Option.some.inj hr
  exact FinQ.r1 [aB (!x'.Negative)]
 ·replace hr := cd_f hb1 hr
  refine .skip <| .seq ?_
  obtain ⟨hg2, hr⟩ := gd hr
  rcases Bool.eq_false_or_eq_true (((gt x'.Groups (wrapF .i64 ((x'.Groups.length : Int) - 1))) : Int) != 0) with hb3 | hb3
  ·replace hr := cd_t hb3 hr
   obtain ⟨v4, hc5, hr⟩ := bd hr
   refine .g1 fine (callOk_val (l := []) rfl (SnL.cons (Sn.pure rfl) (SnL.cons (Sn.pure rfl) SnL.nil)) (slices_ContainsFunc_uint32_uint32_of_integer_Valid_1_ok n x'.Groups v4 hc5)) <| .mu 4 <| .p0 (v := .pp (x'.Groups.flatMap (iC .u32)) ((wrapF .i64 ((x'.Groups.length : Int) - 1)).toNat * 1)) (Eq.trans (b := ORes.ofP (guardV (inR (wrapF .i64 ((x'.Groups.length : Int) - 1)) x'.Groups.length) (.pp (x'.Groups.flatMap (iC .u32)) ((wrapF .i64 ((x'.Groups.length : Int) - 1)).toNat * 1)))) (by kernel_rfl) (ofP_guard hg2)) <| .p0 (v := aU32 (gt x'.Groups (wrapF .i64 ((x'.Groups.length : Int) - 1)))) (Eq.trans (b := ORes.ofP ((x'.Groups.flatMap (iC .u32))[(wrapF .i64 ((x'.Groups.length : Int) - 1)).toNat * 1]?)) (by kernel_rfl) (ofP_some (flat_get (iC_len _) (inR_lt hg2) (by decide : 0 < 1) (by omega : (wrapF .i64 ((x'.Groups.length : Int) - 1)).toNat * 1 = (wrapF .i64 ((x'.Groups.length : Int) - 1)).toNat * 1 + 0) (by kernel_rfl)))) <| .p0 (v := aB true) (Eq.trans (b := some (.pure (aB (((gt x'.Groups (wrapF .i64 ((x'.Groups.length : Int) - 1))) : Int) != 0)))) (by kernel_rfl) (by rw [hb3])) <| .mu 3 <| .cal (by kernel_rfl) (by kernel_rfl) (callOf_at (by kernel_rfl)) <| .mu 3 <| .done <| .ret ?_
   obtain rfl := Option.some.inj hr
   exact FinQ.r1 [aB (!v4)]
  ·replace hr := cd_f hb3 hr
   refine .r0 fine <| .mu 4 <| .p0 (v := .pp (x'.Groups.flatMap (iC .u32)) ((wrapF .i64 ((x'.Groups.length : Int) - 1)).toNat * 1)) (Eq.trans (b := ORes.ofP (guardV (inR (wrapF .i64 ((x'.Groups.length : Int) - 1)) x'.Groups.length) (.pp (x'.Groups.flatMap (iC .u32)) ((wrapF .i64 ((x'.Groups.length : Int) - 1)).toNat * 1)))) (by kernel_rfl) (ofP_guard hg2)) <| .p0 (v := aU32 (gt x'.Groups (wrapF .i64 ((x'.Groups.length : Int) - 1)))) (Eq.trans (b := ORes.ofP ((x'.Groups.flatMap (iC .u32))[(wrapF .i64 ((x'.Groups.length : Int) - 1)).toNat * 1]?)) (by kernel_rfl) (ofP_some (flat_get (iC_len _) (inR_lt hg2) (by decide : 0 < 1) (by omega : (wrapF .i64 ((x'.Groups.length : Int) - 1)).toNat * 1 = (wrapF .i64 ((x'.Groups.length : Int) - 1)).toNat * 1 + 0) (by kernel_rfl)))) <| .p0 (v := aB false) (Eq.trans (b := some (.pure (aB (((gt x'.Groups (wrapF .i64 ((x'.Groups.length : Int) - 1))) : Int) != 0)))) (by kernel_rfl) (by rw [hb3])) <| .mu 7 <| .done <| .ret ?_
   obtain rfl := Option.some.inj hr
   exact FinQ.r1 [aB false]

theorem integer_groups_inj {x' : api_Int} {x'_ : api_Int} (h : ([.agg [.at (.bool x'.Negative), slT (iC .u32) x'.Groups]] : List AV) = [.agg [.at (.bool x'_.Negative), slT (iC .u32) x'_.Groups]]) : x' = x'_ := by
 obtain ⟨_, _⟩ := x'
 obtain ⟨_, _⟩ := x'_
 simp only [List.cons.injEq, AV.agg.injEq, AV.at.injEq, Value.int.injEq, Value.bool.injEq, AV.fn.injEq, AV.pp.injEq, true_and, and_true, slT_inj_int] at h
 simp_all
theorem integer_groups_ok (n : Nat) (x' : api_Int) (r : List Int) (hr : integer_groups n x' = some r) : FnOk Tryz.prog 100 [.agg [.at (.bool x'.Negative), slT (iC .u32) x'.Groups]] (slT (iC .u32) r) := by
 unfold integer_groups at hr
 refine FnOk.body fine Tryz.func100 (c := (Tryz.f100.body).getD .skip) rfl (s := mkS 8 0 [(0, .agg (api_Int.c x'))]) (by kernel_rfl) (rs := [.tmp 2]) rfl ?_
 unfold Tryz.f100
 simp only [Option.getD_some]
 refine .seq <| .rn fine [1] (mkS 8 0 [(1, .hp 0 0)]) [.own (api_Int.c x')] <| .seq <| .seq ?_
 obtain ⟨v1, hc2, hr⟩ := bd hr
 refine .g1 fine (callOk_val (l := []) rfl (SnL.cons (Sn.pure rfl) SnL.nil) (integer_Valid_ok n x' v1 hc2)) <| .mu 1 <| .c0 (by kernel_rfl) (callOf_at (by kernel_rfl)) <| .mu 1 <| .done <| .n1 [1, 5] (mkS 8 0 [(1, .hp 0 0), (5, aB (!v1))]) [.own (api_Int.c x')] ?_
 refine .cond (t := !v1) (by kernel_rfl) (fun hb3 => ?_) (fun hb3 => ?_)
 ·replace hr := cd_t hb3 hr
  refine .seq <| .rn fine [2] (mkS 8 0 [(2, .at (.slice none 0 0))]) [.own (api_Int.c x')] <| .ret ?_
  obtain rfl := Option.some.inj hr
  exact FinQ.ret (vs := [.at (.slice none 0 0)]) (by kernel_rfl) Sn.nilsl
 ·replace hr := cd_f hb3 hr
  refine .skip <| .seq <| .ru fine <| .ret ?_
  obtain rfl := Option.some.inj hr
  exact FinQ.r1 [sU32 x'.Groups]

theorem integer_Sign_inj {x' : api_Int} {x'_ : api_Int} (h : ([.agg [.at (.bool x'.Negative), slT (iC .u32) x'.Groups]] : List AV) = [.agg [.at (.bool x'_.Negative), slT (iC .u32) x'_.Groups]]) : x' = x'_ := by
 obtain ⟨_, _⟩ := x'
 obtain ⟨_, _⟩ := x'_
 simp only [List.cons.injEq, AV.agg.injEq, AV.at.injEq, Value.int.injEq, Value.bool.injEq, AV.fn.injEq, AV.pp.injEq, true_and, and_true, slT_inj_int] at h
 simp_all
theorem integer_Sign_ok (n : Nat) (x' : api_Int) (r : Int) (hr : integer_Sign n x' = some r) : FnOk Tryz.prog 91 [.agg [.at (.bool x'.Negative), slT (iC .u32) x'.Groups]] (.at (.int .i64 r)) := by
 unfold integer_Sign at hr
 refine FnOk.body fine Tryz.func91 (c := (Tryz.f91.body).getD .skip) rfl (s := mkS 11 0 [(0, .agg (api_Int.c x'))]) (by kernel_rfl) (rs := [.tmp 2]) rfl ?_
 unfold Tryz.f91
 simp only [Option.getD_some]
 refine .seq <| .rn fine [1] (mkS 11 0 [(1, .hp 0 0)]) [.own (api_Int.c x')] <| .seq <| .block <| .seq ?_
 obtain ⟨v1, hc2, hr⟩ := bd hr
 refine .g1 fine (callOk_ref (l := []) (SnL.cons (Sn.pure rfl) SnL.nil) (integer_groups_ok n x' v1 hc2)) <| .mu 1 <| .c0 (by kernel_rfl) (callOf_at (by kernel_rfl)) <| .mu 3 <| .done <| .n1 [1, 3] (mkS 11 0 [(1, .hp 0 0), (3, aB (((v1.length : Int) : Int) == 0))]) [.own (api_Int.c x')] ?_
 refine .cond (t := ((v1.length : Int) : Int) == 0) (by kernel_rfl) (fun hb3 => ?_) (fun hb3 => ?_)
 ·replace hr := cd_t hb3 hr
  refine .seq <| .ru fine <| .ret ?_
  obtain rfl := Option.some.inj hr
  exact FinQ.r1 [aI64 0]
 ·replace hr := cd_f hb3 hr
  refine .seq <| .rn fine [8] (mkS 11 0 [(8, aB x'.Negative)]) [.own (api_Int.c x')] ?_
  refine .cond (t := x'.Negative) (by kernel_rfl) (fun hb4 => ?_) (fun hb4 => ?_)
  ·replace hr := cd_t hb4 hr
   refine .seq <| .ru fine <| .ret ?_
   obtain rfl := Option.some.inj hr
   exact FinQ.r1 [aI64 (-1)]
  ·replace hr := cd_f hb4 hr
   refine .skip <| .pop <| .seq <| .ru fine <| .ret ?_
   obtain rfl := Option.some.inj hr
   exact FinQ.r1 [aI64 1]



theorem integer_short_ok (n : Nat) (a : List Int) (d : Int) (r : List Int × Int) (hr : integer_short n a d = some r) : FnOk Tryz.prog 201 [slT (iC .u32) a, .at (.int .u32 d)] (.tup [slT (iC .u32) r.1, .at (.int .u32 r.2)]) := by cases hr

theorem integer_times_ok (n : Nat) (a : List Int) (b : List Int) (r : List Int) (hr : integer_times n a b = some r) : FnOk Tryz.prog 99 [slT (iC .u32) a, slT (iC .u32) b] (slT (iC .u32) r) := by
 unfold integer_times at hr
 refine FnOk.body fine Tryz.func99 (c := (Tryz.f99.body).getD .skip) rfl (s := mkS 69 0 [(0, sU32 a), (1, sU32 b)]) (by kernel_rfl) (rs := [.tmp 4]) rfl ?_
 unfold Tryz.f99
 simp only [Option.getD_some]
 refine .seq <| .rn fine [0, 1] (mkS 69 0 [(0, sU32 a), (1, sU32 b)]) [] <| .seq ?_
 obtain ⟨hg1, hr⟩ := gd hr
 obtain ⟨hg2, hr⟩ := gd hr
 obtain ⟨hg3, hr⟩ := gd hr
 refine .r0 fine <| .mu 5 <| .e0 (v := .hs 0 0 (List.replicate (wrapF .i64 ((a.length : Int) + (b.length : Int))).toNat (0 : Int)).length 1) (ws := [(0, .own ((List.replicate (wrapF .i64 ((a.length : Int) + (b.length : Int))).toNat (0 : Int)).flatMap (iC .u32)))]) (Eq.trans (b := guardO (decide (0 ≤ (wrapF .i64 ((a.length : Int) + (b.length : Int)))) && decide ((wrapF .i64 ((a.length : Int) + (b.length : Int))) ≤ (wrapF .i64 ((a.length : Int) + (b.length : Int)))) && decide ((4 : Int) * (wrapF .i64 ((a.length : Int) + (b.length : Int))) ≤ 281474976710656) && decide ((wrapF .i64 ((a.length : Int) + (b.length : Int))) ≤ 9223372036854775807) && true && true && true) (some (.eff (.hs 0 0 (wrapF .i64 ((a.length : Int) + (b.length : Int))).toNat 1) [(0, .own (zerosA [aU32 0] (wrapF .i64 ((a.length : Int) + (b.length : Int))).toNat))]))) (by kernel_rfl) (make_own (c := (iC .u32)) (z := 0) rfl hg1 hg2 hg3)) <| .mu 1 <| .done <| .n1 [0, 1, 5] (mkS 69 0 [(0, sU32 a), (1, sU32 b), (5, .hs 0 0 (List.replicate (wrapF .i64 ((a.length : Int) + (b.length : Int))).toNat (0 : Int)).length 1)]) [.own ((List.replicate (wrapF .i64 ((a.length : Int) + (b.length : Int))).toNat (0 : Int)).flatMap (iC .u32))] <| .seq <| .seq <| .rn fine [1, 5, 18, 19, 20] (mkS 69 0 [(1, sU32 b), (5, .hs 0 0 (List.replicate (wrapF .i64 ((a.length : Int) + (b.length : Int))).toNat (0 : Int)).length 1), (18, sU32 a), (19, aI64 (a.length : Int)), (20, aI64 0)]) [.own ((List.replicate (wrapF .i64 ((a.length : Int) + (b.length : Int))).toNat (0 : Int)).flatMap (iC .u32))] <| .block ?_
 replace hr := bd hr; obtain ⟨out_24, hL45, hr⟩ := hr
 refine .loopO (σ := fun z0 => match z0 with | (out_4, x_5) => ⟨mkS 69 0 [(1, sU32 b), (5, .hs 0 0 out_4.length 1), (18, sU32 a), (19, aI64 (a.length : Int)), (20, aI64 x_5)], [.own (out_4.flatMap (iC .u32))]⟩) (Q := fun x st' => x = .exit 0 ∧ Wk 0 st' ⟨mkS 69 0 [(5, .hs 0 0 out_24.length 1)], [.own (out_24.flatMap (iC .u32))]⟩) hL45 ((Wk.gc [1, 5, 18, 19, 20] [(0, false)] rfl (pKo (iC .u32) (iC_pure _) (List.replicate (wrapF .i64 ((a.length : Int) + (b.length : Int))).toNat (0 : Int)) trivial)).to (by kernel_rfl)) ?_ ?_
 ·clear hr
  rintro m ⟨out_4, x_5⟩ hr
  show CQ _ _ _ _ _ ⟨_, _⟩
  refine .seq <| .rn fine [1, 5, 18, 19, 20, 21] (mkS 69 0 [(1, sU32 b), (5, .hs 0 0 out_4.length 1), (18, sU32 a), (19, aI64 (a.length : Int)), (20, aI64 x_5), (21, aB (decide (x_5 < (a.length : Int))))]) [.own (out_4.flatMap (iC .u32))] <| .seq ?_
  refine .cond (t := decide (x_5 < (a.length : Int))) (by kernel_rfl) (fun hb26 => ?_) (fun hb26 => ?_)
  ·replace hr := cd_t hb26 hr
   refine .skip <| .seq <| .block <| .seq ?_
   obtain ⟨hg27, hr⟩ := gd hr
   refine .r0 fine <| .mu 1 <| .p0 (v := .pp (a.flatMap (iC .u32)) (x_5.toNat * 1)) (Eq.trans (b := ORes.ofP (guardV (inR x_5 a.length) (.pp (a.flatMap (iC .u32)) (x_5.toNat * 1)))) (by kernel_rfl) (ofP_guard hg27)) <| .p0 (v := aU32 (gt a x_5)) (Eq.trans (b := ORes.ofP ((a.flatMap (iC .u32))[x_5.toNat * 1]?)) (by kernel_rfl) (ofP_some (flat_get (iC_len _) (inR_lt hg27) (by decide : 0 < 1) (by omega : x_5.toNat * 1 = x_5.toNat * 1 + 0) (by kernel_rfl)))) <| .mu 2 <| .done <| .n1 [1, 5, 6, 7, 18, 19, 20] (mkS 69 0 [(1, sU32 b), (5, .hs 0 0 out_4.length 1), (6, aI64 x_5), (7, aU32 (gt a x_5)), (18, sU32 a), (19, aI64 (a.length : Int)), (20, aI64 x_5)]) [.own (out_4.flatMap (iC .u32))] <| .seq <| .rn fine [1, 5, 6, 7, 8, 18, 19, 20] (mkS 69 0 [(1, sU32 b), (5, .hs 0 0 out_4.length 1), (6, aI64 x_5), (7, aU32 (gt a x_5)), (8, aU64 0), (18, sU32 a), (19, aI64 (a.length : Int)), (20, aI64 x_5)]) [.own (out_4.flatMap (iC .u32))] <| .seq <| .seq <| .rn fine [1, 5, 6, 7, 8, 18, 19, 20, 25, 26, 27] (mkS 69 0 [(1, sU32 b), (5, .hs 0 0 out_4.length 1), (6, aI64 x_5), (7, aU32 (gt a x_5)), (8, aU64 0), (18, sU32 a), (19, aI64 (a.length : Int)), (20, aI64 x_5), (25, sU32 b), (26, aI64 (b.length : Int)), (27, aI64 0)]) [.own (out_4.flatMap (iC .u32))] <| .block ?_
   replace hr := bd hr; obtain ⟨o40, hL41, hr⟩ := hr
   refine .loopO (σ := fun z0 => match z0 with | (out_28, carry_29, x_30) => ⟨mkS 69 0 [(1, sU32 b), (5, .hs 0 0 out_28.length 1), (6, aI64 x_5), (7, aU32 (gt a x_5)), (8, aU64 carry_29), (18, sU32 a), (19, aI64 (a.length : Int)), (20, aI64 x_5), (25, sU32 b), (26, aI64 (b.length : Int)), (27, aI64 x_30)], [.own (out_28.flatMap (iC .u32))]⟩) (Q := fun x st' => match (generalizing := false) o40 with | (out_34, carry_35) => x = .exit 2 ∧ Wk 0 st' ⟨mkS 69 0 [(1, sU32 b), (5, .hs 0 0 out_34.length 1), (6, aI64 x_5), (8, aU64 carry_35), (18, sU32 a), (19, aI64 (a.length : Int)), (20, aI64 x_5)], [.own (out_34.flatMap (iC .u32))]⟩) hL41 ((Wk.gc [1, 5, 6, 7, 8, 18, 19, 20, 25, 26, 27] [(0, false)] rfl (pKo (iC .u32) (iC_pure _) out_4 trivial)).to (by kernel_rfl)) ?_ ?_
   ·clear hr
    rintro m ⟨out_28, carry_29, x_30⟩ hr
    show CQ _ _ _ _ _ ⟨_, _⟩
    refine .seq <| .rn fine [1, 5, 6, 7, 8, 18, 19, 20, 25, 26, 27, 28] (mkS 69 0 [(1, sU32 b), (5, .hs 0 0 out_28.length 1), (6, aI64 x_5), (7, aU32 (gt a x_5)), (8, aU64 carry_29), (18, sU32 a), (19, aI64 (a.length : Int)), (20, aI64 x_5), (25, sU32 b), (26, aI64 (b.length : Int)), (27, aI64 x_30), (28, aB (decide (x_30 < (b.length : Int))))]) [.own (out_28.flatMap (iC .u32))] <| .seq ?_
    refine .cond (t := decide (x_30 < (b.length : Int))) (by kernel_rfl) (fun hb37 => ?_) (fun hb37 => ?_)
    ·replace hr := cd_t hb37 hr
     refine .skip <| .seq <| .block <| .seq ?_
     obtain ⟨hg38, hr⟩ := gd hr
     refine .r0 fine <| .mu 1 <| .p0 (v := .pp (b.flatMap (iC .u32)) (x_30.toNat * 1)) (Eq.trans (b := ORes.ofP (guardV (inR x_30 b.length) (.pp (b.flatMap (iC .u32)) (x_30.toNat * 1)))) (by kernel_rfl) (ofP_guard hg38)) <| .p0 (v := aU32 (gt b x_30)) (Eq.trans (b := ORes.ofP ((b.flatMap (iC .u32))[x_30.toNat * 1]?)) (by kernel_rfl) (ofP_some (flat_get (iC_len _) (inR_lt hg38) (by decide : 0 < 1) (by omega : x_30.toNat * 1 = x_30.toNat * 1 + 0) (by kernel_rfl)))) <| .mu 2 <| .done <| .n1 [1, 5, 6, 7, 8, 9, 10, 18, 19, 20, 25, 26, 27] (mkS 69 0 [(1, sU32 b), (5, .hs 0 0 out_28.length 1), (6, aI64 x_5), (7, aU32 (gt a x_5)), (8, aU64 carry_29), (9, aI64 x_30), (10, aU32 (gt b x_30)), (18, sU32 a), (19, aI64 (a.length : Int)), (20, aI64 x_5), (25, sU32 b), (26, aI64 (b.length : Int)), (27, aI64 x_30)]) [.own (out_28.flatMap (iC .u32))] <| .seq ?_
     obtain ⟨hg39, hr⟩ := gd hr
     refine .r0 fine <| .mu 4 <| .p0 (v := .hp 0 (0 + (wrapF .i64 (x_5 + x_30)).toNat * 1)) (Eq.trans (b := ORes.ofP (guardV (inR (wrapF .i64 (x_5 + x_30)) out_28.length) (.hp 0 (0 + (wrapF .i64 (x_5 + x_30)).toNat * 1)))) (by kernel_rfl) (ofP_guard hg39)) <| .p0 (v := aU32 (gt out_28 (wrapF .i64 (x_5 + x_30)))) (Eq.trans (b := ORes.ofP ((out_28.flatMap (iC .u32))[0 + (wrapF .i64 (x_5 + x_30)).toNat * 1]?)) (by kernel_rfl) (ofP_some (flat_get (iC_len _) (inR_lt hg39) (by decide : 0 < 1) (by omega : 0 + (wrapF .i64 (x_5 + x_30)).toNat * 1 = (wrapF .i64 (x_5 + x_30)).toNat * 1 + 0) (by kernel_rfl)))) <| .mu 10 <| .done <| .n1 [1, 5, 6, 7, 9, 11, 18, 19, 20, 25, 26, 27] (mkS 69 0 [(1, sU32 b), (5, .hs 0 0 out_28.length 1), (6, aI64 x_5), (7, aU32 (gt a x_5)), (9, aI64 x_30), (11, aU64 (wrapF .u64 ((wrapF .u64 ((wrapF .u64 (gt out_28 (wrapF .i64 (x_5 + x_30)))) + (wrapF .u64 ((wrapF .u64 (gt a x_5)) * (wrapF .u64 (gt b x_30)))))) + carry_29))), (18, sU32 a), (19, aI64 (a.length : Int)), (20, aI64 x_5), (25, sU32 b), (26, aI64 (b.length : Int)), (27, aI64 x_30)]) [.own (out_28.flatMap (iC .u32))] <| .r0 fine <| .mu 9 <| .p0 (v := .hp 0 (0 + (wrapF .i64 (x_5 + x_30)).toNat * 1)) (Eq.trans (b := ORes.ofP (guardV (inR (wrapF .i64 (x_5 + x_30)) out_28.length) (.hp 0 (0 + (wrapF .i64 (x_5 + x_30)).toNat * 1)))) (by kernel_rfl) (ofP_guard hg39)) <| .e0 (v := .unk) (ws := [(0, .own ((out_28.set (wrapF .i64 (x_5 + x_30)).toNat (wrapF .u32 ((wrapF .u64 ((wrapF .u64 ((wrapF .u64 (gt out_28 (wrapF .i64 (x_5 + x_30)))) + (wrapF .u64 ((wrapF .u64 (gt a x_5)) * (wrapF .u64 (gt b x_30)))))) + carry_29)).tmod 1000000000))).flatMap (iC .u32)))]) (Eq.trans (b := stO (decide ((0 + (wrapF .i64 (x_5 + x_30)).toNat * 1) + 1 ≤ (out_28.flatMap (iC .u32)).length) && true) [(0, .own (setCells (out_28.flatMap (iC .u32)) (0 + (wrapF .i64 (x_5 + x_30)).toNat * 1) [aU32 (wrapF .u32 ((wrapF .u64 ((wrapF .u64 ((wrapF .u64 (gt out_28 (wrapF .i64 (x_5 + x_30)))) + (wrapF .u64 ((wrapF .u64 (gt a x_5)) * (wrapF .u64 (gt b x_30)))))) + carry_29)).tmod 1000000000))]))]) (by kernel_rfl) (stO_t (and_t (flat_fits (iC_len _) (inR_lt hg39) (Nat.le_of_ble_eq_true rfl) (by omega : 0 + (wrapF .i64 (x_5 + x_30)).toNat * 1 = (wrapF .i64 (x_5 + x_30)).toNat * 1 + 0))) (congrArg Blk.own (flat_set (iC_len _) (inR_lt hg39) (Nat.le_of_ble_eq_true rfl) (by omega : 0 + (wrapF .i64 (x_5 + x_30)).toNat * 1 = (wrapF .i64 (x_5 + x_30)).toNat * 1 + 0) (by kernel_rfl))))) <| .mu 1 <| .done <| .pop <| .ru fine ?_
     exact loopF_back (out_28.set (wrapF .i64 (x_5 + x_30)).toNat (wrapF .u32 ((wrapF .u64 ((wrapF .u64 ((wrapF .u64 (gt out_28 (wrapF .i64 (x_5 + x_30)))) + (wrapF .u64 ((wrapF .u64 (gt a x_5)) * (wrapF .u64 (gt b x_30)))))) + carry_29)).tmod 1000000000)), wrapF .u64 ((wrapF .u64 ((wrapF .u64 ((wrapF .u64 (gt out_28 (wrapF .i64 (x_5 + x_30)))) + (wrapF .u64 ((wrapF .u64 (gt a x_5)) * (wrapF .u64 (gt b x_30)))))) + carry_29)).tdiv 1000000000), wrapF .i64 (x_30 + 1)) hr ((Wk.relen 5 (b := 0) (es := 1) (len := out_28.length) (out_28.set (wrapF .i64 (x_5 + x_30)).toNat (wrapF .u32 ((wrapF .u64 ((wrapF .u64 ((wrapF .u64 (gt out_28 (wrapF .i64 (x_5 + x_30)))) + (wrapF .u64 ((wrapF .u64 (gt a x_5)) * (wrapF .u64 (gt b x_30)))))) + carry_29)).tmod 1000000000))).length (by kernel_rfl) (by simp)).trans ((Wk.gc [1, 5, 6, 7, 8, 18, 19, 20, 25, 26, 27] [(0, false)] rfl (pKo (iC .u32) (iC_pure _) (out_28.set (wrapF .i64 (x_5 + x_30)).toNat (wrapF .u32 ((wrapF .u64 ((wrapF .u64 ((wrapF .u64 (gt out_28 (wrapF .i64 (x_5 + x_30)))) + (wrapF .u64 ((wrapF .u64 (gt a x_5)) * (wrapF .u64 (gt b x_30)))))) + carry_29)).tmod 1000000000))) trivial)).to (by kernel_rfl)))
    ·replace hr := cd_f hb37 hr
     refine .leave rfl ?_
     obtain rfl := Option.some.inj hr
     exact ⟨rfl, ((Wk.gc [1, 5, 6, 8, 18, 19, 20] [(0, false)] rfl (pKo (iC .u32) (iC_pure _) out_28 trivial)).to (by kernel_rfl))⟩
   ·rcases o40 with ⟨out_34, carry_35⟩
    rintro x st' hq42
    clear hL41
    obtain ⟨rfl, hq42⟩ := hq42
    refine CQ_exit _ rfl <| .wk hq42 ?_
    obtain ⟨hg43, hr⟩ := gd hr
    refine .r0 fine <| .mu 7 <| .p0 (v := .hp 0 (0 + (wrapF .i64 (x_5 + (b.length : Int))).toNat * 1)) (Eq.trans (b := ORes.ofP (guardV (inR (wrapF .i64 (x_5 + (b.length : Int))) out_34.length) (.hp 0 (0 + (wrapF .i64 (x_5 + (b.length : Int))).toNat * 1)))) (by kernel_rfl) (ofP_guard hg43)) <| .e0 (v := .unk) (ws := [(0, .own ((out_34.set (wrapF .i64 (x_5 + (b.length : Int))).toNat (wrapF .u32 carry_35)).flatMap (iC .u32)))]) (Eq.trans (b := stO (decide ((0 + (wrapF .i64 (x_5 + (b.length : Int))).toNat * 1) + 1 ≤ (out_34.flatMap (iC .u32)).length) && true) [(0, .own (setCells (out_34.flatMap (iC .u32)) (0 + (wrapF .i64 (x_5 + (b.length : Int))).toNat * 1) [aU32 (wrapF .u32 carry_35)]))]) (by kernel_rfl) (stO_t (and_t (flat_fits (iC_len _) (inR_lt hg43) (Nat.le_of_ble_eq_true rfl) (by omega : 0 + (wrapF .i64 (x_5 + (b.length : Int))).toNat * 1 = (wrapF .i64 (x_5 + (b.length : Int))).toNat * 1 + 0))) (congrArg Blk.own (flat_set (iC_len _) (inR_lt hg43) (Nat.le_of_ble_eq_true rfl) (by omega : 0 + (wrapF .i64 (x_5 + (b.length : Int))).toNat * 1 = (wrapF .i64 (x_5 + (b.length : Int))).toNat * 1 + 0) (by kernel_rfl))))) <| .done <| .pop <| .ru fine ?_
    exact loopF_back (out_34.set (wrapF .i64 (x_5 + (b.length : Int))).toNat (wrapF .u32 carry_35), wrapF .i64 (x_5 + 1)) hr ((Wk.relen 5 (b := 0) (es := 1) (len := out_34.length) (out_34.set (wrapF .i64 (x_5 + (b.length : Int))).toNat (wrapF .u32 carry_35)).length (by kernel_rfl) (by simp)).trans ((Wk.gc [1, 5, 18, 19, 20] [(0, false)] rfl (pKo (iC .u32) (iC_pure _) (out_34.set (wrapF .i64 (x_5 + (b.length : Int))).toNat (wrapF .u32 carry_35)) trivial)).to (by kernel_rfl)))
  ·replace hr := cd_f hb26 hr
   refine .leave rfl ?_
   obtain rfl := Option.some.inj hr
   exact ⟨rfl, ((Wk.gc [5] [(0, false)] rfl (pKo (iC .u32) (iC_pure _) out_4 trivial)).to (by kernel_rfl))⟩
 ·rintro x st' hq46
  clear hL45
  obtain ⟨rfl, hq46⟩ := hq46
  refine CQ_exit _ rfl <| .wk hq46 <| .seq ?_
  obtain ⟨v47, hc48, hr⟩ := bd hr
  refine .g1 fine (callOk_ref (args := [.hs 0 0 out_24.length 1]) (l := [0]) (SnL.cons (Sn.hs rfl (.inl rfl) (SnC.pure (ids_flat (iC_pure _) _)) (fun h => flat_nil0 h)) SnL.nil) (integer_trim_ok n out_24 v47 hc48)) <| .mu 1 <| .c0 (by kernel_rfl) (callOf_at (by kernel_rfl)) <| .mu 1 <| .done <| .ret ?_
  obtain rfl := Option.some.inj hr
  exact FinQ.r1 [sU32 v47]

theorem integer_long_ok (n : Nat) (a : List Int) (b : List Int) (r : List Int × List Int) (hr : integer_long n a b = some r) : FnOk Tryz.prog 202 [slT (iC .u32) a, slT (iC .u32) b] (.tup [slT (iC .u32) r.1, slT (iC .u32) r.2]) := by cases hr

theorem integer_over_ok (n : Nat) (a : List Int) (b : List Int) (r : List Int × List Int) (hr : integer_over n a b = some r) : FnOk Tryz.prog 179 [slT (iC .u32) a, slT (iC .u32) b] (.tup [slT (iC .u32) r.1, slT (iC .u32) r.2]) := by
 unfold integer_over at hr
 refine FnOk.body fine Tryz.func179 (c := (Tryz.f179.body).getD .skip) rfl (s := mkS 59 0 [(0, sU32 a), (1, sU32 b)]) (by kernel_rfl) (rs := [.tmp 4, .tmp 5]) rfl ?_
 unfold Tryz.f179
 simp only [Option.getD_some]
 refine .seq <| .rn fine [0, 1] (mkS 59 0 [(0, sU32 a), (1, sU32 b)]) [] <| .seq <| .seq ?_
 obtain ⟨v1, hc2, hr⟩ := bd hr
 refine .g1 fine (callOk_val (l := []) rfl (SnL.cons (Sn.pure rfl) (SnL.cons (Sn.pure rfl) SnL.nil)) (integer_compare_ok n a b v1 hc2)) <| .mu 2 <| .c0 (by kernel_rfl) (callOf_at (by kernel_rfl)) <| .mu 1 <| .done <| .n1 [0, 1, 15] (mkS 59 0 [(0, sU32 a), (1, sU32 b), (15, aB (decide (v1 < 0)))]) [] ?_
 refine .cond (t := decide (v1 < 0)) (by kernel_rfl) (fun hb3 => ?_) (fun hb3 => ?_)
 ·replace hr := cd_t hb3 hr
  refine .seq <| .rn fine [4, 5] (mkS 59 0 [(4, .at (.slice none 0 0)), (5, sU32 a)]) [] <| .ret ?_
  obtain rfl := Option.some.inj hr
  exact FinQ.ret (vs := [.at (.slice none 0 0), sU32 a]) (by kernel_rfl) (Sn.tup (SnL.cons Sn.nilsl (SnL.cons (Sn.pure rfl) SnL.nil)))
 ·replace hr := cd_f hb3 hr
  refine .skip <| .seq ?_
  obtain ⟨v4, hc5, hr⟩ := bd hr
  refine .g1 fine (callOk_val (l := []) rfl (SnL.cons (Sn.pure rfl) SnL.nil) (integer_word_ok n a v4 hc5)) <| .mu 1 <| .c0 (by kernel_rfl) (callOf_at (by kernel_rfl)) <| .mu 5 <| .done <| .n1 [0, 1, 6, 7] (mkS 59 0 [(0, sU32 a), (1, sU32 b), (6, aU64 v4.1), (7, aB v4.2)]) [] <| .seq ?_
  obtain ⟨v6, hc7, hr⟩ := bd hr
  refine .g1 fine (callOk_val (l := []) rfl (SnL.cons (Sn.pure rfl) SnL.nil) (integer_word_ok n b v6 hc7)) <| .mu 1 <| .c0 (by kernel_rfl) (callOf_at (by kernel_rfl)) <| .mu 5 <| .done <| .n1 [0, 1, 6, 7, 8, 9] (mkS 59 0 [(0, sU32 a), (1, sU32 b), (6, aU64 v4.1), (7, aB v4.2), (8, aU64 v6.1), (9, aB v6.2)]) [] <| .seq <| .seq ?_
  rcases Bool.eq_false_or_eq_true v4.2 with hb8 | hb8
  ·replace hr := cd_t hb8 hr
   refine .r0 fine <| .p0 (v := aB true) (Eq.trans (b := some (.pure (aB v4.2))) (by kernel_rfl) (by rw [hb8])) <| .mu 3 <| .done <| .n1 [0, 1, 6, 8, 30] (mkS 59 0 [(0, sU32 a), (1, sU32 b), (6, aU64 v4.1), (8, aU64 v6.1), (30, aB v6.2)]) [] ?_
   refine .cond (t := v6.2) (by kernel_rfl) (fun hb9 => ?_) (fun hb9 => ?_)
   ·replace hr := cd_t hb9 hr
    refine .seq ?_
    obtain ⟨hg10, hr⟩ := gd hr
    obtain ⟨v11, hc12, hr⟩ := bd hr
    obtain ⟨v13, hc14, hr⟩ := bd hr
    refine .regionT fine (callOf_cons (callOk_ref (H := []) (l := []) (SnL.cons (Sn.pure rfl) SnL.nil) (integer_split_ok n (wrapF .u64 (v4.1.tdiv v6.1)) v11 hc12)) (callOf_cons (callOk_ref (H := []) (l := []) (SnL.cons (Sn.pure rfl) SnL.nil) (integer_split_ok n (v4.1.tmod v6.1) v13 hc14)) callOf_nil)) <| .mu 2 <| .pure (v := aU64 (wrapF .u64 (v4.1.tdiv v6.1))) (by kernel_rfl) (op_quo (x := v4.1) (y := v6.1) (by kernel_rfl) (by kernel_rfl) hg10) (by kernel_rfl) <| .cal (by kernel_rfl) (by kernel_rfl) (callOf_at (by kernel_rfl)) (by kernel_rfl) <| .mu 2 <| .pure (v := aU64 (v4.1.tmod v6.1)) (by kernel_rfl) (op_rem (x := v4.1) (y := v6.1) (by kernel_rfl) (by kernel_rfl) hg10) (by kernel_rfl) <| .cal (by kernel_rfl) (by kernel_rfl) (callOf_skip (fun _ h => by obtain e0 := integer_split_inj h; rw [show v13 = v11 from Option.some.inj (hc14.symm.trans ((show integer_split n (v4.1.tmod v6.1) = integer_split n (wrapF .u64 (v4.1.tdiv v6.1)) from (congr rfl e0)).trans hc12))]) (callOf_at (by kernel_rfl))) (by kernel_rfl) <| .mu 2 ?_
    refine .done ⟨by kernel_rfl, ?_⟩
    refine .ret ?_
    obtain rfl := Option.some.inj hr
    exact FinQ.ret (vs := [sU32 v11, sU32 v13]) (by kernel_rfl) (Sn.tup (SnL.cons (Sn.pure rfl) (SnL.cons (Sn.pure rfl) SnL.nil)))
   ·replace hr := cd_f hb9 hr
    refine .skip <| .seq <| .seq <| .rn fine [0, 1, 41] (mkS 59 0 [(0, sU32 a), (1, sU32 b), (41, aB (((b.length : Int) : Int) == 1))]) [] ?_
    refine .cond (t := ((b.length : Int) : Int) == 1) (by kernel_rfl) (fun hb15 => ?_) (fun hb15 => ?_)
    ·replace hr := cd_t hb15 hr
     refine .seq ?_
     obtain ⟨hg16, hr⟩ := gd hr
     obtain ⟨v17, hc18, hr⟩ := bd hr
     refine .g1 fine (callOk_ref (l := []) (SnL.cons (Sn.pure rfl) (SnL.cons (Sn.pure rfl) SnL.nil)) (integer_short_ok n a (gt b 0) v17 hc18)) <| .mu 2 <| .p0 (v := .pp (b.flatMap (iC .u32)) ((0 : Int).toNat * 1)) (Eq.trans (b := ORes.ofP (guardV (inR 0 b.length) (.pp (b.flatMap (iC .u32)) ((0 : Int).toNat * 1)))) (by kernel_rfl) (ofP_guard hg16)) <| .p0 (v := aU32 (gt b 0)) (Eq.trans (b := ORes.ofP ((b.flatMap (iC .u32))[(0 : Int).toNat * 1]?)) (by kernel_rfl) (ofP_some (flat_get (iC_len _) (inR_lt hg16) (by decide : 0 < 1) (by omega : (0 : Int).toNat * 1 = (0 : Int).toNat * 1 + 0) (by kernel_rfl)))) <| .c0 (by kernel_rfl) (callOf_at (by kernel_rfl)) <| .mu 5 <| .done <| .n1 [10, 11] (mkS 59 0 [(10, sU32 v17.1), (11, aU32 v17.2)]) [] <| .seq ?_
     obtain ⟨v19, hc20, hr⟩ := bd hr
     refine .g1 fine (callOk_ref (l := []) (SnL.cons (Sn.pure rfl) SnL.nil) (integer_split_ok n (wrapF .u64 v17.2) v19 hc20)) <| .mu 3 <| .c0 (by kernel_rfl) (callOf_at (by kernel_rfl)) <| .mu 2 <| .done <| .ret ?_
     obtain rfl := Option.some.inj hr
     exact FinQ.ret (vs := [sU32 v17.1, sU32 v19]) (by kernel_rfl) (Sn.tup (SnL.cons (Sn.pure rfl) (SnL.cons (Sn.pure rfl) SnL.nil)))
    ·replace hr := cd_f hb15 hr
     refine .skip <| .seq ?_
     obtain ⟨v21, hc22, hr⟩ := bd hr
     refine .g1 fine (callOk_ref (l := []) (SnL.cons (Sn.pure rfl) (SnL.cons (Sn.pure rfl) SnL.nil)) (integer_long_ok n a b v21 hc22)) <| .mu 2 <| .c0 (by kernel_rfl) (callOf_at (by kernel_rfl)) <| .mu 4 <| .done <| .ret ?_
     obtain rfl := Option.some.inj hr
     exact FinQ.ret (vs := [sU32 v21.1, sU32 v21.2]) (by kernel_rfl) (Sn.tup (SnL.cons (Sn.pure rfl) (SnL.cons (Sn.pure rfl) SnL.nil)))
  ·replace hr := cd_f hb8 hr
   refine .r0 fine <| .p0 (v := aB false) (Eq.trans (b := some (.pure (aB v4.2))) (by kernel_rfl) (by rw [hb8])) <| .mu 3 <| .done <| .n1 [0, 1, 6, 8, 30] (mkS 59 0 [(0, sU32 a), (1, sU32 b), (6, aU64 v4.1), (8, aU64 v6.1), (30, aB false)]) [] <| .cF (by kernel_rfl) <| .skip <| .seq <| .seq <| .rn fine [0, 1, 41] (mkS 59 0 [(0, sU32 a), (1, sU32 b), (41, aB (((b.length : Int) : Int) == 1))]) [] ?_
   refine .cond (t := ((b.length : Int) : Int) == 1) (by kernel_rfl) (fun hb23 => ?_) (fun hb23 => ?_)
   ·replace hr := cd_t hb23 hr
    refine .seq ?_
    obtain ⟨hg24, hr⟩ := gd hr
    obtain ⟨v25, hc26, hr⟩ := bd hr
    refine .g1 fine (callOk_ref (l := []) (SnL.cons (Sn.pure rfl) (SnL.cons (Sn.pure rfl) SnL.nil)) (integer_short_ok n a (gt b 0) v25 hc26)) <| .mu 2 <| .p0 (v := .pp (b.flatMap (iC .u32)) ((0 : Int).toNat * 1)) (Eq.trans (b := ORes.ofP (guardV (inR 0 b.length) (.pp (b.flatMap (iC .u32)) ((0 : Int).toNat * 1)))) (by kernel_rfl) (ofP_guard hg24)) <| .p0 (v := aU32 (gt b 0)) (Eq.trans (b := ORes.ofP ((b.flatMap (iC .u32))[(0 : Int).toNat * 1]?)) (by kernel_rfl) (ofP_some (flat_get (iC_len _) (inR_lt hg24) (by decide : 0 < 1) (by omega : (0 : Int).toNat * 1 = (0 : Int).toNat * 1 + 0) (by kernel_rfl)))) <| .c0 (by kernel_rfl) (callOf_at (by kernel_rfl)) <| .mu 5 <| .done <| .n1 [10, 11] (mkS 59 0 [(10, sU32 v25.1), (11, aU32 v25.2)]) [] <| .seq ?_
    obtain ⟨v27, hc28, hr⟩ := bd hr
    refine .g1 fine (callOk_ref (l := []) (SnL.cons (Sn.pure rfl) SnL.nil) (integer_split_ok n (wrapF .u64 v25.2) v27 hc28)) <| .mu 3 <| .c0 (by kernel_rfl) (callOf_at (by kernel_rfl)) <| .mu 2 <| .done <| .ret ?_
    obtain rfl := Option.some.inj hr
    exact FinQ.ret (vs := [sU32 v25.1, sU32 v27]) (by kernel_rfl) (Sn.tup (SnL.cons (Sn.pure rfl) (SnL.cons (Sn.pure rfl) SnL.nil)))
   ·replace hr := cd_f hb23 hr
    refine .skip <| .seq ?_
    obtain ⟨v29, hc30, hr⟩ := bd hr
    refine .g1 fine (callOk_ref (l := []) (SnL.cons (Sn.pure rfl) (SnL.cons (Sn.pure rfl) SnL.nil)) (integer_long_ok n a b v29 hc30)) <| .mu 2 <| .c0 (by kernel_rfl) (callOf_at (by kernel_rfl)) <| .mu 4 <| .done <| .ret ?_
    obtain rfl := Option.some.inj hr
    exact FinQ.ret (vs := [sU32 v29.1, sU32 v29.2]) (by kernel_rfl) (Sn.tup (SnL.cons (Sn.pure rfl) (SnL.cons (Sn.pure rfl) SnL.nil)))

theorem slices_Clone_uint32_uint32_ok (n : Nat) (s : List Int) (r : List Int) (hr : slices_Clone_uint32_uint32 n s = some r) : FnOk Tryz.prog 177 [slT (iC .u32) s] (slT (iC .u32) r) := by
 unfold slices_Clone_uint32_uint32 at hr
 refine FnOk.body fine Tryz.func177 (c := (Tryz.f177.body).getD .skip) rfl (s := mkS 8 0 [(0, sU32 s)]) (by kernel_rfl) (rs := [.tmp 2]) rfl ?_
 unfold Tryz.f177
 simp only [Option.getD_some]
 refine .seq <| .rn fine [0] (mkS 8 0 [(0, sU32 s)]) [] <| .seq <| .seq ?_
 refine .nilcase (t := 0) (cs := s.flatMap (iC .u32)) (len := s.length) (by kernel_rfl) (fun hn3 => ?_) ?_
 ·obtain rfl : s = [] := List.length_eq_zero_iff.1 hn3
  have hx := gd hr; clear hr; obtain ⟨_, hr⟩ := hx
  have hx := gd hr; clear hr; obtain ⟨_, hr⟩ := hx
  refine .rn fine [0, 4] (mkS 8 0 [(0, .at (.slice none 0 0)), (4, aB true)]) [] <| .cT (by kernel_rfl) <| .seq <| .rn fine [2] (mkS 8 0 [(2, .at (.slice none 0 0))]) [] <| .ret ?_
  obtain rfl := Option.some.inj hr
  exact FinQ.ret (vs := [.at (.slice none 0 0)]) (by kernel_rfl) Sn.nilsl
 ·refine .rn fine [0, 4] (mkS 8 0 [(0, .sl false (s.flatMap (iC .u32)) s.length), (4, aB false)]) [] <| .cF (by kernel_rfl) <| .skip <| .seq ?_
  obtain ⟨hg1, hr⟩ := gd hr
  obtain ⟨hg2, hr⟩ := gd hr
  refine .r0 fine <| .mu 2 <| .e0 (v := .hs 1 0 s.length 1) (ws := [(0, .dead), (1, .own (s.flatMap (iC .u32)))]) (Eq.trans (b := appS (decide (((s.flatMap (iC .u32))).length = s.length * 1)) (s.flatMap (iC .u32)) s.length (fun z1 z2 => guardO (decide (0 + 0 * 1 ≤ (([] : List Int).flatMap (iC .u32)).length) && decide ((0 + z2) * 4 ≤ 140737488355328) && decide (0 + z2 ≤ 4611686018427387904)) (some (.eff (.hs 1 0 (0 + z2) 1) [(0, .dead), (1, .own (((([] : List Int).flatMap (iC .u32)).drop 0).take (0 * 1) ++ z1))])))) (by kernel_rfl) (appS_t (flat_lenB (iC_len _)) rfl (app_own (l := ([] : List Int)) (xs := s) (iC_len _) rfl rfl rfl hg1 hg2))) <| .mu 1 <| .done <| .n1 [2] (mkS 8 0 [(2, .hs 1 0 s.length 1)]) [.dead, .own (s.flatMap (iC .u32))] <| .ret ?_
  obtain rfl := Option.some.inj hr
  exact FinQ.ret (vs := [.hs 1 0 s.length 1]) (by kernel_rfl) (Sn.hs rfl (.inl rfl) (SnC.pure (ids_flat (iC_pure _) _)) (fun h => flat_nil0 h))

theorem integer_Gcd_ok (n : Nat) (x' : api_Int) (y : api_Int) (r : api_Int) (hr : integer_Gcd n x' y = some r) : FnOk Tryz.prog 134 [.agg [.at (.bool x'.Negative), slT (iC .u32) x'.Groups], .agg [.at (.bool y.Negative), slT (iC .u32) y.Groups]] (.agg [.at (.bool r.Negative), slT (iC .u32) r.Groups]) := by
 unfold integer_Gcd at hr
 refine FnOk.body fine Tryz.func134 (c := (Tryz.f134.body).getD .skip) rfl (s := mkS 54 0 [(0, .agg (api_Int.c x')), (1, .agg (api_Int.c y))]) (by kernel_rfl) (rs := [.cell 4 37]) rfl ?_
 unfold Tryz.f134
 simp only [Option.getD_some]
 refine .seq <| .rn fine [2, 3, 4] (mkS 54 0 [(2, .hp 0 0), (3, .hp 1 0), (4, .hp 2 0)]) [.own (api_Int.c x'), .own (api_Int.c y), .own [aB false, .at (.slice none 0 0)]] <| .seq ?_
 obtain ⟨v1, hc2, hr⟩ := bd hr
 obtain ⟨v3, hc4, hr⟩ := bd hr
 refine .regionT fine (callOf_cons (callOk_ref (H := [.own (api_Int.c x'), .own (api_Int.c y), .own [aB false, .at (.slice none 0 0)]]) (l := []) (SnL.cons (Sn.pure rfl) SnL.nil) (integer_groups_ok n x' v1 hc2)) (callOf_cons (callOk_ref (H := [.own (api_Int.c x'), .own (api_Int.c y), .own [aB false, .at (.slice none 0 0)]]) (l := []) (SnL.cons (Sn.pure rfl) SnL.nil) (integer_groups_ok n y v3 hc4)) callOf_nil)) <| .mu 1 <| .cal (by kernel_rfl) (by kernel_rfl) (callOf_at (by kernel_rfl)) (by kernel_rfl) <| .mu 1 <| .cal (by kernel_rfl) (by kernel_rfl) (callOf_skip (fun _ h => by obtain e0 := integer_groups_inj h; rw [show v3 = v1 from Option.some.inj (hc4.symm.trans ((show integer_groups n y = integer_groups n x' from (congr rfl e0)).trans hc2))]) (callOf_at (by kernel_rfl))) (by kernel_rfl) <| .mu 2 ?_
 refine .done ⟨by kernel_rfl, ?_⟩
 refine .n1 [4, 5, 6] (mkS 54 0 [(4, .hp 2 0), (5, sU32 v1), (6, sU32 v3)]) [.own (api_Int.c x'), .own (api_Int.c y), .own [aB false, .at (.slice none 0 0)]] <| .seq <| .block ?_
 replace hr := bd hr; obtain ⟨o61, hL62, hr⟩ := hr
 refine .loopO (σ := fun z0 => match z0 with | (a_5, b_6) => ⟨mkS 54 0 [(4, .hp 0 0), (5, sU32 a_5), (6, sU32 b_6)], [.own [aB false, .at (.slice none 0 0)]]⟩) (Q := fun x st' => match (generalizing := false) o61 with | .inl a_33 => x = .exit 0 ∧ Wk 0 st' ⟨mkS 54 0 [(4, .hp 0 0), (5, sU32 a_33)], [.own [aB false, .at (.slice none 0 0)]]⟩ | .inr (r0) => x = .ret ∧ FinQ Tryz.prog [.cell 4 37] (.agg (api_Int.c r0)) .ret st') hL62 ((Wk.gc [4, 5, 6] [(2, true)] rfl trivial).to (by kernel_rfl)) ?_ ?_
 ·clear hr
  rintro m ⟨a_5, b_6⟩ hr
  show CQ _ _ _ _ _ ⟨_, _⟩
  refine .seq <| .seq <| .rn fine [4, 5, 6, 19] (mkS 54 0 [(4, .hp 0 0), (5, sU32 a_5), (6, sU32 b_6), (19, aB (decide ((b_6.length : Int) > 0)))]) [.own [aB false, .at (.slice none 0 0)]] ?_
  refine .cond (t := decide ((b_6.length : Int) > 0)) (by kernel_rfl) (fun hb35 => ?_) (fun hb35 => ?_)
  ·replace hr := cd_t hb35 hr
   refine .skip <| .block <| .seq ?_
   obtain ⟨v36, hc37, hr⟩ := bd hr
   refine .g1 fine (callOk_val (l := []) rfl (SnL.cons (Sn.pure rfl) SnL.nil) (integer_word_ok n a_5 v36 hc37)) <| .mu 1 <| .c0 (by kernel_rfl) (callOf_at (by kernel_rfl)) <| .mu 5 <| .done <| .n1 [4, 5, 6, 7, 8] (mkS 54 0 [(4, .hp 0 0), (5, sU32 a_5), (6, sU32 b_6), (7, aU64 v36.1), (8, aB v36.2)]) [.own [aB false, .at (.slice none 0 0)]] <| .seq ?_
   obtain ⟨v38, hc39, hr⟩ := bd hr
   refine .g1 fine (callOk_val (l := []) rfl (SnL.cons (Sn.pure rfl) SnL.nil) (integer_word_ok n b_6 v38 hc39)) <| .mu 1 <| .c0 (by kernel_rfl) (callOf_at (by kernel_rfl)) <| .mu 5 <| .done <| .n1 [4, 5, 6, 7, 8, 9, 10] (mkS 54 0 [(4, .hp 0 0), (5, sU32 a_5), (6, sU32 b_6), (7, aU64 v36.1), (8, aB v36.2), (9, aU64 v38.1), (10, aB v38.2)]) [.own [aB false, .at (.slice none 0 0)]] <| .seq <| .seq ?_
   rcases Bool.eq_false_or_eq_true v36.2 with hb40 | hb40
   ·replace hr := cd_t hb40 hr
    refine .r0 fine <| .p0 (v := aB true) (Eq.trans (b := some (.pure (aB v36.2))) (by kernel_rfl) (by rw [hb40])) <| .mu 3 <| .done <| .n1 [4, 5, 6, 7, 9, 33] (mkS 54 0 [(4, .hp 0 0), (5, sU32 a_5), (6, sU32 b_6), (7, aU64 v36.1), (9, aU64 v38.1), (33, aB v38.2)]) [.own [aB false, .at (.slice none 0 0)]] ?_
    refine .cond (t := v38.2) (by kernel_rfl) (fun hb41 => ?_) (fun hb41 => ?_)
    ·replace hr := cd_t hb41 hr
     refine .seq <| .block ?_
     replace hr := bd hr; obtain ⟨m_46, hL51, hr⟩ := hr
     refine .loopO (σ := fun z0 => match z0 with | (m_42, n_43) => ⟨mkS 54 0 [(4, .hp 0 0), (7, aU64 m_42), (9, aU64 n_43)], [.own [aB false, .at (.slice none 0 0)]]⟩) (Q := fun x st' => x = .exit 2 ∧ Wk 0 st' ⟨mkS 54 0 [(4, .hp 0 0), (7, aU64 m_46)], [.own [aB false, .at (.slice none 0 0)]]⟩) hL51 ((Wk.gc [4, 7, 9] [(0, true)] rfl trivial).to (by kernel_rfl)) ?_ ?_
     ·clear hr
      rintro m ⟨m_42, n_43⟩ hr
      show CQ _ _ _ _ _ ⟨_, _⟩
      refine .seq <| .seq <| .rn fine [4, 7, 9, 35] (mkS 54 0 [(4, .hp 0 0), (7, aU64 m_42), (9, aU64 n_43), (35, aB (decide (n_43 > 0)))]) [.own [aB false, .at (.slice none 0 0)]] ?_
      refine .cond (t := decide (n_43 > 0)) (by kernel_rfl) (fun hb48 => ?_) (fun hb48 => ?_)
      ·replace hr := cd_t hb48 hr
       refine .skip <| .block ?_
       obtain ⟨hg49, hr⟩ := gd hr
       refine .regionT fine callOf_nil <| .mu 3 <| .pure (v := aU64 (m_42.tmod n_43)) (by kernel_rfl) (op_rem (x := m_42) (y := n_43) (by kernel_rfl) (by kernel_rfl) hg49) (by kernel_rfl) <| .mu 2 ?_
       refine .done ⟨by kernel_rfl, ?_⟩
       refine .pop ?_
       exact loopF_back (n_43, m_42.tmod n_43) hr ((Wk.gc [4, 7, 9] [(0, true)] rfl trivial).to (by kernel_rfl))
      ·replace hr := cd_f hb48 hr
       refine .leave rfl ?_
       obtain rfl := Option.some.inj hr
       exact ⟨rfl, ((Wk.gc [4, 7] [(0, true)] rfl trivial).to (by kernel_rfl))⟩
     ·rintro x st' hq52
      clear hL51
      obtain ⟨rfl, hq52⟩ := hq52
      refine CQ_exit _ rfl <| .wk hq52 <| .seq ?_
      obtain ⟨v53, hc54, hr⟩ := bd hr
      obtain ⟨v55, hc56, hr⟩ := bd hr
      refine .region fine (callOf_cons (callOk_ref (H := [.own [aB false, .at (.slice none 0 0)]]) (l := []) (SnL.cons (Sn.pure rfl) SnL.nil) (integer_split_ok n m_46 v53 hc54)) (callOf_cons (callOk_ref (H := [.own [aB false, .at (.slice none 0 0)]]) (l := []) (SnL.cons (Sn.pure rfl) (SnL.cons (Sn.pure rfl) SnL.nil)) (integer_made_ok n false v53 v55 hc56)) callOf_nil)) <| .mu 1 <| .c0 (by kernel_rfl) (callOf_at (by kernel_rfl)) <| .c0 (by kernel_rfl) (callOf_skip (fun h _ => absurd (show (95 : Nat) = 96 from h) (by decide)) (callOf_at (by kernel_rfl))) <| .mu 1 <| .done <| .n1 [4] (mkS 54 0 [(4, .hp 0 0)]) [.own (api_Int.c v55)] <| .ret ?_
      obtain rfl := Option.some.inj hr
      exact ⟨rfl, FinQ.ret (vs := [.agg (api_Int.c v55)]) (by kernel_rfl) (Sn.pure rfl)⟩
    ·replace hr := cd_f hb41 hr
     refine .skip <| .seq ?_
     obtain ⟨v57, hc58, hr⟩ := bd hr
     refine .g1 fine (callOk_ref (l := []) (SnL.cons (Sn.pure rfl) (SnL.cons (Sn.pure rfl) SnL.nil)) (integer_over_ok n a_5 b_6 v57 hc58)) <| .mu 2 <| .c0 (by kernel_rfl) (callOf_at (by kernel_rfl)) <| .mu 5 <| .done <| .n1 [4, 6, 12] (mkS 54 0 [(4, .hp 0 0), (6, sU32 b_6), (12, sU32 v57.2)]) [.own [aB false, .at (.slice none 0 0)]] <| .ru fine <| .pop ?_
     exact loopF_back (b_6, v57.2) hr ((Wk.gc [4, 5, 6] [(0, true)] rfl trivial).to (by kernel_rfl))
   ·replace hr := cd_f hb40 hr
    refine .r0 fine <| .p0 (v := aB false) (Eq.trans (b := some (.pure (aB v36.2))) (by kernel_rfl) (by rw [hb40])) <| .mu 3 <| .done <| .n1 [4, 5, 6, 7, 9, 33] (mkS 54 0 [(4, .hp 0 0), (5, sU32 a_5), (6, sU32 b_6), (7, aU64 v36.1), (9, aU64 v38.1), (33, aB false)]) [.own [aB false, .at (.slice none 0 0)]] <| .cF (by kernel_rfl) <| .skip <| .seq ?_
    obtain ⟨v59, hc60, hr⟩ := bd hr
    refine .g1 fine (callOk_ref (l := []) (SnL.cons (Sn.pure rfl) (SnL.cons (Sn.pure rfl) SnL.nil)) (integer_over_ok n a_5 b_6 v59 hc60)) <| .mu 2 <| .c0 (by kernel_rfl) (callOf_at (by kernel_rfl)) <| .mu 5 <| .done <| .n1 [4, 6, 12] (mkS 54 0 [(4, .hp 0 0), (6, sU32 b_6), (12, sU32 v59.2)]) [.own [aB false, .at (.slice none 0 0)]] <| .ru fine <| .pop ?_
    exact loopF_back (b_6, v59.2) hr ((Wk.gc [4, 5, 6] [(0, true)] rfl trivial).to (by kernel_rfl))
  ·replace hr := cd_f hb35 hr
   refine .leave rfl ?_
   obtain rfl := Option.some.inj hr
   exact ⟨rfl, ((Wk.gc [4, 5] [(0, true)] rfl trivial).to (by kernel_rfl))⟩
 ·rcases o61 with a_33 | r0
  ·rintro x st' hq63
   clear hL62
   obtain ⟨rfl, hq63⟩ := hq63
   refine CQ_exit _ rfl <| .wk hq63 <| .seq ?_
   obtain ⟨v64, hc65, hr⟩ := bd hr
   obtain ⟨v66, hc67, hr⟩ := bd hr
   refine .region fine (callOf_cons (callOk_ref (H := [.own [aB false, .at (.slice none 0 0)]]) (l := []) (SnL.cons (Sn.pure rfl) SnL.nil) (slices_Clone_uint32_uint32_ok n a_33 v64 hc65)) (callOf_cons (callOk_ref (H := [.own [aB false, .at (.slice none 0 0)]]) (l := []) (SnL.cons (Sn.pure rfl) (SnL.cons (Sn.pure rfl) SnL.nil)) (integer_made_ok n false v64 v66 hc67)) callOf_nil)) <| .mu 1 <| .c0 (by kernel_rfl) (callOf_at (by kernel_rfl)) <| .c0 (by kernel_rfl) (callOf_skip (fun h _ => absurd (show (95 : Nat) = 177 from h) (by decide)) (callOf_at (by kernel_rfl))) <| .mu 1 <| .done <| .n1 [4] (mkS 54 0 [(4, .hp 0 0)]) [.own (api_Int.c v66)] <| .ret ?_
   obtain rfl := Option.some.inj hr
   exact FinQ.r1 [.agg (api_Int.c v66)]
  ·rintro x st' hq63
   clear hL62
   obtain ⟨rfl, hq63⟩ := hq63
   obtain rfl := Option.some.inj hr
   exact CQ_ret _ hq63

theorem cmp_isNaN_int_ok (n : Nat) (x' : Int) (r : Bool) (hr : cmp_isNaN_int n x' = some r) : FnOk Tryz.prog 122 [.at (.int .i64 x')] (.at (.bool r)) := by
 unfold cmp_isNaN_int at hr
 refine FnOk.body fine Tryz.func122 (c := (Tryz.f122.body).getD .skip) rfl (s := mkS 6 0 [(0, aI64 x')]) (by kernel_rfl) (rs := [.tmp 2]) rfl ?_
 unfold Tryz.f122
 simp only [Option.getD_some]
 refine .seq <| .rn fine [0] (mkS 6 0 [(0, aI64 x')]) [] <| .seq <| .ru fine <| .ret ?_
 obtain rfl := Option.some.inj hr
 exact FinQ.r1 [aB ((x' : Int) != x')]

theorem cmp_Compare_int_ok (n : Nat) (x' : Int) (y : Int) (r : Int) (hr : cmp_Compare_int n x' y = some r) : FnOk Tryz.prog 75 [.at (.int .i64 x'), .at (.int .i64 y)] (.at (.int .i64 r)) := by
 unfold cmp_Compare_int at hr
 refine FnOk.body fine Tryz.func75 (c := (Tryz.f75.body).getD .skip) rfl (s := mkS 20 0 [(0, aI64 x'), (1, aI64 y)]) (by kernel_rfl) (rs := [.tmp 4]) rfl ?_
 unfold Tryz.f75
 simp only [Option.getD_some]
 refine .seq <| .rn fine [0, 1] (mkS 20 0 [(0, aI64 x'), (1, aI64 y)]) [] <| .seq ?_
 obtain ⟨v1, hc2, hr⟩ := bd hr
 refine .g1 fine (callOk_val (l := []) rfl (SnL.cons (Sn.pure rfl) SnL.nil) (cmp_isNaN_int_ok n x' v1 hc2)) <| .mu 1 <| .c0 (by kernel_rfl) (callOf_at (by kernel_rfl)) <| .mu 1 <| .done <| .n1 [0, 1, 5] (mkS 20 0 [(0, aI64 x'), (1, aI64 y), (5, aB v1)]) [] <| .seq ?_
 obtain ⟨v3, hc4, hr⟩ := bd hr
 refine .g1 fine (callOk_val (l := []) rfl (SnL.cons (Sn.pure rfl) SnL.nil) (cmp_isNaN_int_ok n y v3 hc4)) <| .mu 1 <| .c0 (by kernel_rfl) (callOf_at (by kernel_rfl)) <| .mu 1 <| .done <| .n1 [0, 1, 5, 6] (mkS 20 0 [(0, aI64 x'), (1, aI64 y), (5, aB v1), (6, aB v3)]) [] <| .seq <| .seq <| .rn fine [0, 1, 6, 11] (mkS 20 0 [(0, aI64 x'), (1, aI64 y), (6, aB v3), (11, aB v1)]) [] ?_
 refine .cond (t := v1) (by kernel_rfl) (fun hb5 => ?_) (fun hb5 => ?_)
 ·replace hr := cd_t hb5 hr
  refine .seq <| .seq <| .rn fine [12] (mkS 20 0 [(12, aB v3)]) [] ?_
  refine .cond (t := v3) (by kernel_rfl) (fun hb6 => ?_) (fun hb6 => ?_)
  ·replace hr := cd_t hb6 hr
   refine .seq <| .ru fine <| .ret ?_
   obtain rfl := Option.some.inj hr
   exact FinQ.r1 [aI64 0]
  ·replace hr := cd_f hb6 hr
   refine .skip <| .seq <| .ru fine <| .ret ?_
   obtain rfl := Option.some.inj hr
   exact FinQ.r1 [aI64 (-1)]
 ·replace hr := cd_f hb5 hr
  refine .skip <| .seq <| .seq <| .rn fine [0, 1, 13] (mkS 20 0 [(0, aI64 x'), (1, aI64 y), (13, aB v3)]) [] ?_
  refine .cond (t := v3) (by kernel_rfl) (fun hb7 => ?_) (fun hb7 => ?_)
  ·replace hr := cd_t hb7 hr
   refine .seq <| .ru fine <| .ret ?_
   obtain rfl := Option.some.inj hr
   exact FinQ.r1 [aI64 1]
  ·replace hr := cd_f hb7 hr
   refine .skip <| .seq <| .seq <| .rn fine [0, 1, 16] (mkS 20 0 [(0, aI64 x'), (1, aI64 y), (16, aB (decide (x' < y)))]) [] ?_
   refine .cond (t := decide (x' < y)) (by kernel_rfl) (fun hb8 => ?_) (fun hb8 => ?_)
   ·replace hr := cd_t hb8 hr
    refine .seq <| .ru fine <| .ret ?_
    obtain rfl := Option.some.inj hr
    exact FinQ.r1 [aI64 (-1)]
   ·replace hr := cd_f hb8 hr
    refine .skip <| .seq <| .seq <| .rn fine [19] (mkS 20 0 [(19, aB (decide (x' > y)))]) [] ?_
    refine .cond (t := decide (x' > y)) (by kernel_rfl) (fun hb9 => ?_) (fun hb9 => ?_)
    ·replace hr := cd_t hb9 hr
     refine .seq <| .ru fine <| .ret ?_
     obtain rfl := Option.some.inj hr
     exact FinQ.r1 [aI64 1]
    ·replace hr := cd_f hb9 hr
     refine .skip <| .seq <| .ru fine <| .ret ?_
     obtain rfl := Option.some.inj hr
     exact FinQ.r1 [aI64 0]

theorem integer_Compare_ok (n : Nat) (x' : api_Int) (y : api_Int) (r : Int) (hr : integer_Compare n x' y = some r) : FnOk Tryz.prog 196 [.agg [.at (.bool x'.Negative), slT (iC .u32) x'.Groups], .agg [.at (.bool y.Negative), slT (iC .u32) y.Groups]] (.at (.int .i64 r)) := by
 unfold integer_Compare at hr
 refine FnOk.body fine Tryz.func196 (c := (Tryz.f196.body).getD .skip) rfl (s := mkS 28 0 [(0, .agg (api_Int.c x')), (1, .agg (api_Int.c y))]) (by kernel_rfl) (rs := [.tmp 4]) rfl ?_
 unfold Tryz.f196
 simp only [Option.getD_some]
 refine .seq <| .rn fine [2, 3] (mkS 28 0 [(2, .hp 0 0), (3, .hp 1 0)]) [.own (api_Int.c x'), .own (api_Int.c y)] <| .seq <| .seq ?_
 obtain ⟨v1, hc2, hr⟩ := bd hr
 obtain ⟨v3, hc4, hr⟩ := bd hr
 refine .regionT fine (callOf_cons (callOk_val (H := [.own (api_Int.c x'), .own (api_Int.c y)]) (l := []) rfl (SnL.cons (Sn.pure rfl) SnL.nil) (integer_Sign_ok n x' v1 hc2)) (callOf_cons (callOk_val (H := [.own (api_Int.c x'), .own (api_Int.c y)]) (l := []) rfl (SnL.cons (Sn.pure rfl) SnL.nil) (integer_Sign_ok n y v3 hc4)) callOf_nil)) <| .mu 1 <| .cal (by kernel_rfl) (by kernel_rfl) (callOf_at (by kernel_rfl)) (by kernel_rfl) <| .mu 1 <| .cal (by kernel_rfl) (by kernel_rfl) (callOf_skip (fun _ h => by obtain e0 := integer_Sign_inj h; rw [show v3 = v1 from Option.some.inj (hc4.symm.trans ((show integer_Sign n y = integer_Sign n x' from (congr rfl e0)).trans hc2))]) (callOf_at (by kernel_rfl))) (by kernel_rfl) <| .mu 2 ?_
 refine .done ⟨by kernel_rfl, ?_⟩
 refine .n1 [2, 3, 5, 6] (mkS 28 0 [(2, .hp 0 0), (3, .hp 1 0), (5, aI64 v1), (6, aI64 v3)]) [.own (api_Int.c x'), .own (api_Int.c y)] <| .seq <| .rn fine [2, 3, 5, 6, 14] (mkS 28 0 [(2, .hp 0 0), (3, .hp 1 0), (5, aI64 v1), (6, aI64 v3), (14, aB ((v1 : Int) != v3))]) [.own (api_Int.c x'), .own (api_Int.c y)] ?_
 refine .cond (t := (v1 : Int) != v3) (by kernel_rfl) (fun hb5 => ?_) (fun hb5 => ?_)
 ·replace hr := cd_t hb5 hr
  refine .seq ?_
  obtain ⟨v6, hc7, hr⟩ := bd hr
  refine .g1 fine (callOk_val (l := []) rfl (SnL.cons (Sn.pure rfl) (SnL.cons (Sn.pure rfl) SnL.nil)) (cmp_Compare_int_ok n v1 v3 v6 hc7)) <| .mu 2 <| .c0 (by kernel_rfl) (callOf_at (by kernel_rfl)) <| .mu 1 <| .done <| .ret ?_
  obtain rfl := Option.some.inj hr
  exact FinQ.r1 [aI64 v6]
 ·replace hr := cd_f hb5 hr
  refine .skip <| .seq ?_
  obtain ⟨v8, hc9, hr⟩ := bd hr
  obtain ⟨v10, hc11, hr⟩ := bd hr
  obtain ⟨v12, hc13, hr⟩ := bd hr
  refine .regionT fine (callOf_cons (callOk_ref (H := [.own (api_Int.c x'), .own (api_Int.c y)]) (l := []) (SnL.cons (Sn.pure rfl) SnL.nil) (integer_groups_ok n x' v8 hc9)) (callOf_cons (callOk_ref (H := [.own (api_Int.c x'), .own (api_Int.c y)]) (l := []) (SnL.cons (Sn.pure rfl) SnL.nil) (integer_groups_ok n y v10 hc11)) (callOf_cons (callOk_val (H := [.own (api_Int.c x'), .own (api_Int.c y)]) (l := []) rfl (SnL.cons (Sn.pure rfl) (SnL.cons (Sn.pure rfl) SnL.nil)) (integer_compare_ok n v8 v10 v12 hc13)) callOf_nil))) <| .mu 1 <| .cal (by kernel_rfl) (by kernel_rfl) (callOf_at (by kernel_rfl)) (by kernel_rfl) <| .mu 1 <| .cal (by kernel_rfl) (by kernel_rfl) (callOf_skip (fun _ h => by obtain e0 := integer_groups_inj h; rw [show v10 = v8 from Option.some.inj (hc11.symm.trans ((show integer_groups n y = integer_groups n x' from (congr rfl e0)).trans hc9))]) (callOf_at (by kernel_rfl))) (by kernel_rfl) <| .cal (by kernel_rfl) (by kernel_rfl) (callOf_skip (fun h _ => absurd (show (172 : Nat) = 100 from h) (by decide)) (callOf_skip (fun h _ => absurd (show (172 : Nat) = 100 from h) (by decide)) (callOf_at (by kernel_rfl)))) (by kernel_rfl) <| .mu 1 ?_
  refine .done ⟨by kernel_rfl, ?_⟩
  refine .n1 [2, 7] (mkS 28 0 [(2, .hp 0 0), (7, aI64 v12)]) [.own (api_Int.c x'), .own (api_Int.c y)] <| .seq <| .seq <| .rn fine [7, 24] (mkS 28 0 [(7, aI64 v12), (24, aB x'.Negative)]) [.own (api_Int.c x'), .own (api_Int.c y)] ?_
  refine .cond (t := x'.Negative) (by kernel_rfl) (fun hb14 => ?_) (fun hb14 => ?_)
  ·replace hr := cd_t hb14 hr
   refine .seq <| .r0 fine <| .mu 1 <| .p0 (v := aI64 (wrapF .i64 (0 - v12))) (Eq.trans (b := some (.pure (aI64 (IntKind.wrap .i64 (0 - v12))))) (by kernel_rfl) wrap_at) <| .mu 1 <| .done <| .ret ?_
   obtain rfl := Option.some.inj hr
   exact FinQ.r1 [aI64 (wrapF .i64 (0 - v12))]
  ·replace hr := cd_f hb14 hr
   refine .skip <| .seq <| .ru fine <| .ret ?_
   obtain rfl := Option.some.inj hr
   exact FinQ.r1 [aI64 v12]

theorem fraction_Valid_ok (n : Nat) (x' : api_Rat) (r : Bool) (hr : fraction_Valid n x' = some r) : FnOk Tryz.prog 169 [.agg [.at (.bool x'.Num.Negative), slT (iC .u32) x'.Num.Groups, .at (.bool x'.Den.Negative), slT (iC .u32) x'.Den.Groups]] (.at (.bool r)) := by
 unfold fraction_Valid at hr
 refine FnOk.body fine Tryz.func169 (c := (Tryz.f169.body).getD .skip) rfl (s := mkS 27 0 [(0, .agg (api_Rat.c x'))]) (by kernel_rfl) (rs := [.tmp 2]) rfl ?_
 unfold Tryz.f169
 simp only [Option.getD_some]
 refine .seq <| .rn fine [1] (mkS 27 0 [(1, .hp 0 0)]) [.own (api_Rat.c x')] <| .seq <| .seq ?_
 obtain ⟨v1, hc2, hr⟩ := bd hr
 rcases Bool.eq_false_or_eq_true (!v1) with hb3 | hb3
 ·replace hr := cd_t hb3 hr
  refine .g1 fine (callOk_val (l := []) rfl (SnL.cons (Sn.pure rfl) SnL.nil) (integer_Valid_ok n x'.Num v1 hc2)) <| .mu 2 <| .c0 (by kernel_rfl) (callOf_at (by kernel_rfl)) <| .p0 (v := aB true) (Eq.trans (b := some (.pure (aB (!v1)))) (by kernel_rfl) (by rw [hb3])) <| .mu 12 <| .done <| .n1 [1, 18] (mkS 27 0 [(1, .hp 0 0), (18, aB true)]) [.own (api_Rat.c x')] <| .cT (by kernel_rfl) <| .seq <| .ru fine <| .ret ?_
  obtain rfl := Option.some.inj hr
  exact FinQ.r1 [aB false]
 ·replace hr := cd_f hb3 hr
  obtain ⟨v4, hc5, hr⟩ := bd hr
  rcases Bool.eq_false_or_eq_true (!v4) with hb6 | hb6
  ·replace hr := cd_t hb6 hr
   refine .region fine (callOf_cons (callOk_val (H := [.own (api_Rat.c x')]) (l := []) rfl (SnL.cons (Sn.pure rfl) SnL.nil) (integer_Valid_ok n x'.Num v1 hc2)) (callOf_cons (callOk_val (H := [.own (api_Rat.c x')]) (l := []) rfl (SnL.cons (Sn.pure rfl) SnL.nil) (integer_Valid_ok n x'.Den v4 hc5)) callOf_nil)) <| .mu 2 <| .c0 (by kernel_rfl) (callOf_at (by kernel_rfl)) <| .p0 (v := aB false) (Eq.trans (b := some (.pure (aB (!v1)))) (by kernel_rfl) (by rw [hb3])) <| .mu 3 <| .cal (by kernel_rfl) (by kernel_rfl) (callOf_skip (fun _ h => by obtain e0 := integer_Valid_inj h; rw [show v4 = v1 from Option.some.inj (hc5.symm.trans ((show integer_Valid n x'.Den = integer_Valid n x'.Num from (congr rfl e0)).trans hc2))]) (callOf_at (by kernel_rfl))) <| .pure (v := aB true) (by kernel_rfl) (Eq.trans (b := some (.pure (aB (!v4)))) (by kernel_rfl) (by rw [hb6])) <| .mu 7 <| .done <| .n1 [1, 18] (mkS 27 0 [(1, .hp 0 0), (18, aB true)]) [.own (api_Rat.c x')] <| .cT (by kernel_rfl) <| .seq <| .ru fine <| .ret ?_
   obtain rfl := Option.some.inj hr
   exact FinQ.r1 [aB false]
  ·replace hr := cd_f hb6 hr
   obtain ⟨v7, hc8, hr⟩ := bd hr
   refine .region fine (callOf_cons (callOk_val (H := [.own (api_Rat.c x')]) (l := []) rfl (SnL.cons (Sn.pure rfl) SnL.nil) (integer_Valid_ok n x'.Num v1 hc2)) (callOf_cons (callOk_val (H := [.own (api_Rat.c x')]) (l := []) rfl (SnL.cons (Sn.pure rfl) SnL.nil) (integer_Valid_ok n x'.Den v4 hc5)) (callOf_cons (callOk_val (H := [.own (api_Rat.c x')]) (l := []) rfl (SnL.cons (Sn.pure rfl) SnL.nil) (integer_Sign_ok n x'.Den v7 hc8)) callOf_nil))) <| .mu 2 <| .c0 (by kernel_rfl) (callOf_at (by kernel_rfl)) <| .p0 (v := aB false) (Eq.trans (b := some (.pure (aB (!v1)))) (by kernel_rfl) (by rw [hb3])) <| .mu 3 <| .cal (by kernel_rfl) (by kernel_rfl) (callOf_skip (fun _ h => by obtain e0 := integer_Valid_inj h; rw [show v4 = v1 from Option.some.inj (hc5.symm.trans ((show integer_Valid n x'.Den = integer_Valid n x'.Num from (congr rfl e0)).trans hc2))]) (callOf_at (by kernel_rfl))) <| .pure (v := aB false) (by kernel_rfl) (Eq.trans (b := some (.pure (aB (!v4)))) (by kernel_rfl) (by rw [hb6])) <| .mu 4 <| .cal (by kernel_rfl) (by kernel_rfl) (callOf_skip (fun h _ => absurd (show (91 : Nat) = 132 from h) (by decide)) (callOf_skip (fun h _ => absurd (show (91 : Nat) = 132 from h) (by decide)) (callOf_at (by kernel_rfl)))) <| .mu 2 <| .done <| .n1 [1, 18] (mkS 27 0 [(1, .hp 0 0), (18, aB (decide (v7 ≤ 0)))]) [.own (api_Rat.c x')] ?_
   refine .cond (t := decide (v7 ≤ 0)) (by kernel_rfl) (fun hb9 => ?_) (fun hb9 => ?_)
   ·replace hr := cd_t hb9 hr
    refine .seq <| .ru fine <| .ret ?_
    obtain rfl := Option.some.inj hr
    exact FinQ.r1 [aB false]
   ·replace hr := cd_f hb9 hr
    refine .skip <| .seq ?_
    obtain ⟨v10, hc11, hr⟩ := bd hr
    obtain ⟨v12, hc13, hr⟩ := bd hr
    obtain ⟨v14, hc15, hr⟩ := bd hr
    refine .region fine (callOf_cons (callOk_ref (H := [.own (api_Rat.c x')]) (l := []) (SnL.cons (Sn.pure rfl) (SnL.cons (Sn.pure rfl) SnL.nil)) (integer_Gcd_ok n x'.Num x'.Den v10 hc11)) (callOf_cons (callOk_ref (H := [.own (api_Rat.c x')]) (l := []) (SnL.cons (Sn.pure rfl) SnL.nil) (integer_Of_ok n 1 v12 hc13)) (callOf_cons (callOk_val (H := [.own (api_Rat.c x')]) (l := []) rfl (SnL.cons (Sn.pure rfl) (SnL.cons (Sn.pure rfl) SnL.nil)) (integer_Compare_ok n v10 v12 v14 hc15)) callOf_nil))) <| .mu 4 <| .c0 (by kernel_rfl) (callOf_at (by kernel_rfl)) <| .c0 (by kernel_rfl) (callOf_skip (fun h _ => absurd (show (49 : Nat) = 134 from h) (by decide)) (callOf_at (by kernel_rfl))) <| .c0 (by kernel_rfl) (callOf_skip (fun h _ => absurd (show (196 : Nat) = 134 from h) (by decide)) (callOf_skip (fun h _ => absurd (show (196 : Nat) = 49 from h) (by decide)) (callOf_at (by kernel_rfl)))) <| .mu 2 <| .done <| .ret ?_
    obtain rfl := Option.some.inj hr
    exact FinQ.r1 [aB ((v14 : Int) == 0)]

theorem integer_Neg_inj {x' : api_Int} {x'_ : api_Int} (h : ([.agg [.at (.bool x'.Negative), slT (iC .u32) x'.Groups]] : List AV) = [.agg [.at (.bool x'_.Negative), slT (iC .u32) x'_.Groups]]) : x' = x'_ := by
 obtain ⟨_, _⟩ := x'
 obtain ⟨_, _⟩ := x'_
 simp only [List.cons.injEq, AV.agg.injEq, AV.at.injEq, Value.int.injEq, Value.bool.injEq, AV.fn.injEq, AV.pp.injEq, true_and, and_true, slT_inj_int] at h
 simp_all
theorem integer_Neg_ok (n : Nat) (x' : api_Int) (r : api_Int) (hr : integer_Neg n x' = some r) : FnOk Tryz.prog 133 [.agg [.at (.bool x'.Negative), slT (iC .u32) x'.Groups]] (.agg [.at (.bool r.Negative), slT (iC .u32) r.Groups]) := by
 unfold integer_Neg at hr
 refine FnOk.body fine Tryz.func133 (c := (Tryz.f133.body).getD .skip) rfl (s := mkS 10 0 [(0, .agg (api_Int.c x'))]) (by kernel_rfl) (rs := [.cell 2 37]) rfl ?_
 unfold Tryz.f133
 simp only [Option.getD_some]
 refine .seq <| .rn fine [1, 2] (mkS 10 0 [(1, .hp 0 0), (2, .hp 1 0)]) [.own (api_Int.c x'), .own [aB false, .at (.slice none 0 0)]] <| .seq ?_
 obtain ⟨v1, hc2, hr⟩ := bd hr
 obtain ⟨v3, hc4, hr⟩ := bd hr
 obtain ⟨v5, hc6, hr⟩ := bd hr
 refine .regionT fine (callOf_cons (callOk_ref (H := [.own (api_Int.c x'), .own [aB false, .at (.slice none 0 0)]]) (l := []) (SnL.cons (Sn.pure rfl) SnL.nil) (integer_groups_ok n x' v1 hc2)) (callOf_cons (callOk_ref (H := [.own (api_Int.c x'), .own [aB false, .at (.slice none 0 0)]]) (l := []) (SnL.cons (Sn.pure rfl) SnL.nil) (slices_Clone_uint32_uint32_ok n v1 v3 hc4)) (callOf_cons (callOk_ref (H := [.own (api_Int.c x'), .own [aB false, .at (.slice none 0 0)]]) (l := []) (SnL.cons (Sn.pure rfl) (SnL.cons (Sn.pure rfl) SnL.nil)) (integer_made_ok n (!x'.Negative) v3 v5 hc6)) callOf_nil))) <| .mu 4 <| .cal (by kernel_rfl) (by kernel_rfl) (callOf_at (by kernel_rfl)) (by kernel_rfl) <| .cal (by kernel_rfl) (by kernel_rfl) (callOf_skip (fun h _ => absurd (show (177 : Nat) = 100 from h) (by decide)) (callOf_at (by kernel_rfl))) (by kernel_rfl) <| .cal (by kernel_rfl) (by kernel_rfl) (callOf_skip (fun h _ => absurd (show (95 : Nat) = 100 from h) (by decide)) (callOf_skip (fun h _ => absurd (show (95 : Nat) = 177 from h) (by decide)) (callOf_at (by kernel_rfl)))) (by kernel_rfl) <| .mu 1 ?_
 refine .done ⟨by kernel_rfl, ?_⟩
 refine .n1 [2] (mkS 10 0 [(2, .hp 1 0)]) [.own (api_Int.c x'), .own (api_Int.c v5)] <| .ret ?_
 obtain rfl := Option.some.inj hr
 exact FinQ.r1 [.agg (api_Int.c v5)]

theorem fraction_copied_ok (n : Nat) (x' : api_Rat) (r : api_Rat) (hr : fraction_copied n x' = some r) : FnOk Tryz.prog 170 [.agg [.at (.bool x'.Num.Negative), slT (iC .u32) x'.Num.Groups, .at (.bool x'.Den.Negative), slT (iC .u32) x'.Den.Groups]] (.agg [.at (.bool r.Num.Negative), slT (iC .u32) r.Num.Groups, .at (.bool r.Den.Negative), slT (iC .u32) r.Den.Groups]) := by
 unfold fraction_copied at hr
 refine FnOk.body fine Tryz.func170 (c := (Tryz.f170.body).getD .skip) rfl (s := mkS 12 0 [(0, .agg (api_Rat.c x'))]) (by kernel_rfl) (rs := [.cell 2 39]) rfl ?_
 unfold Tryz.f170
 simp only [Option.getD_some]
 refine .seq <| .rn fine [1, 2] (mkS 12 0 [(1, .hp 0 0), (2, .hp 1 0)]) [.own (api_Rat.c x'), .own [aB false, .at (.slice none 0 0), aB false, .at (.slice none 0 0)]] <| .seq ?_
 obtain ⟨v1, hc2, hr⟩ := bd hr
 obtain ⟨v3, hc4, hr⟩ := bd hr
 obtain ⟨v5, hc6, hr⟩ := bd hr
 obtain ⟨v7, hc8, hr⟩ := bd hr
 refine .regionT fine (callOf_cons (callOk_ref (H := [.own (api_Rat.c x'), .own [aB false, .at (.slice none 0 0), aB false, .at (.slice none 0 0)]]) (l := []) (SnL.cons (Sn.pure rfl) SnL.nil) (integer_Neg_ok n x'.Num v1 hc2)) (callOf_cons (callOk_ref (H := [.own (api_Rat.c x'), .own [aB false, .at (.slice none 0 0), aB false, .at (.slice none 0 0)]]) (l := []) (SnL.cons (Sn.pure rfl) SnL.nil) (integer_Neg_ok n v1 v3 hc4)) (callOf_cons (callOk_ref (H := [.own (api_Rat.c x'), .own [aB false, .at (.slice none 0 0), aB false, .at (.slice none 0 0)]]) (l := []) (SnL.cons (Sn.pure rfl) SnL.nil) (integer_Neg_ok n x'.Den v5 hc6)) (callOf_cons (callOk_ref (H := [.own (api_Rat.c x'), .own [aB false, .at (.slice none 0 0), aB false, .at (.slice none 0 0)]]) (l := []) (SnL.cons (Sn.pure rfl) SnL.nil) (integer_Neg_ok n v5 v7 hc8)) callOf_nil)))) <| .mu 2 <| .cal (by kernel_rfl) (by kernel_rfl) (callOf_at (by kernel_rfl)) (by kernel_rfl) <| .cal (by kernel_rfl) (by kernel_rfl) (callOf_skip (fun _ h => by obtain e0 := integer_Neg_inj h; rw [show v3 = v1 from Option.some.inj (hc4.symm.trans ((show integer_Neg n v1 = integer_Neg n x'.Num from (congr rfl e0)).trans hc2))]) (callOf_at (by kernel_rfl))) (by kernel_rfl) <| .mu 2 <| .cal (by kernel_rfl) (by kernel_rfl) (callOf_skip (fun _ h => by obtain e0 := integer_Neg_inj h; rw [show v5 = v1 from Option.some.inj (hc6.symm.trans ((show integer_Neg n x'.Den = integer_Neg n x'.Num from (congr rfl e0)).trans hc2))]) (callOf_skip (fun _ h => by obtain e0 := integer_Neg_inj h; rw [show v5 = v3 from Option.some.inj (hc6.symm.trans ((show integer_Neg n x'.Den = integer_Neg n v1 from (congr rfl e0)).trans hc4))]) (callOf_at (by kernel_rfl)))) (by kernel_rfl) <| .cal (by kernel_rfl) (by kernel_rfl) (callOf_skip (fun _ h => by obtain e0 := integer_Neg_inj h; rw [show v7 = v1 from Option.some.inj (hc8.symm.trans ((show integer_Neg n v5 = integer_Neg n x'.Num from (congr rfl e0)).trans hc2))]) (callOf_skip (fun _ h => by obtain e0 := integer_Neg_inj h; rw [show v7 = v3 from Option.some.inj (hc8.symm.trans ((show integer_Neg n v5 = integer_Neg n v1 from (congr rfl e0)).trans hc4))]) (callOf_skip (fun _ h => by obtain e0 := integer_Neg_inj h; rw [show v7 = v5 from Option.some.inj (hc8.symm.trans ((show integer_Neg n v5 = integer_Neg n x'.Den from (congr rfl e0)).trans hc6))]) (callOf_at (by kernel_rfl))))) (by kernel_rfl) <| .mu 2 ?_
 refine .done ⟨by kernel_rfl, ?_⟩
 refine .n1 [2] (mkS 12 0 [(2, .hp 1 0)]) [.own (api_Rat.c x'), .own [aB v3.Negative, sU32 v3.Groups, aB v7.Negative, sU32 v7.Groups]] <| .ret ?_
 obtain rfl := Option.some.inj hr
 exact FinQ.r1 [.agg [aB v3.Negative, sU32 v3.Groups, aB v7.Negative, sU32 v7.Groups]]

theorem fraction_Value_inj {x' : api_Rat} {x'_ : api_Rat} (h : ([.agg [.at (.bool x'.Num.Negative), slT (iC .u32) x'.Num.Groups, .at (.bool x'.Den.Negative), slT (iC .u32) x'.Den.Groups]] : List AV) = [.agg [.at (.bool x'_.Num.Negative), slT (iC .u32) x'_.Num.Groups, .at (.bool x'_.Den.Negative), slT (iC .u32) x'_.Den.Groups]]) : x' = x'_ := by
 obtain ⟨⟨_, _⟩, ⟨_, _⟩⟩ := x'
 obtain ⟨⟨_, _⟩, ⟨_, _⟩⟩ := x'_
 simp only [List.cons.injEq, AV.agg.injEq, AV.at.injEq, Value.int.injEq, Value.bool.injEq, AV.fn.injEq, AV.pp.injEq, true_and, and_true, slT_inj_int] at h
 simp_all
theorem fraction_Value_ok (n : Nat) (x' : api_Rat) (r : api_Rat) (hr : fraction_Value n x' = some r) : FnOk Tryz.prog 126 [.agg [.at (.bool x'.Num.Negative), slT (iC .u32) x'.Num.Groups, .at (.bool x'.Den.Negative), slT (iC .u32) x'.Den.Groups]] (.agg [.at (.bool r.Num.Negative), slT (iC .u32) r.Num.Groups, .at (.bool r.Den.Negative), slT (iC .u32) r.Den.Groups]) := by
 unfold fraction_Value at hr
 refine FnOk.body fine Tryz.func126 (c := (Tryz.f126.body).getD .skip) rfl (s := mkS 8 0 [(0, .agg (api_Rat.c x'))]) (by kernel_rfl) (rs := [.cell 2 39]) rfl ?_
 unfold Tryz.f126
 simp only [Option.getD_some]
 refine .seq <| .rn fine [1, 2] (mkS 8 0 [(1, .hp 0 0), (2, .hp 1 0)]) [.own (api_Rat.c x'), .own [aB false, .at (.slice none 0 0), aB false, .at (.slice none 0 0)]] <| .seq <| .seq ?_
 obtain ⟨v1, hc2, hr⟩ := bd hr
 refine .g1 fine (callOk_val (l := []) rfl (SnL.cons (Sn.pure rfl) SnL.nil) (fraction_Valid_ok n x' v1 hc2)) <| .mu 1 <| .c0 (by kernel_rfl) (callOf_at (by kernel_rfl)) <| .done <| .n1 [1, 2, 4] (mkS 8 0 [(1, .hp 0 0), (2, .hp 1 0), (4, aB v1)]) [.own (api_Rat.c x'), .own [aB false, .at (.slice none 0 0), aB false, .at (.slice none 0 0)]] ?_
 refine .cond (t := v1) (by kernel_rfl) (fun hb3 => ?_) (fun hb3 => ?_)
 ·replace hr := cd_t hb3 hr
  refine .seq ?_
  obtain ⟨v4, hc5, hr⟩ := bd hr
  refine .g1 fine (callOk_ref (l := []) (SnL.cons (Sn.pure rfl) SnL.nil) (fraction_copied_ok n x' v4 hc5)) <| .mu 1 <| .c0 (by kernel_rfl) (callOf_at (by kernel_rfl)) <| .mu 1 <| .done <| .n1 [2] (mkS 8 0 [(2, .hp 1 0)]) [.own (api_Rat.c x'), .own (api_Rat.c v4)] <| .ret ?_
  obtain rfl := Option.some.inj hr
  exact FinQ.r1 [.agg (api_Rat.c v4)]
 ·replace hr := cd_f hb3 hr
  refine .skip <| .seq ?_
  obtain ⟨v6, hc7, hr⟩ := bd hr
  refine .g1 fine (callOk_ref (l := []) (SnL.cons (Sn.pure rfl) SnL.nil) (fraction_Whole_ok n 0 v6 hc7)) <| .c0 (by kernel_rfl) (callOf_at (by kernel_rfl)) <| .mu 1 <| .done <| .n1 [2] (mkS 8 0 [(2, .hp 1 0)]) [.own (api_Rat.c x'), .own (api_Rat.c v6)] <| .ret ?_
  obtain rfl := Option.some.inj hr
  exact FinQ.r1 [.agg (api_Rat.c v6)]

theorem integer_Mul_inj {x' : api_Int} {y : api_Int} {x'_ : api_Int} {y_ : api_Int} (h : ([.agg [.at (.bool x'.Negative), slT (iC .u32) x'.Groups], .agg [.at (.bool y.Negative), slT (iC .u32) y.Groups]] : List AV) = [.agg [.at (.bool x'_.Negative), slT (iC .u32) x'_.Groups], .agg [.at (.bool y_.Negative), slT (iC .u32) y_.Groups]]) : x' = x'_ ∧ y = y_ := by
 obtain ⟨_, _⟩ := x'
 obtain ⟨_, _⟩ := x'_
 obtain ⟨_, _⟩ := y
 obtain ⟨_, _⟩ := y_
 simp only [List.cons.injEq, AV.agg.injEq, AV.at.injEq, Value.int.injEq, Value.bool.injEq, AV.fn.injEq, AV.pp.injEq, true_and, and_true, slT_inj_int] at h
 simp_all
theorem integer_Mul_ok (n : Nat) (x' : api_Int) (y : api_Int) (r : api_Int) (hr : integer_Mul n x' y = some r) : FnOk Tryz.prog 51 [.agg [.at (.bool x'.Negative), slT (iC .u32) x'.Groups], .agg [.at (.bool y.Negative), slT (iC .u32) y.Groups]] (.agg [.at (.bool r.Negative), slT (iC .u32) r.Groups]) := by
 unfold integer_Mul at hr
 refine FnOk.body fine Tryz.func51 (c := (Tryz.f51.body).getD .skip) rfl (s := mkS 16 0 [(0, .agg (api_Int.c x')), (1, .agg (api_Int.c y))]) (by kernel_rfl) (rs := [.cell 4 37]) rfl ?_
 unfold Tryz.f51
 simp only [Option.getD_some]
 refine .seq <| .rn fine [2, 3, 4] (mkS 16 0 [(2, .hp 0 0), (3, .hp 1 0), (4, .hp 2 0)]) [.own (api_Int.c x'), .own (api_Int.c y), .own [aB false, .at (.slice none 0 0)]] <| .seq ?_
 obtain ⟨v1, hc2, hr⟩ := bd hr
 obtain ⟨v3, hc4, hr⟩ := bd hr
 obtain ⟨v5, hc6, hr⟩ := bd hr
 obtain ⟨v7, hc8, hr⟩ := bd hr
 refine .regionT fine (callOf_cons (callOk_ref (H := [.own (api_Int.c x'), .own (api_Int.c y), .own [aB false, .at (.slice none 0 0)]]) (l := []) (SnL.cons (Sn.pure rfl) SnL.nil) (integer_groups_ok n x' v1 hc2)) (callOf_cons (callOk_ref (H := [.own (api_Int.c x'), .own (api_Int.c y), .own [aB false, .at (.slice none 0 0)]]) (l := []) (SnL.cons (Sn.pure rfl) SnL.nil) (integer_groups_ok n y v3 hc4)) (callOf_cons (callOk_ref (H := [.own (api_Int.c x'), .own (api_Int.c y), .own [aB false, .at (.slice none 0 0)]]) (l := []) (SnL.cons (Sn.pure rfl) (SnL.cons (Sn.pure rfl) SnL.nil)) (integer_times_ok n v1 v3 v5 hc6)) (callOf_cons (callOk_ref (H := [.own (api_Int.c x'), .own (api_Int.c y), .own [aB false, .at (.slice none 0 0)]]) (l := []) (SnL.cons (Sn.pure rfl) (SnL.cons (Sn.pure rfl) SnL.nil)) (integer_made_ok n (x'.Negative != y.Negative) v5 v7 hc8)) callOf_nil)))) <| .mu 6 <| .cal (by kernel_rfl) (by kernel_rfl) (callOf_at (by kernel_rfl)) (by kernel_rfl) <| .mu 1 <| .cal (by kernel_rfl) (by kernel_rfl) (callOf_skip (fun _ h => by obtain e0 := integer_groups_inj h; rw [show v3 = v1 from Option.some.inj (hc4.symm.trans ((show integer_groups n y = integer_groups n x' from (congr rfl e0)).trans hc2))]) (callOf_at (by kernel_rfl))) (by kernel_rfl) <| .cal (by kernel_rfl) (by kernel_rfl) (callOf_skip (fun h _ => absurd (show (99 : Nat) = 100 from h) (by decide)) (callOf_skip (fun h _ => absurd (show (99 : Nat) = 100 from h) (by decide)) (callOf_at (by kernel_rfl)))) (by kernel_rfl) <| .cal (by kernel_rfl) (by kernel_rfl) (callOf_skip (fun h _ => absurd (show (95 : Nat) = 100 from h) (by decide)) (callOf_skip (fun h _ => absurd (show (95 : Nat) = 100 from h) (by decide)) (callOf_skip (fun h _ => absurd (show (95 : Nat) = 99 from h) (by decide)) (callOf_at (by kernel_rfl))))) (by kernel_rfl) <| .mu 1 ?_
 refine .done ⟨by kernel_rfl, ?_⟩
 refine .n1 [4] (mkS 16 0 [(4, .hp 2 0)]) [.own (api_Int.c x'), .own (api_Int.c y), .own (api_Int.c v7)] <| .ret ?_
 obtain rfl := Option.some.inj hr
 exact FinQ.r1 [.agg (api_Int.c v7)]

theorem integer_at_inj {g : List Int} {i : Int} {g_ : List Int} {i_ : Int} (h : ([slT (iC .u32) g, .at (.int .i64 i)] : List AV) = [slT (iC .u32) g_, .at (.int .i64 i_)]) : g = g_ ∧ i = i_ := by
 simp only [List.cons.injEq, AV.agg.injEq, AV.at.injEq, Value.int.injEq, Value.bool.injEq, AV.fn.injEq, AV.pp.injEq, true_and, and_true, slT_inj_int] at h
 simp_all
theorem integer_at_ok (n : Nat) (g : List Int) (i : Int) (r : Int) (hr : integer_at n g i = some r) : FnOk Tryz.prog 197 [slT (iC .u32) g, .at (.int .i64 i)] (.at (.int .u32 r)) := by
 unfold integer_at at hr
 refine FnOk.body fine Tryz.func197 (c := (Tryz.f197.body).getD .skip) rfl (s := mkS 13 0 [(0, sU32 g), (1, aI64 i)]) (by kernel_rfl) (rs := [.tmp 4]) rfl ?_
 unfold Tryz.f197
 simp only [Option.getD_some]
 refine .seq <| .rn fine [0, 1] (mkS 13 0 [(0, sU32 g), (1, aI64 i)]) [] <| .seq <| .seq <| .rn fine [0, 1, 8] (mkS 13 0 [(0, sU32 g), (1, aI64 i), (8, aB (decide (i < (g.length : Int))))]) [] ?_
 refine .cond (t := decide (i < (g.length : Int))) (by kernel_rfl) (fun hb1 => ?_) (fun hb1 => ?_)
 ·replace hr := cd_t hb1 hr
  refine .seq ?_
  obtain ⟨hg2, hr⟩ := gd hr
  refine .r0 fine <| .mu 2 <| .p0 (v := .pp (g.flatMap (iC .u32)) (i.toNat * 1)) (Eq.trans (b := ORes.ofP (guardV (inR i g.length) (.pp (g.flatMap (iC .u32)) (i.toNat * 1)))) (by kernel_rfl) (ofP_guard hg2)) <| .p0 (v := aU32 (gt g i)) (Eq.trans (b := ORes.ofP ((g.flatMap (iC .u32))[i.toNat * 1]?)) (by kernel_rfl) (ofP_some (flat_get (iC_len _) (inR_lt hg2) (by decide : 0 < 1) (by omega : i.toNat * 1 = i.toNat * 1 + 0) (by kernel_rfl)))) <| .mu 1 <| .done <| .ret ?_
  obtain rfl := Option.some.inj hr
  exact FinQ.r1 [aU32 (gt g i)]
 ·replace hr := cd_f hb1 hr
  refine .skip <| .seq <| .ru fine <| .ret ?_
  obtain rfl := Option.some.inj hr
  exact FinQ.r1 [aU32 0]

theorem integer_plus_ok (n : Nat) (a : List Int) (b : List Int) (r : List Int) (hr : integer_plus n a b = some r) : FnOk Tryz.prog 171 [slT (iC .u32) a, slT (iC .u32) b] (slT (iC .u32) r) := by
 unfold integer_plus at hr
 refine FnOk.body fine Tryz.func171 (c := (Tryz.f171.body).getD .skip) rfl (s := mkS 41 0 [(0, sU32 a), (1, sU32 b)]) (by kernel_rfl) (rs := [.tmp 4]) rfl ?_
 unfold Tryz.f171
 simp only [Option.getD_some]
 refine .seq <| .rn fine [0, 1] (mkS 41 0 [(0, sU32 a), (1, sU32 b)]) [] <| .seq ?_
 obtain ⟨hg1, hr⟩ := gd hr
 obtain ⟨hg2, hr⟩ := gd hr
 obtain ⟨hg3, hr⟩ := gd hr
 refine .r0 fine <| .mu 6 <| .e0 (v := .hs 0 0 (List.replicate (wrapF .i64 ((mx (a.length : Int) (b.length : Int)) + 1)).toNat (0 : Int)).length 1) (ws := [(0, .own ((List.replicate (wrapF .i64 ((mx (a.length : Int) (b.length : Int)) + 1)).toNat (0 : Int)).flatMap (iC .u32)))]) (Eq.trans (b := guardO (decide (0 ≤ (wrapF .i64 ((mx (a.length : Int) (b.length : Int)) + 1))) && decide ((wrapF .i64 ((mx (a.length : Int) (b.length : Int)) + 1)) ≤ (wrapF .i64 ((mx (a.length : Int) (b.length : Int)) + 1))) && decide ((4 : Int) * (wrapF .i64 ((mx (a.length : Int) (b.length : Int)) + 1)) ≤ 281474976710656) && decide ((wrapF .i64 ((mx (a.length : Int) (b.length : Int)) + 1)) ≤ 9223372036854775807) && true && true && true) (some (.eff (.hs 0 0 (wrapF .i64 ((mx (a.length : Int) (b.length : Int)) + 1)).toNat 1) [(0, .own (zerosA [aU32 0] (wrapF .i64 ((mx (a.length : Int) (b.length : Int)) + 1)).toNat))]))) (by kernel_rfl) (make_own (c := (iC .u32)) (z := 0) rfl hg1 hg2 hg3)) <| .mu 1 <| .done <| .n1 [0, 1, 5] (mkS 41 0 [(0, sU32 a), (1, sU32 b), (5, .hs 0 0 (List.replicate (wrapF .i64 ((mx (a.length : Int) (b.length : Int)) + 1)).toNat (0 : Int)).length 1)]) [.own ((List.replicate (wrapF .i64 ((mx (a.length : Int) (b.length : Int)) + 1)).toNat (0 : Int)).flatMap (iC .u32))] <| .seq <| .rn fine [0, 1, 5, 6] (mkS 41 0 [(0, sU32 a), (1, sU32 b), (5, .hs 0 0 (List.replicate (wrapF .i64 ((mx (a.length : Int) (b.length : Int)) + 1)).toNat (0 : Int)).length 1), (6, aU32 0)]) [.own ((List.replicate (wrapF .i64 ((mx (a.length : Int) (b.length : Int)) + 1)).toNat (0 : Int)).flatMap (iC .u32))] <| .seq <| .seq <| .rn fine [0, 1, 5, 6, 17, 18] (mkS 41 0 [(0, sU32 a), (1, sU32 b), (5, .hs 0 0 (List.replicate (wrapF .i64 ((mx (a.length : Int) (b.length : Int)) + 1)).toNat (0 : Int)).length 1), (6, aU32 0), (17, aI64 ((List.replicate (wrapF .i64 ((mx (a.length : Int) (b.length : Int)) + 1)).toNat (0 : Int)).length : Int)), (18, aI64 0)]) [.own ((List.replicate (wrapF .i64 ((mx (a.length : Int) (b.length : Int)) + 1)).toNat (0 : Int)).flatMap (iC .u32))] <| .block ?_
 replace hr := bd hr; obtain ⟨out_15, hL26, hr⟩ := hr
 refine .loopO (σ := fun z0 => match z0 with | (out_4, carry_5, x_6) => ⟨mkS 41 0 [(0, sU32 a), (1, sU32 b), (5, .hs 0 0 out_4.length 1), (6, aU32 carry_5), (17, aI64 ((List.replicate (wrapF .i64 ((mx (a.length : Int) (b.length : Int)) + 1)).toNat (0 : Int)).length : Int)), (18, aI64 x_6)], [.own (out_4.flatMap (iC .u32))]⟩) (Q := fun x st' => x = .exit 0 ∧ Wk 0 st' ⟨mkS 41 0 [(5, .hs 0 0 out_15.length 1)], [.own (out_15.flatMap (iC .u32))]⟩) hL26 ((Wk.gc [0, 1, 5, 6, 17, 18] [(0, false)] rfl (pKo (iC .u32) (iC_pure _) (List.replicate (wrapF .i64 ((mx (a.length : Int) (b.length : Int)) + 1)).toNat (0 : Int)) trivial)).to (by kernel_rfl)) ?_ ?_
 ·clear hr
  rintro m ⟨out_4, carry_5, x_6⟩ hr
  show CQ _ _ _ _ _ ⟨_, _⟩
  refine .seq <| .rn fine [0, 1, 5, 6, 17, 18, 19] (mkS 41 0 [(0, sU32 a), (1, sU32 b), (5, .hs 0 0 out_4.length 1), (6, aU32 carry_5), (17, aI64 ((List.replicate (wrapF .i64 ((mx (a.length : Int) (b.length : Int)) + 1)).toNat (0 : Int)).length : Int)), (18, aI64 x_6), (19, aB (decide (x_6 < ((List.replicate (wrapF .i64 ((mx (a.length : Int) (b.length : Int)) + 1)).toNat (0 : Int)).length : Int))))]) [.own (out_4.flatMap (iC .u32))] <| .seq ?_
  refine .cond (t := decide (x_6 < ((List.replicate (wrapF .i64 ((mx (a.length : Int) (b.length : Int)) + 1)).toNat (0 : Int)).length : Int))) (by kernel_rfl) (fun hb17 => ?_) (fun hb17 => ?_)
  ·replace hr := cd_t hb17 hr
   refine .skip <| .seq <| .block <| .seq <| .rn fine [0, 1, 5, 6, 7, 17, 18] (mkS 41 0 [(0, sU32 a), (1, sU32 b), (5, .hs 0 0 out_4.length 1), (6, aU32 carry_5), (7, aI64 x_6), (17, aI64 ((List.replicate (wrapF .i64 ((mx (a.length : Int) (b.length : Int)) + 1)).toNat (0 : Int)).length : Int)), (18, aI64 x_6)]) [.own (out_4.flatMap (iC .u32))] <| .seq ?_
   obtain ⟨v18, hc19, hr⟩ := bd hr
   obtain ⟨v20, hc21, hr⟩ := bd hr
   refine .region fine (callOf_cons (callOk_val (H := [.own (out_4.flatMap (iC .u32))]) (l := []) rfl (SnL.cons (Sn.pure rfl) (SnL.cons (Sn.pure rfl) SnL.nil)) (integer_at_ok n a x_6 v18 hc19)) (callOf_cons (callOk_val (H := [.own (out_4.flatMap (iC .u32))]) (l := []) rfl (SnL.cons (Sn.pure rfl) (SnL.cons (Sn.pure rfl) SnL.nil)) (integer_at_ok n b x_6 v20 hc21)) callOf_nil)) <| .mu 2 <| .c0 (by kernel_rfl) (callOf_at (by kernel_rfl)) <| .mu 2 <| .c0 (by kernel_rfl) (callOf_skip (fun _ h => by obtain ⟨e0, e1⟩ := integer_at_inj h; rw [show v20 = v18 from Option.some.inj (hc21.symm.trans ((show integer_at n b x_6 = integer_at n a x_6 from (congr (congr rfl e0) e1)).trans hc19))]) (callOf_at (by kernel_rfl))) <| .mu 4 <| .done <| .n1 [0, 1, 5, 7, 8, 17, 18] (mkS 41 0 [(0, sU32 a), (1, sU32 b), (5, .hs 0 0 out_4.length 1), (7, aI64 x_6), (8, aU32 (wrapF .u32 ((wrapF .u32 (v18 + v20)) + carry_5))), (17, aI64 ((List.replicate (wrapF .i64 ((mx (a.length : Int) (b.length : Int)) + 1)).toNat (0 : Int)).length : Int)), (18, aI64 x_6)]) [.own (out_4.flatMap (iC .u32))] <| .seq <| .rn fine [0, 1, 5, 6, 7, 8, 17, 18] (mkS 41 0 [(0, sU32 a), (1, sU32 b), (5, .hs 0 0 out_4.length 1), (6, aU32 0), (7, aI64 x_6), (8, aU32 (wrapF .u32 ((wrapF .u32 (v18 + v20)) + carry_5))), (17, aI64 ((List.replicate (wrapF .i64 ((mx (a.length : Int) (b.length : Int)) + 1)).toNat (0 : Int)).length : Int)), (18, aI64 x_6)]) [.own (out_4.flatMap (iC .u32))] <| .seq <| .seq <| .rn fine [0, 1, 5, 6, 7, 8, 17, 18, 31] (mkS 41 0 [(0, sU32 a), (1, sU32 b), (5, .hs 0 0 out_4.length 1), (6, aU32 0), (7, aI64 x_6), (8, aU32 (wrapF .u32 ((wrapF .u32 (v18 + v20)) + carry_5))), (17, aI64 ((List.replicate (wrapF .i64 ((mx (a.length : Int) (b.length : Int)) + 1)).toNat (0 : Int)).length : Int)), (18, aI64 x_6), (31, aB (decide ((wrapF .u32 ((wrapF .u32 (v18 + v20)) + carry_5)) ≥ 1000000000)))]) [.own (out_4.flatMap (iC .u32))] ?_
   refine .cond (t := decide ((wrapF .u32 ((wrapF .u32 (v18 + v20)) + carry_5)) ≥ 1000000000)) (by kernel_rfl) (fun hb22 => ?_) (fun hb22 => ?_)
   ·replace hr := cd_t hb22 hr
    refine .rn fine [0, 1, 5, 6, 7, 8, 17, 18] (mkS 41 0 [(0, sU32 a), (1, sU32 b), (5, .hs 0 0 out_4.length 1), (6, aU32 1), (7, aI64 x_6), (8, aU32 (wrapF .u32 ((wrapF .u32 ((wrapF .u32 (v18 + v20)) + carry_5)) - 1000000000))), (17, aI64 ((List.replicate (wrapF .i64 ((mx (a.length : Int) (b.length : Int)) + 1)).toNat (0 : Int)).length : Int)), (18, aI64 x_6)]) [.own (out_4.flatMap (iC .u32))] ?_
    obtain ⟨hg23, hr⟩ := gd hr
    refine .r0 fine <| .mu 3 <| .p0 (v := .hp 0 (0 + x_6.toNat * 1)) (Eq.trans (b := ORes.ofP (guardV (inR x_6 out_4.length) (.hp 0 (0 + x_6.toNat * 1)))) (by kernel_rfl) (ofP_guard hg23)) <| .e0 (v := .unk) (ws := [(0, .own ((out_4.set x_6.toNat (wrapF .u32 ((wrapF .u32 ((wrapF .u32 (v18 + v20)) + carry_5)) - 1000000000))).flatMap (iC .u32)))]) (Eq.trans (b := stO (decide ((0 + x_6.toNat * 1) + 1 ≤ (out_4.flatMap (iC .u32)).length) && true) [(0, .own (setCells (out_4.flatMap (iC .u32)) (0 + x_6.toNat * 1) [aU32 (wrapF .u32 ((wrapF .u32 ((wrapF .u32 (v18 + v20)) + carry_5)) - 1000000000))]))]) (by kernel_rfl) (stO_t (and_t (flat_fits (iC_len _) (inR_lt hg23) (Nat.le_of_ble_eq_true rfl) (by omega : 0 + x_6.toNat * 1 = x_6.toNat * 1 + 0))) (congrArg Blk.own (flat_set (iC_len _) (inR_lt hg23) (Nat.le_of_ble_eq_true rfl) (by omega : 0 + x_6.toNat * 1 = x_6.toNat * 1 + 0) (by kernel_rfl))))) <| .done <| .pop <| .ru fine ?_
    exact loopF_back (out_4.set x_6.toNat (wrapF .u32 ((wrapF .u32 ((wrapF .u32 (v18 + v20)) + carry_5)) - 1000000000)), 1, wrapF .i64 (x_6 + 1)) hr ((Wk.relen 5 (b := 0) (es := 1) (len := out_4.length) (out_4.set x_6.toNat (wrapF .u32 ((wrapF .u32 ((wrapF .u32 (v18 + v20)) + carry_5)) - 1000000000))).length (by kernel_rfl) (by simp)).trans ((Wk.gc [0, 1, 5, 6, 17, 18] [(0, false)] rfl (pKo (iC .u32) (iC_pure _) (out_4.set x_6.toNat (wrapF .u32 ((wrapF .u32 ((wrapF .u32 (v18 + v20)) + carry_5)) - 1000000000))) trivial)).to (by kernel_rfl)))
   ·replace hr := cd_f hb22 hr
    refine .skip ?_
    obtain ⟨hg24, hr⟩ := gd hr
    refine .r0 fine <| .mu 3 <| .p0 (v := .hp 0 (0 + x_6.toNat * 1)) (Eq.trans (b := ORes.ofP (guardV (inR x_6 out_4.length) (.hp 0 (0 + x_6.toNat * 1)))) (by kernel_rfl) (ofP_guard hg24)) <| .e0 (v := .unk) (ws := [(0, .own ((out_4.set x_6.toNat (wrapF .u32 ((wrapF .u32 (v18 + v20)) + carry_5))).flatMap (iC .u32)))]) (Eq.trans (b := stO (decide ((0 + x_6.toNat * 1) + 1 ≤ (out_4.flatMap (iC .u32)).length) && true) [(0, .own (setCells (out_4.flatMap (iC .u32)) (0 + x_6.toNat * 1) [aU32 (wrapF .u32 ((wrapF .u32 (v18 + v20)) + carry_5))]))]) (by kernel_rfl) (stO_t (and_t (flat_fits (iC_len _) (inR_lt hg24) (Nat.le_of_ble_eq_true rfl) (by omega : 0 + x_6.toNat * 1 = x_6.toNat * 1 + 0))) (congrArg Blk.own (flat_set (iC_len _) (inR_lt hg24) (Nat.le_of_ble_eq_true rfl) (by omega : 0 + x_6.toNat * 1 = x_6.toNat * 1 + 0) (by kernel_rfl))))) <| .done <| .pop <| .ru fine ?_
    exact loopF_back (out_4.set x_6.toNat (wrapF .u32 ((wrapF .u32 (v18 + v20)) + carry_5)), 0, wrapF .i64 (x_6 + 1)) hr ((Wk.relen 5 (b := 0) (es := 1) (len := out_4.length) (out_4.set x_6.toNat (wrapF .u32 ((wrapF .u32 (v18 + v20)) + carry_5))).length (by kernel_rfl) (by simp)).trans ((Wk.gc [0, 1, 5, 6, 17, 18] [(0, false)] rfl (pKo (iC .u32) (iC_pure _) (out_4.set x_6.toNat (wrapF .u32 ((wrapF .u32 (v18 + v20)) + carry_5))) trivial)).to (by kernel_rfl)))
  ·replace hr := cd_f hb17 hr
   refine .leave rfl ?_
   obtain rfl := Option.some.inj hr
   exact ⟨rfl, ((Wk.gc [5] [(0, false)] rfl (pKo (iC .u32) (iC_pure _) out_4 trivial)).to (by kernel_rfl))⟩
 ·rintro x st' hq27
  clear hL26
  obtain ⟨rfl, hq27⟩ := hq27
  refine CQ_exit _ rfl <| .wk hq27 <| .seq ?_
  obtain ⟨v28, hc29, hr⟩ := bd hr
  refine .g1 fine (callOk_ref (args := [.hs 0 0 out_15.length 1]) (l := [0]) (SnL.cons (Sn.hs rfl (.inl rfl) (SnC.pure (ids_flat (iC_pure _) _)) (fun h => flat_nil0 h)) SnL.nil) (integer_trim_ok n out_15 v28 hc29)) <| .mu 1 <| .c0 (by kernel_rfl) (callOf_at (by kernel_rfl)) <| .mu 1 <| .done <| .ret ?_
  obtain rfl := Option.some.inj hr
  exact FinQ.r1 [sU32 v28]

theorem integer_minus_ok (n : Nat) (a : List Int) (b : List Int) (r : List Int) (hr : integer_minus n a b = some r) : FnOk Tryz.prog 173 [slT (iC .u32) a, slT (iC .u32) b] (slT (iC .u32) r) := by
 unfold integer_minus at hr
 refine FnOk.body fine Tryz.func173 (c := (Tryz.f173.body).getD .skip) rfl (s := mkS 50 0 [(0, sU32 a), (1, sU32 b)]) (by kernel_rfl) (rs := [.tmp 4]) rfl ?_
 unfold Tryz.f173
 simp only [Option.getD_some]
 refine .seq <| .rn fine [0, 1] (mkS 50 0 [(0, sU32 a), (1, sU32 b)]) [] <| .seq ?_
 obtain ⟨hg1, hr⟩ := gd hr
 obtain ⟨hg2, hr⟩ := gd hr
 obtain ⟨hg3, hr⟩ := gd hr
 refine .r0 fine <| .mu 2 <| .e0 (v := .hs 0 0 (List.replicate (a.length : Int).toNat (0 : Int)).length 1) (ws := [(0, .own ((List.replicate (a.length : Int).toNat (0 : Int)).flatMap (iC .u32)))]) (Eq.trans (b := guardO (decide (0 ≤ (a.length : Int)) && decide ((a.length : Int) ≤ (a.length : Int)) && decide ((4 : Int) * (a.length : Int) ≤ 281474976710656) && decide ((a.length : Int) ≤ 9223372036854775807) && true && true && true) (some (.eff (.hs 0 0 (a.length : Int).toNat 1) [(0, .own (zerosA [aU32 0] (a.length : Int).toNat))]))) (by kernel_rfl) (make_own (c := (iC .u32)) (z := 0) rfl hg1 hg2 hg3)) <| .mu 1 <| .done <| .n1 [0, 1, 5] (mkS 50 0 [(0, sU32 a), (1, sU32 b), (5, .hs 0 0 (List.replicate (a.length : Int).toNat (0 : Int)).length 1)]) [.own ((List.replicate (a.length : Int).toNat (0 : Int)).flatMap (iC .u32))] <| .seq <| .rn fine [0, 1, 5, 6] (mkS 50 0 [(0, sU32 a), (1, sU32 b), (5, .hs 0 0 (List.replicate (a.length : Int).toNat (0 : Int)).length 1), (6, aU32 0)]) [.own ((List.replicate (a.length : Int).toNat (0 : Int)).flatMap (iC .u32))] <| .seq <| .seq <| .rn fine [0, 1, 5, 6, 13, 14] (mkS 50 0 [(0, sU32 a), (1, sU32 b), (5, .hs 0 0 (List.replicate (a.length : Int).toNat (0 : Int)).length 1), (6, aU32 0), (13, aI64 ((List.replicate (a.length : Int).toNat (0 : Int)).length : Int)), (14, aI64 0)]) [.own ((List.replicate (a.length : Int).toNat (0 : Int)).flatMap (iC .u32))] <| .block ?_
 replace hr := bd hr; obtain ⟨out_14, hL24, hr⟩ := hr
 refine .loopO (σ := fun z0 => match z0 with | (out_4, borrow_5, x_6) => ⟨mkS 50 0 [(0, sU32 a), (1, sU32 b), (5, .hs 0 0 out_4.length 1), (6, aU32 borrow_5), (13, aI64 ((List.replicate (a.length : Int).toNat (0 : Int)).length : Int)), (14, aI64 x_6)], [.own (out_4.flatMap (iC .u32))]⟩) (Q := fun x st' => x = .exit 0 ∧ Wk 0 st' ⟨mkS 50 0 [(5, .hs 0 0 out_14.length 1)], [.own (out_14.flatMap (iC .u32))]⟩) hL24 ((Wk.gc [0, 1, 5, 6, 13, 14] [(0, false)] rfl (pKo (iC .u32) (iC_pure _) (List.replicate (a.length : Int).toNat (0 : Int)) trivial)).to (by kernel_rfl)) ?_ ?_
 ·clear hr
  rintro m ⟨out_4, borrow_5, x_6⟩ hr
  show CQ _ _ _ _ _ ⟨_, _⟩
  refine .seq <| .rn fine [0, 1, 5, 6, 13, 14, 15] (mkS 50 0 [(0, sU32 a), (1, sU32 b), (5, .hs 0 0 out_4.length 1), (6, aU32 borrow_5), (13, aI64 ((List.replicate (a.length : Int).toNat (0 : Int)).length : Int)), (14, aI64 x_6), (15, aB (decide (x_6 < ((List.replicate (a.length : Int).toNat (0 : Int)).length : Int))))]) [.own (out_4.flatMap (iC .u32))] <| .seq ?_
  refine .cond (t := decide (x_6 < ((List.replicate (a.length : Int).toNat (0 : Int)).length : Int))) (by kernel_rfl) (fun hb16 => ?_) (fun hb16 => ?_)
  ·replace hr := cd_t hb16 hr
   refine .skip <| .seq <| .block <| .seq <| .rn fine [0, 1, 5, 6, 7, 13, 14] (mkS 50 0 [(0, sU32 a), (1, sU32 b), (5, .hs 0 0 out_4.length 1), (6, aU32 borrow_5), (7, aI64 x_6), (13, aI64 ((List.replicate (a.length : Int).toNat (0 : Int)).length : Int)), (14, aI64 x_6)]) [.own (out_4.flatMap (iC .u32))] <| .seq ?_
   obtain ⟨v17, hc18, hr⟩ := bd hr
   refine .g1 fine (callOk_val (l := []) rfl (SnL.cons (Sn.pure rfl) (SnL.cons (Sn.pure rfl) SnL.nil)) (integer_at_ok n b x_6 v17 hc18)) <| .mu 2 <| .c0 (by kernel_rfl) (callOf_at (by kernel_rfl)) <| .mu 3 <| .done <| .n1 [0, 1, 5, 7, 8, 13, 14] (mkS 50 0 [(0, sU32 a), (1, sU32 b), (5, .hs 0 0 out_4.length 1), (7, aI64 x_6), (8, aU32 (wrapF .u32 (v17 + borrow_5))), (13, aI64 ((List.replicate (a.length : Int).toNat (0 : Int)).length : Int)), (14, aI64 x_6)]) [.own (out_4.flatMap (iC .u32))] <| .seq <| .rn fine [0, 1, 5, 6, 7, 8, 13, 14] (mkS 50 0 [(0, sU32 a), (1, sU32 b), (5, .hs 0 0 out_4.length 1), (6, aU32 0), (7, aI64 x_6), (8, aU32 (wrapF .u32 (v17 + borrow_5))), (13, aI64 ((List.replicate (a.length : Int).toNat (0 : Int)).length : Int)), (14, aI64 x_6)]) [.own (out_4.flatMap (iC .u32))] <| .seq ?_
   obtain ⟨hg19, hr⟩ := gd hr
   refine .r0 fine <| .mu 2 <| .p0 (v := .pp (a.flatMap (iC .u32)) (x_6.toNat * 1)) (Eq.trans (b := ORes.ofP (guardV (inR x_6 a.length) (.pp (a.flatMap (iC .u32)) (x_6.toNat * 1)))) (by kernel_rfl) (ofP_guard hg19)) <| .p0 (v := aU32 (gt a x_6)) (Eq.trans (b := ORes.ofP ((a.flatMap (iC .u32))[x_6.toNat * 1]?)) (by kernel_rfl) (ofP_some (flat_get (iC_len _) (inR_lt hg19) (by decide : 0 < 1) (by omega : x_6.toNat * 1 = x_6.toNat * 1 + 0) (by kernel_rfl)))) <| .mu 2 <| .done <| .n1 [0, 1, 5, 6, 7, 8, 13, 14, 27] (mkS 50 0 [(0, sU32 a), (1, sU32 b), (5, .hs 0 0 out_4.length 1), (6, aU32 0), (7, aI64 x_6), (8, aU32 (wrapF .u32 (v17 + borrow_5))), (13, aI64 ((List.replicate (a.length : Int).toNat (0 : Int)).length : Int)), (14, aI64 x_6), (27, aB (decide ((gt a x_6) < (wrapF .u32 (v17 + borrow_5)))))]) [.own (out_4.flatMap (iC .u32))] ?_
   refine .cond (t := decide ((gt a x_6) < (wrapF .u32 (v17 + borrow_5)))) (by kernel_rfl) (fun hb20 => ?_) (fun hb20 => ?_)
   ·replace hr := cd_t hb20 hr
    obtain ⟨hg21, hr⟩ := gd hr
    refine .r0 fine <| .mu 4 <| .p0 (v := .pp (a.flatMap (iC .u32)) (x_6.toNat * 1)) (Eq.trans (b := ORes.ofP (guardV (inR x_6 a.length) (.pp (a.flatMap (iC .u32)) (x_6.toNat * 1)))) (by kernel_rfl) (ofP_guard hg19)) <| .p0 (v := aU32 (gt a x_6)) (Eq.trans (b := ORes.ofP ((a.flatMap (iC .u32))[x_6.toNat * 1]?)) (by kernel_rfl) (ofP_some (flat_get (iC_len _) (inR_lt hg19) (by decide : 0 < 1) (by omega : x_6.toNat * 1 = x_6.toNat * 1 + 0) (by kernel_rfl)))) <| .mu 3 <| .p0 (v := .hp 0 (0 + x_6.toNat * 1)) (Eq.trans (b := ORes.ofP (guardV (inR x_6 out_4.length) (.hp 0 (0 + x_6.toNat * 1)))) (by kernel_rfl) (ofP_guard hg21)) <| .e0 (v := .unk) (ws := [(0, .own ((out_4.set x_6.toNat (wrapF .u32 ((wrapF .u32 ((gt a x_6) + 1000000000)) - (wrapF .u32 (v17 + borrow_5))))).flatMap (iC .u32)))]) (Eq.trans (b := stO (decide ((0 + x_6.toNat * 1) + 1 ≤ (out_4.flatMap (iC .u32)).length) && true) [(0, .own (setCells (out_4.flatMap (iC .u32)) (0 + x_6.toNat * 1) [aU32 (wrapF .u32 ((wrapF .u32 ((gt a x_6) + 1000000000)) - (wrapF .u32 (v17 + borrow_5))))]))]) (by kernel_rfl) (stO_t (and_t (flat_fits (iC_len _) (inR_lt hg21) (Nat.le_of_ble_eq_true rfl) (by omega : 0 + x_6.toNat * 1 = x_6.toNat * 1 + 0))) (congrArg Blk.own (flat_set (iC_len _) (inR_lt hg21) (Nat.le_of_ble_eq_true rfl) (by omega : 0 + x_6.toNat * 1 = x_6.toNat * 1 + 0) (by kernel_rfl))))) <| .mu 1 <| .done <| .pop <| .ru fine ?_
    exact loopF_back (out_4.set x_6.toNat (wrapF .u32 ((wrapF .u32 ((gt a x_6) + 1000000000)) - (wrapF .u32 (v17 + borrow_5)))), 1, wrapF .i64 (x_6 + 1)) hr ((Wk.relen 5 (b := 0) (es := 1) (len := out_4.length) (out_4.set x_6.toNat (wrapF .u32 ((wrapF .u32 ((gt a x_6) + 1000000000)) - (wrapF .u32 (v17 + borrow_5))))).length (by kernel_rfl) (by simp)).trans ((Wk.gc [0, 1, 5, 6, 13, 14] [(0, false)] rfl (pKo (iC .u32) (iC_pure _) (out_4.set x_6.toNat (wrapF .u32 ((wrapF .u32 ((gt a x_6) + 1000000000)) - (wrapF .u32 (v17 + borrow_5))))) trivial)).to (by kernel_rfl)))
   ·replace hr := cd_f hb20 hr
    obtain ⟨hg22, hr⟩ := gd hr
    refine .r0 fine <| .mu 4 <| .p0 (v := .pp (a.flatMap (iC .u32)) (x_6.toNat * 1)) (Eq.trans (b := ORes.ofP (guardV (inR x_6 a.length) (.pp (a.flatMap (iC .u32)) (x_6.toNat * 1)))) (by kernel_rfl) (ofP_guard hg19)) <| .p0 (v := aU32 (gt a x_6)) (Eq.trans (b := ORes.ofP ((a.flatMap (iC .u32))[x_6.toNat * 1]?)) (by kernel_rfl) (ofP_some (flat_get (iC_len _) (inR_lt hg19) (by decide : 0 < 1) (by omega : x_6.toNat * 1 = x_6.toNat * 1 + 0) (by kernel_rfl)))) <| .mu 2 <| .p0 (v := .hp 0 (0 + x_6.toNat * 1)) (Eq.trans (b := ORes.ofP (guardV (inR x_6 out_4.length) (.hp 0 (0 + x_6.toNat * 1)))) (by kernel_rfl) (ofP_guard hg22)) <| .e0 (v := .unk) (ws := [(0, .own ((out_4.set x_6.toNat (wrapF .u32 ((gt a x_6) - (wrapF .u32 (v17 + borrow_5))))).flatMap (iC .u32)))]) (Eq.trans (b := stO (decide ((0 + x_6.toNat * 1) + 1 ≤ (out_4.flatMap (iC .u32)).length) && true) [(0, .own (setCells (out_4.flatMap (iC .u32)) (0 + x_6.toNat * 1) [aU32 (wrapF .u32 ((gt a x_6) - (wrapF .u32 (v17 + borrow_5))))]))]) (by kernel_rfl) (stO_t (and_t (flat_fits (iC_len _) (inR_lt hg22) (Nat.le_of_ble_eq_true rfl) (by omega : 0 + x_6.toNat * 1 = x_6.toNat * 1 + 0))) (congrArg Blk.own (flat_set (iC_len _) (inR_lt hg22) (Nat.le_of_ble_eq_true rfl) (by omega : 0 + x_6.toNat * 1 = x_6.toNat * 1 + 0) (by kernel_rfl))))) <| .done <| .pop <| .ru fine ?_
    exact loopF_back (out_4.set x_6.toNat (wrapF .u32 ((gt a x_6) - (wrapF .u32 (v17 + borrow_5)))), 0, wrapF .i64 (x_6 + 1)) hr ((Wk.relen 5 (b := 0) (es := 1) (len := out_4.length) (out_4.set x_6.toNat (wrapF .u32 ((gt a x_6) - (wrapF .u32 (v17 + borrow_5))))).length (by kernel_rfl) (by simp)).trans ((Wk.gc [0, 1, 5, 6, 13, 14] [(0, false)] rfl (pKo (iC .u32) (iC_pure _) (out_4.set x_6.toNat (wrapF .u32 ((gt a x_6) - (wrapF .u32 (v17 + borrow_5))))) trivial)).to (by kernel_rfl)))
  ·replace hr := cd_f hb16 hr
   refine .leave rfl ?_
   obtain rfl := Option.some.inj hr
   exact ⟨rfl, ((Wk.gc [5] [(0, false)] rfl (pKo (iC .u32) (iC_pure _) out_4 trivial)).to (by kernel_rfl))⟩
 ·rintro x st' hq25
  clear hL24
  obtain ⟨rfl, hq25⟩ := hq25
  refine CQ_exit _ rfl <| .wk hq25 <| .seq ?_
  obtain ⟨v26, hc27, hr⟩ := bd hr
  refine .g1 fine (callOk_ref (args := [.hs 0 0 out_14.length 1]) (l := [0]) (SnL.cons (Sn.hs rfl (.inl rfl) (SnC.pure (ids_flat (iC_pure _) _)) (fun h => flat_nil0 h)) SnL.nil) (integer_trim_ok n out_14 v26 hc27)) <| .mu 1 <| .c0 (by kernel_rfl) (callOf_at (by kernel_rfl)) <| .mu 1 <| .done <| .ret ?_
  obtain rfl := Option.some.inj hr
  exact FinQ.r1 [sU32 v26]

theorem integer_Divide_ok (n : Nat) (x' : api_Int) (y : api_Int) (r : api_Int × api_Int × Int) (hr : integer_Divide n x' y = some r) : FnOk Tryz.prog 135 [.agg [.at (.bool x'.Negative), slT (iC .u32) x'.Groups], .agg [.at (.bool y.Negative), slT (iC .u32) y.Groups]] (.tup [.agg [.at (.bool r.1.Negative), slT (iC .u32) r.1.Groups], .agg [.at (.bool r.2.1.Negative), slT (iC .u32) r.2.1.Groups], .at (.int .i64 r.2.2)]) := by
 unfold integer_Divide at hr
 refine FnOk.body fine Tryz.func135 (c := (Tryz.f135.body).getD .skip) rfl (s := mkS 55 0 [(0, .agg (api_Int.c x')), (1, .agg (api_Int.c y))]) (by kernel_rfl) (rs := [.cell 4 37, .cell 5 37, .tmp 6]) rfl ?_
 unfold Tryz.f135
 simp only [Option.getD_some]
 refine .seq <| .rn fine [2, 3, 4, 5] (mkS 55 0 [(2, .hp 0 0), (3, .hp 1 0), (4, .hp 2 0), (5, .hp 3 0)]) [.own (api_Int.c x'), .own (api_Int.c y), .own [aB false, .at (.slice none 0 0)], .own [aB false, .at (.slice none 0 0)]] <| .seq ?_
 obtain ⟨v1, hc2, hr⟩ := bd hr
 obtain ⟨v3, hc4, hr⟩ := bd hr
 refine .regionT fine (callOf_cons (callOk_ref (H := [.own (api_Int.c x'), .own (api_Int.c y), .own [aB false, .at (.slice none 0 0)], .own [aB false, .at (.slice none 0 0)]]) (l := []) (SnL.cons (Sn.pure rfl) SnL.nil) (integer_groups_ok n x' v1 hc2)) (callOf_cons (callOk_ref (H := [.own (api_Int.c x'), .own (api_Int.c y), .own [aB false, .at (.slice none 0 0)], .own [aB false, .at (.slice none 0 0)]]) (l := []) (SnL.cons (Sn.pure rfl) SnL.nil) (integer_groups_ok n y v3 hc4)) callOf_nil)) <| .mu 1 <| .cal (by kernel_rfl) (by kernel_rfl) (callOf_at (by kernel_rfl)) (by kernel_rfl) <| .mu 1 <| .cal (by kernel_rfl) (by kernel_rfl) (callOf_skip (fun _ h => by obtain e0 := integer_groups_inj h; rw [show v3 = v1 from Option.some.inj (hc4.symm.trans ((show integer_groups n y = integer_groups n x' from (congr rfl e0)).trans hc2))]) (callOf_at (by kernel_rfl))) (by kernel_rfl) <| .mu 2 ?_
 refine .done ⟨by kernel_rfl, ?_⟩
 refine .n1 [2, 3, 4, 5, 7, 8] (mkS 55 0 [(2, .hp 0 0), (3, .hp 1 0), (4, .hp 2 0), (5, .hp 3 0), (7, sU32 v1), (8, sU32 v3)]) [.own (api_Int.c x'), .own (api_Int.c y), .own [aB false, .at (.slice none 0 0)], .own [aB false, .at (.slice none 0 0)]] <| .seq <| .seq <| .rn fine [2, 3, 4, 5, 7, 8, 17] (mkS 55 0 [(2, .hp 0 0), (3, .hp 1 0), (4, .hp 2 0), (5, .hp 3 0), (7, sU32 v1), (8, sU32 v3), (17, aB (((v3.length : Int) : Int) == 0))]) [.own (api_Int.c x'), .own (api_Int.c y), .own [aB false, .at (.slice none 0 0)], .own [aB false, .at (.slice none 0 0)]] ?_
 refine .cond (t := ((v3.length : Int) : Int) == 0) (by kernel_rfl) (fun hb5 => ?_) (fun hb5 => ?_)
 ·replace hr := cd_t hb5 hr
  refine .seq <| .rn fine [4, 5, 6] (mkS 55 0 [(4, .hp 2 0), (5, .hp 3 0), (6, aI64 14)]) [.own (api_Int.c x'), .own (api_Int.c y), .own [aB false, .at (.slice none 0 0)], .own [aB false, .at (.slice none 0 0)]] <| .ret ?_
  obtain rfl := Option.some.inj hr
  exact FinQ.ret (vs := [.agg [aB false, .at (.slice none 0 0)], .agg [aB false, .at (.slice none 0 0)], aI64 14]) (by kernel_rfl) (Sn.tup (SnL.cons (Sn.agg (SnL.cons (Sn.pure rfl) (SnL.cons Sn.nilsl SnL.nil))) (SnL.cons (Sn.agg (SnL.cons (Sn.pure rfl) (SnL.cons Sn.nilsl SnL.nil))) (SnL.cons (Sn.pure rfl) SnL.nil))))
 ·replace hr := cd_f hb5 hr
  refine .skip <| .seq ?_
  obtain ⟨v6, hc7, hr⟩ := bd hr
  refine .g1 fine (callOk_ref (l := []) (SnL.cons (Sn.pure rfl) (SnL.cons (Sn.pure rfl) SnL.nil)) (integer_over_ok n v1 v3 v6 hc7)) <| .mu 2 <| .c0 (by kernel_rfl) (callOf_at (by kernel_rfl)) <| .mu 5 <| .done <| .n1 [2, 3, 4, 5, 8, 9, 10] (mkS 55 0 [(2, .hp 0 0), (3, .hp 1 0), (4, .hp 2 0), (5, .hp 3 0), (8, sU32 v3), (9, sU32 v6.1), (10, sU32 v6.2)]) [.own (api_Int.c x'), .own (api_Int.c y), .own [aB false, .at (.slice none 0 0)], .own [aB false, .at (.slice none 0 0)]] <| .seq ?_
  obtain ⟨v8, hc9, hr⟩ := bd hr
  refine .g1 fine (callOk_ref (l := []) (SnL.cons (Sn.pure rfl) SnL.nil) (slices_Clone_uint32_uint32_ok n v6.2 v8 hc9)) <| .mu 1 <| .c0 (by kernel_rfl) (callOf_at (by kernel_rfl)) <| .mu 1 <| .done <| .n1 [2, 3, 4, 5, 8, 9, 10] (mkS 55 0 [(2, .hp 0 0), (3, .hp 1 0), (4, .hp 2 0), (5, .hp 3 0), (8, sU32 v3), (9, sU32 v6.1), (10, sU32 v8)]) [.own (api_Int.c x'), .own (api_Int.c y), .own [aB false, .at (.slice none 0 0)], .own [aB false, .at (.slice none 0 0)]] <| .seq <| .seq ?_
  rcases Bool.eq_false_or_eq_true (decide ((v8.length : Int) > 0)) with hb10 | hb10
  ·replace hr := cd_t hb10 hr
   refine .r0 fine <| .mu 2 <| .p0 (v := aB true) (Eq.trans (b := some (.pure (aB (decide ((v8.length : Int) > 0))))) (by kernel_rfl) (by rw [hb10])) <| .mu 7 <| .done <| .n1 [2, 3, 4, 5, 8, 9, 10, 37] (mkS 55 0 [(2, .hp 0 0), (3, .hp 1 0), (4, .hp 2 0), (5, .hp 3 0), (8, sU32 v3), (9, sU32 v6.1), (10, sU32 v8), (37, aB (x'.Negative != y.Negative))]) [.own (api_Int.c x'), .own (api_Int.c y), .own [aB false, .at (.slice none 0 0)], .own [aB false, .at (.slice none 0 0)]] ?_
   refine .cond (t := x'.Negative != y.Negative) (by kernel_rfl) (fun hb11 => ?_) (fun hb11 => ?_)
   ·replace hr := cd_t hb11 hr
    obtain ⟨v12, hc13, hr⟩ := bd hr
    obtain ⟨v14, hc15, hr⟩ := bd hr
    refine .region fine (callOf_cons (callOk_ref (H := [.own (api_Int.c x'), .own (api_Int.c y), .own [aB false, .at (.slice none 0 0)], .own [aB false, .at (.slice none 0 0)], .own [aU32 1]]) (args := [sU32 v6.1, .hs 4 0 1 1]) (l := [4]) (SnL.cons (Sn.pure rfl) (SnL.cons (Sn.hs rfl (.inl rfl) (SnC.cons (Sn.pure rfl) SnC.nil) (fun h => nomatch h)) SnL.nil)) (integer_plus_ok n v6.1 [1] v12 hc13)) (callOf_cons (callOk_ref (H := [.own (api_Int.c x'), .own (api_Int.c y), .own [aB false, .at (.slice none 0 0)], .own [aB false, .at (.slice none 0 0)], .fix [aU32 1]]) (l := []) (SnL.cons (Sn.pure rfl) (SnL.cons (Sn.pure rfl) SnL.nil)) (integer_minus_ok n v3 v8 v14 hc15)) callOf_nil)) <| .mu 2 <| .c0 (by kernel_rfl) (callOf_at (by kernel_rfl)) <| .mu 2 <| .c0 (by kernel_rfl) (callOf_skip (fun h _ => absurd (show (173 : Nat) = 171 from h) (by decide)) (callOf_at (by kernel_rfl))) <| .mu 2 <| .done <| .n1 [2, 3, 4, 5, 9, 10] (mkS 55 0 [(2, .hp 0 0), (3, .hp 1 0), (4, .hp 2 0), (5, .hp 3 0), (9, sU32 v12), (10, sU32 v14)]) [.own (api_Int.c x'), .own (api_Int.c y), .own [aB false, .at (.slice none 0 0)], .own [aB false, .at (.slice none 0 0)], .fix [aU32 1]] <| .seq ?_
    obtain ⟨v16, hc17, hr⟩ := bd hr
    obtain ⟨v18, hc19, hr⟩ := bd hr
    refine .regionT fine (callOf_cons (callOk_ref (H := [.own (api_Int.c x'), .own (api_Int.c y), .own [aB false, .at (.slice none 0 0)], .own [aB false, .at (.slice none 0 0)], .fix [aU32 1]]) (l := []) (SnL.cons (Sn.pure rfl) (SnL.cons (Sn.pure rfl) SnL.nil)) (integer_made_ok n true v12 v16 hc17)) (callOf_cons (callOk_ref (H := [.own (api_Int.c x'), .own (api_Int.c y), .own [aB false, .at (.slice none 0 0)], .own [aB false, .at (.slice none 0 0)], .fix [aU32 1]]) (l := []) (SnL.cons (Sn.pure rfl) (SnL.cons (Sn.pure rfl) SnL.nil)) (integer_made_ok n y.Negative v14 v18 hc19)) callOf_nil)) <| .mu 4 <| .pure (v := aB true) (by kernel_rfl) (Eq.trans (b := some (.pure (aB (x'.Negative != y.Negative)))) (by kernel_rfl) (by rw [hb11])) (by kernel_rfl) <| .mu 1 <| .cal (by kernel_rfl) (by kernel_rfl) (callOf_at (by kernel_rfl)) (by kernel_rfl) <| .mu 3 <| .cal (by kernel_rfl) (by kernel_rfl) (callOf_skip (fun _ h => by obtain ⟨e0, e1⟩ := integer_made_inj h; rw [show v18 = v16 from Option.some.inj (hc19.symm.trans ((show integer_made n y.Negative v14 = integer_made n true v12 from (congr (congr rfl e0) e1)).trans hc17))]) (callOf_at (by kernel_rfl))) (by kernel_rfl) <| .mu 3 ?_
    refine .done ⟨by kernel_rfl, ?_⟩
    refine .n1 [4, 5, 6] (mkS 55 0 [(4, .hp 2 0), (5, .hp 3 0), (6, aI64 0)]) [.own (api_Int.c x'), .own (api_Int.c y), .own (api_Int.c v16), .own (api_Int.c v18), .fix [aU32 1]] <| .ret ?_
    obtain rfl := Option.some.inj hr
    exact FinQ.ret (vs := [.agg (api_Int.c v16), .agg (api_Int.c v18), aI64 0]) (by kernel_rfl) (Sn.tup (SnL.cons (Sn.pure rfl) (SnL.cons (Sn.pure rfl) (SnL.cons (Sn.pure rfl) SnL.nil))))
   ·replace hr := cd_f hb11 hr
    refine .skip <| .seq ?_
    obtain ⟨v20, hc21, hr⟩ := bd hr
    obtain ⟨v22, hc23, hr⟩ := bd hr
    refine .regionT fine (callOf_cons (callOk_ref (H := [.own (api_Int.c x'), .own (api_Int.c y), .own [aB false, .at (.slice none 0 0)], .own [aB false, .at (.slice none 0 0)]]) (l := []) (SnL.cons (Sn.pure rfl) (SnL.cons (Sn.pure rfl) SnL.nil)) (integer_made_ok n false v6.1 v20 hc21)) (callOf_cons (callOk_ref (H := [.own (api_Int.c x'), .own (api_Int.c y), .own [aB false, .at (.slice none 0 0)], .own [aB false, .at (.slice none 0 0)]]) (l := []) (SnL.cons (Sn.pure rfl) (SnL.cons (Sn.pure rfl) SnL.nil)) (integer_made_ok n y.Negative v8 v22 hc23)) callOf_nil)) <| .mu 4 <| .pure (v := aB false) (by kernel_rfl) (Eq.trans (b := some (.pure (aB (x'.Negative != y.Negative)))) (by kernel_rfl) (by rw [hb11])) (by kernel_rfl) <| .mu 1 <| .cal (by kernel_rfl) (by kernel_rfl) (callOf_at (by kernel_rfl)) (by kernel_rfl) <| .mu 3 <| .cal (by kernel_rfl) (by kernel_rfl) (callOf_skip (fun _ h => by obtain ⟨e0, e1⟩ := integer_made_inj h; rw [show v22 = v20 from Option.some.inj (hc23.symm.trans ((show integer_made n y.Negative v8 = integer_made n false v6.1 from (congr (congr rfl e0) e1)).trans hc21))]) (callOf_at (by kernel_rfl))) (by kernel_rfl) <| .mu 3 ?_
    refine .done ⟨by kernel_rfl, ?_⟩
    refine .n1 [4, 5, 6] (mkS 55 0 [(4, .hp 2 0), (5, .hp 3 0), (6, aI64 0)]) [.own (api_Int.c x'), .own (api_Int.c y), .own (api_Int.c v20), .own (api_Int.c v22)] <| .ret ?_
    obtain rfl := Option.some.inj hr
    exact FinQ.ret (vs := [.agg (api_Int.c v20), .agg (api_Int.c v22), aI64 0]) (by kernel_rfl) (Sn.tup (SnL.cons (Sn.pure rfl) (SnL.cons (Sn.pure rfl) (SnL.cons (Sn.pure rfl) SnL.nil))))
  ·replace hr := cd_f hb10 hr
   refine .r0 fine <| .mu 2 <| .p0 (v := aB false) (Eq.trans (b := some (.pure (aB (decide ((v8.length : Int) > 0))))) (by kernel_rfl) (by rw [hb10])) <| .mu 7 <| .done <| .n1 [2, 3, 4, 5, 8, 9, 10, 37] (mkS 55 0 [(2, .hp 0 0), (3, .hp 1 0), (4, .hp 2 0), (5, .hp 3 0), (8, sU32 v3), (9, sU32 v6.1), (10, sU32 v8), (37, aB false)]) [.own (api_Int.c x'), .own (api_Int.c y), .own [aB false, .at (.slice none 0 0)], .own [aB false, .at (.slice none 0 0)]] <| .cF (by kernel_rfl) <| .skip <| .seq ?_
   obtain ⟨v24, hc25, hr⟩ := bd hr
   obtain ⟨v26, hc27, hr⟩ := bd hr
   refine .regionT fine (callOf_cons (callOk_ref (H := [.own (api_Int.c x'), .own (api_Int.c y), .own [aB false, .at (.slice none 0 0)], .own [aB false, .at (.slice none 0 0)]]) (l := []) (SnL.cons (Sn.pure rfl) (SnL.cons (Sn.pure rfl) SnL.nil)) (integer_made_ok n (x'.Negative != y.Negative) v6.1 v24 hc25)) (callOf_cons (callOk_ref (H := [.own (api_Int.c x'), .own (api_Int.c y), .own [aB false, .at (.slice none 0 0)], .own [aB false, .at (.slice none 0 0)]]) (l := []) (SnL.cons (Sn.pure rfl) (SnL.cons (Sn.pure rfl) SnL.nil)) (integer_made_ok n y.Negative v8 v26 hc27)) callOf_nil)) <| .mu 6 <| .cal (by kernel_rfl) (by kernel_rfl) (callOf_at (by kernel_rfl)) (by kernel_rfl) <| .mu 3 <| .cal (by kernel_rfl) (by kernel_rfl) (callOf_skip (fun _ h => by obtain ⟨e0, e1⟩ := integer_made_inj h; rw [show v26 = v24 from Option.some.inj (hc27.symm.trans ((show integer_made n y.Negative v8 = integer_made n (x'.Negative != y.Negative) v6.1 from (congr (congr rfl e0) e1)).trans hc25))]) (callOf_at (by kernel_rfl))) (by kernel_rfl) <| .mu 3 ?_
   refine .done ⟨by kernel_rfl, ?_⟩
   refine .n1 [4, 5, 6] (mkS 55 0 [(4, .hp 2 0), (5, .hp 3 0), (6, aI64 0)]) [.own (api_Int.c x'), .own (api_Int.c y), .own (api_Int.c v24), .own (api_Int.c v26)] <| .ret ?_
   obtain rfl := Option.some.inj hr
   exact FinQ.ret (vs := [.agg (api_Int.c v24), .agg (api_Int.c v26), aI64 0]) (by kernel_rfl) (Sn.tup (SnL.cons (Sn.pure rfl) (SnL.cons (Sn.pure rfl) (SnL.cons (Sn.pure rfl) SnL.nil))))

theorem fraction_reduced_ok (n : Nat) (num : api_Int) (den : api_Int) (r : api_Rat) (hr : fraction_reduced n num den = some r) : FnOk Tryz.prog 98 [.agg [.at (.bool num.Negative), slT (iC .u32) num.Groups], .agg [.at (.bool den.Negative), slT (iC .u32) den.Groups]] (.agg [.at (.bool r.Num.Negative), slT (iC .u32) r.Num.Groups, .at (.bool r.Den.Negative), slT (iC .u32) r.Den.Groups]) := by
 unfold fraction_reduced at hr
 refine FnOk.body fine Tryz.func98 (c := (Tryz.f98.body).getD .skip) rfl (s := mkS 33 0 [(0, .agg (api_Int.c num)), (1, .agg (api_Int.c den))]) (by kernel_rfl) (rs := [.cell 4 39]) rfl ?_
 unfold Tryz.f98
 simp only [Option.getD_some]
 refine .seq <| .rn fine [2, 3, 4] (mkS 33 0 [(2, .hp 0 0), (3, .hp 1 0), (4, .hp 2 0)]) [.own (api_Int.c num), .own (api_Int.c den), .own [aB false, .at (.slice none 0 0), aB false, .at (.slice none 0 0)]] <| .seq <| .seq ?_
 obtain ⟨v1, hc2, hr⟩ := bd hr
 refine .g1 fine (callOk_val (l := []) rfl (SnL.cons (Sn.pure rfl) SnL.nil) (integer_Sign_ok n den v1 hc2)) <| .mu 1 <| .c0 (by kernel_rfl) (callOf_at (by kernel_rfl)) <| .mu 1 <| .done <| .n1 [2, 3, 4, 8] (mkS 33 0 [(2, .hp 0 0), (3, .hp 1 0), (4, .hp 2 0), (8, aB (decide (v1 < 0)))]) [.own (api_Int.c num), .own (api_Int.c den), .own [aB false, .at (.slice none 0 0), aB false, .at (.slice none 0 0)]] ?_
 refine .cond (t := decide (v1 < 0)) (by kernel_rfl) (fun hb3 => ?_) (fun hb3 => ?_)
 ·replace hr := cd_t hb3 hr
  obtain ⟨v4, hc5, hr⟩ := bd hr
  obtain ⟨v6, hc7, hr⟩ := bd hr
  refine .regionT fine (callOf_cons (callOk_ref (H := [.own (api_Int.c num), .own (api_Int.c den), .own [aB false, .at (.slice none 0 0), aB false, .at (.slice none 0 0)]]) (l := []) (SnL.cons (Sn.pure rfl) SnL.nil) (integer_Neg_ok n num v4 hc5)) (callOf_cons (callOk_ref (H := [.own (api_Int.c num), .own (api_Int.c den), .own [aB false, .at (.slice none 0 0), aB false, .at (.slice none 0 0)]]) (l := []) (SnL.cons (Sn.pure rfl) SnL.nil) (integer_Neg_ok n den v6 hc7)) callOf_nil)) <| .mu 1 <| .cal (by kernel_rfl) (by kernel_rfl) (callOf_at (by kernel_rfl)) (by kernel_rfl) <| .mu 1 <| .cal (by kernel_rfl) (by kernel_rfl) (callOf_skip (fun _ h => by obtain e0 := integer_Neg_inj h; rw [show v6 = v4 from Option.some.inj (hc7.symm.trans ((show integer_Neg n den = integer_Neg n num from (congr rfl e0)).trans hc5))]) (callOf_at (by kernel_rfl))) (by kernel_rfl) <| .mu 2 ?_
  refine .done ⟨by kernel_rfl, ?_⟩
  refine .n1 [2, 3, 4] (mkS 33 0 [(2, .hp 0 0), (3, .hp 1 0), (4, .hp 2 0)]) [.own (api_Int.c v4), .own (api_Int.c v6), .own [aB false, .at (.slice none 0 0), aB false, .at (.slice none 0 0)]] <| .seq ?_
  obtain ⟨v8, hc9, hr⟩ := bd hr
  refine .g1 fine (callOk_ref (l := []) (SnL.cons (Sn.pure rfl) (SnL.cons (Sn.pure rfl) SnL.nil)) (integer_Gcd_ok n v4 v6 v8 hc9)) <| .mu 2 <| .c0 (by kernel_rfl) (callOf_at (by kernel_rfl)) <| .mu 2 <| .done <| .n1 [2, 3, 4, 5] (mkS 33 0 [(2, .hp 0 0), (3, .hp 1 0), (4, .hp 2 0), (5, .hp 3 0)]) [.own (api_Int.c v4), .own (api_Int.c v6), .own [aB false, .at (.slice none 0 0), aB false, .at (.slice none 0 0)], .own (api_Int.c v8)] <| .seq ?_
  obtain ⟨v10, hc11, hr⟩ := bd hr
  refine .g1 fine (callOk_ref (l := []) (SnL.cons (Sn.pure rfl) (SnL.cons (Sn.pure rfl) SnL.nil)) (integer_Divide_ok n v4 v8 v10 hc11)) <| .mu 2 <| .c0 (by kernel_rfl) (callOf_at (by kernel_rfl)) <| .mu 5 <| .done <| .n1 [2, 3, 4, 5] (mkS 33 0 [(2, .hp 0 0), (3, .hp 1 0), (4, .hp 2 0), (5, .hp 3 0)]) [.own (api_Int.c v10.1), .own (api_Int.c v6), .own [aB false, .at (.slice none 0 0), aB false, .at (.slice none 0 0)], .own (api_Int.c v8)] <| .seq ?_
  obtain ⟨v12, hc13, hr⟩ := bd hr
  refine .g1 fine (callOk_ref (l := []) (SnL.cons (Sn.pure rfl) (SnL.cons (Sn.pure rfl) SnL.nil)) (integer_Divide_ok n v6 v8 v12 hc13)) <| .mu 2 <| .c0 (by kernel_rfl) (callOf_at (by kernel_rfl)) <| .mu 5 <| .done <| .n1 [2, 3, 4] (mkS 33 0 [(2, .hp 0 0), (3, .hp 1 0), (4, .hp 2 0)]) [.own (api_Int.c v10.1), .own (api_Int.c v12.1), .own [aB false, .at (.slice none 0 0), aB false, .at (.slice none 0 0)], .own (api_Int.c v8)] <| .seq <| .rn fine [4] (mkS 33 0 [(4, .hp 2 0)]) [.own (api_Int.c v10.1), .own (api_Int.c v12.1), .own [aB v10.1.Negative, sU32 v10.1.Groups, aB v12.1.Negative, sU32 v12.1.Groups], .own (api_Int.c v8)] <| .ret ?_
  obtain rfl := Option.some.inj hr
  exact FinQ.r1 [.agg [aB v10.1.Negative, sU32 v10.1.Groups, aB v12.1.Negative, sU32 v12.1.Groups]]
 ·replace hr := cd_f hb3 hr
  refine .skip <| .seq ?_
  obtain ⟨v14, hc15, hr⟩ := bd hr
  refine .g1 fine (callOk_ref (l := []) (SnL.cons (Sn.pure rfl) (SnL.cons (Sn.pure rfl) SnL.nil)) (integer_Gcd_ok n num den v14 hc15)) <| .mu 2 <| .c0 (by kernel_rfl) (callOf_at (by kernel_rfl)) <| .mu 2 <| .done <| .n1 [2, 3, 4, 5] (mkS 33 0 [(2, .hp 0 0), (3, .hp 1 0), (4, .hp 2 0), (5, .hp 3 0)]) [.own (api_Int.c num), .own (api_Int.c den), .own [aB false, .at (.slice none 0 0), aB false, .at (.slice none 0 0)], .own (api_Int.c v14)] <| .seq ?_
  obtain ⟨v16, hc17, hr⟩ := bd hr
  refine .g1 fine (callOk_ref (l := []) (SnL.cons (Sn.pure rfl) (SnL.cons (Sn.pure rfl) SnL.nil)) (integer_Divide_ok n num v14 v16 hc17)) <| .mu 2 <| .c0 (by kernel_rfl) (callOf_at (by kernel_rfl)) <| .mu 5 <| .done <| .n1 [2, 3, 4, 5] (mkS 33 0 [(2, .hp 0 0), (3, .hp 1 0), (4, .hp 2 0), (5, .hp 3 0)]) [.own (api_Int.c v16.1), .own (api_Int.c den), .own [aB false, .at (.slice none 0 0), aB false, .at (.slice none 0 0)], .own (api_Int.c v14)] <| .seq ?_
  obtain ⟨v18, hc19, hr⟩ := bd hr
  refine .g1 fine (callOk_ref (l := []) (SnL.cons (Sn.pure rfl) (SnL.cons (Sn.pure rfl) SnL.nil)) (integer_Divide_ok n den v14 v18 hc19)) <| .mu 2 <| .c0 (by kernel_rfl) (callOf_at (by kernel_rfl)) <| .mu 5 <| .done <| .n1 [2, 3, 4] (mkS 33 0 [(2, .hp 0 0), (3, .hp 1 0), (4, .hp 2 0)]) [.own (api_Int.c v16.1), .own (api_Int.c v18.1), .own [aB false, .at (.slice none 0 0), aB false, .at (.slice none 0 0)], .own (api_Int.c v14)] <| .seq <| .rn fine [4] (mkS 33 0 [(4, .hp 2 0)]) [.own (api_Int.c v16.1), .own (api_Int.c v18.1), .own [aB v16.1.Negative, sU32 v16.1.Groups, aB v18.1.Negative, sU32 v18.1.Groups], .own (api_Int.c v14)] <| .ret ?_
  obtain rfl := Option.some.inj hr
  exact FinQ.r1 [.agg [aB v16.1.Negative, sU32 v16.1.Groups, aB v18.1.Negative, sU32 v18.1.Groups]]

theorem fraction_Mul_inj {x' : api_Rat} {y : api_Rat} {x'_ : api_Rat} {y_ : api_Rat} (h : ([.agg [.at (.bool x'.Num.Negative), slT (iC .u32) x'.Num.Groups, .at (.bool x'.Den.Negative), slT (iC .u32) x'.Den.Groups], .agg [.at (.bool y.Num.Negative), slT (iC .u32) y.Num.Groups, .at (.bool y.Den.Negative), slT (iC .u32) y.Den.Groups]] : List AV) = [.agg [.at (.bool x'_.Num.Negative), slT (iC .u32) x'_.Num.Groups, .at (.bool x'_.Den.Negative), slT (iC .u32) x'_.Den.Groups], .agg [.at (.bool y_.Num.Negative), slT (iC .u32) y_.Num.Groups, .at (.bool y_.Den.Negative), slT (iC .u32) y_.Den.Groups]]) : x' = x'_ ∧ y = y_ := by
 obtain ⟨⟨_, _⟩, ⟨_, _⟩⟩ := x'
 obtain ⟨⟨_, _⟩, ⟨_, _⟩⟩ := x'_
 obtain ⟨⟨_, _⟩, ⟨_, _⟩⟩ := y
 obtain ⟨⟨_, _⟩, ⟨_, _⟩⟩ := y_
 simp only [List.cons.injEq, AV.agg.injEq, AV.at.injEq, Value.int.injEq, Value.bool.injEq, AV.fn.injEq, AV.pp.injEq, true_and, and_true, slT_inj_int] at h
 simp_all
theorem fraction_Mul_ok (n : Nat) (x' : api_Rat) (y : api_Rat) (r : api_Rat) (hr : fraction_Mul n x' y = some r) : FnOk Tryz.prog 88 [.agg [.at (.bool x'.Num.Negative), slT (iC .u32) x'.Num.Groups, .at (.bool x'.Den.Negative), slT (iC .u32) x'.Den.Groups], .agg [.at (.bool y.Num.Negative), slT (iC .u32) y.Num.Groups, .at (.bool y.Den.Negative), slT (iC .u32) y.Den.Groups]] (.agg [.at (.bool r.Num.Negative), slT (iC .u32) r.Num.Groups, .at (.bool r.Den.Negative), slT (iC .u32) r.Den.Groups]) := by
 unfold fraction_Mul at hr
 refine FnOk.body fine Tryz.func88 (c := (Tryz.f88.body).getD .skip) rfl (s := mkS 20 0 [(0, .agg (api_Rat.c x')), (1, .agg (api_Rat.c y))]) (by kernel_rfl) (rs := [.cell 4 39]) rfl ?_
 unfold Tryz.f88
 simp only [Option.getD_some]
 refine .seq <| .rn fine [2, 3, 4] (mkS 20 0 [(2, .hp 0 0), (3, .hp 1 0), (4, .hp 2 0)]) [.own (api_Rat.c x'), .own (api_Rat.c y), .own [aB false, .at (.slice none 0 0), aB false, .at (.slice none 0 0)]] <| .seq ?_
 obtain ⟨v1, hc2, hr⟩ := bd hr
 obtain ⟨v3, hc4, hr⟩ := bd hr
 refine .regionT fine (callOf_cons (callOk_ref (H := [.own (api_Rat.c x'), .own (api_Rat.c y), .own [aB false, .at (.slice none 0 0), aB false, .at (.slice none 0 0)]]) (l := []) (SnL.cons (Sn.pure rfl) SnL.nil) (fraction_Value_ok n x' v1 hc2)) (callOf_cons (callOk_ref (H := [.own (api_Rat.c x'), .own (api_Rat.c y), .own [aB false, .at (.slice none 0 0), aB false, .at (.slice none 0 0)]]) (l := []) (SnL.cons (Sn.pure rfl) SnL.nil) (fraction_Value_ok n y v3 hc4)) callOf_nil)) <| .mu 1 <| .cal (by kernel_rfl) (by kernel_rfl) (callOf_at (by kernel_rfl)) (by kernel_rfl) <| .mu 1 <| .cal (by kernel_rfl) (by kernel_rfl) (callOf_skip (fun _ h => by obtain e0 := fraction_Value_inj h; rw [show v3 = v1 from Option.some.inj (hc4.symm.trans ((show fraction_Value n y = fraction_Value n x' from (congr rfl e0)).trans hc2))]) (callOf_at (by kernel_rfl))) (by kernel_rfl) <| .mu 2 ?_
 refine .done ⟨by kernel_rfl, ?_⟩
 refine .n1 [2, 3, 4] (mkS 20 0 [(2, .hp 0 0), (3, .hp 1 0), (4, .hp 2 0)]) [.own (api_Rat.c v1), .own (api_Rat.c v3), .own [aB false, .at (.slice none 0 0), aB false, .at (.slice none 0 0)]] <| .seq ?_
 obtain ⟨v5, hc6, hr⟩ := bd hr
 obtain ⟨v7, hc8, hr⟩ := bd hr
 obtain ⟨v9, hc10, hr⟩ := bd hr
 refine .regionT fine (callOf_cons (callOk_ref (H := [.own (api_Rat.c v1), .own (api_Rat.c v3), .own [aB false, .at (.slice none 0 0), aB false, .at (.slice none 0 0)]]) (l := []) (SnL.cons (Sn.pure rfl) (SnL.cons (Sn.pure rfl) SnL.nil)) (integer_Mul_ok n v1.Num v3.Num v5 hc6)) (callOf_cons (callOk_ref (H := [.own (api_Rat.c v1), .own (api_Rat.c v3), .own [aB false, .at (.slice none 0 0), aB false, .at (.slice none 0 0)]]) (l := []) (SnL.cons (Sn.pure rfl) (SnL.cons (Sn.pure rfl) SnL.nil)) (integer_Mul_ok n v1.Den v3.Den v7 hc8)) (callOf_cons (callOk_ref (H := [.own (api_Rat.c v1), .own (api_Rat.c v3), .own [aB false, .at (.slice none 0 0), aB false, .at (.slice none 0 0)]]) (l := []) (SnL.cons (Sn.pure rfl) (SnL.cons (Sn.pure rfl) SnL.nil)) (fraction_reduced_ok n v5 v7 v9 hc10)) callOf_nil))) <| .mu 4 <| .cal (by kernel_rfl) (by kernel_rfl) (callOf_at (by kernel_rfl)) (by kernel_rfl) <| .mu 4 <| .cal (by kernel_rfl) (by kernel_rfl) (callOf_skip (fun _ h => by obtain ⟨e0, e1⟩ := integer_Mul_inj h; rw [show v7 = v5 from Option.some.inj (hc8.symm.trans ((show integer_Mul n v1.Den v3.Den = integer_Mul n v1.Num v3.Num from (congr (congr rfl e0) e1)).trans hc6))]) (callOf_at (by kernel_rfl))) (by kernel_rfl) <| .cal (by kernel_rfl) (by kernel_rfl) (callOf_skip (fun h _ => absurd (show (98 : Nat) = 51 from h) (by decide)) (callOf_skip (fun h _ => absurd (show (98 : Nat) = 51 from h) (by decide)) (callOf_at (by kernel_rfl)))) (by kernel_rfl) <| .mu 1 ?_
 refine .done ⟨by kernel_rfl, ?_⟩
 refine .n1 [4] (mkS 20 0 [(4, .hp 2 0)]) [.own (api_Rat.c v1), .own (api_Rat.c v3), .own (api_Rat.c v9)] <| .ret ?_
 obtain rfl := Option.some.inj hr
 exact FinQ.r1 [.agg (api_Rat.c v9)]
end Go.L
