/- The program's functions compute what the plain Lean programs compute, part 1; printed by a program. -/
import Derived.Test.YtlajgmapmocpbaaGreatCompLD
import Derived.Test.YtlajgmapmocpbaaGreatL0b
import Derived.Test.YtlajgmapmocpbaaGreatChecked
import Derived.KernelRfl
set_option linter.unusedVariables false
set_option linter.unusedSimpArgs false
set_option maxRecDepth 100000
namespace Go.L
open Go Go.Eng Go.Proofs
theorem fiduciallaw59_banded_ok (n : Nat) (err : Int) (z : List Int) (r : api_Banded) (hr : fiduciallaw59_banded n err z = some r) : FnOk Tryz.prog 45 [.at (.int .i64 err), slT (iC .i64) z] (.agg [.at (.int .i64 r.Grid.X0), .at (.int .i64 r.Grid.Y0), .at (.int .i64 r.Grid.Step), .at (.int .i64 r.Grid.Width), .at (.int .i64 r.Grid.Height), slT (iC .i64) r.Grid.Z, slT (iC .i64) r.Err]) := by
 unfold fiduciallaw59_banded at hr
 refine FnOk.body fine Tryz.func45 (c := (Tryz.f45.body).getD .skip) rfl (s := mkS 13 0 [(0, aI64 err), (1, sI64 z)]) (by kernel_rfl) (rs := [.cell 4 26]) rfl ?_
 unfold Tryz.f45
 simp only [Option.getD_some]
 refine CQ.seq ?_
 refine CQ.r0 fine ?_
 refine EVO.e1 (.hp 0 0) [(0, .own [aI64 0, aI64 0, aI64 0, aI64 0, aI64 0, .at (.slice none 0 0), .at (.slice none 0 0)])] ?_
 refine EVO.done ?_
 refine CQ.seq ?_
 refine CQ.r0 fine ?_
 refine EVO.p1 (sI64 z) ?_
 refine EVO.p1 (.agg [aI64 0, aI64 0, aI64 2, aI64 2, aI64 2, sI64 z]) ?_
 refine EVO.p1 (aI64 err) ?_
 refine EVO.p1 (aI64 err) ?_
 refine EVO.p1 (aI64 err) ?_
 refine EVO.p1 (aI64 err) ?_
 refine EVO.e1 (.hs 1 0 4 1) [(1, .own [aI64 err, aI64 err, aI64 err, aI64 err])] ?_
 refine EVO.p1 (.agg [aI64 0, aI64 0, aI64 2, aI64 2, aI64 2, sI64 z, .hs 1 0 4 1]) ?_
 refine EVO.e1 (.unk) [(0, .own [aI64 0, aI64 0, aI64 2, aI64 2, aI64 2, sI64 z, .hs 1 0 4 1])] ?_
 refine EVO.done ?_
 refine CQ.ret ?_
 obtain rfl := Option.some.inj hr
 exact FinQ.ret (vs := [.agg [aI64 0, aI64 0, aI64 2, aI64 2, aI64 2, sI64 z, .hs 1 0 4 1]]) (by kernel_rfl) (Sn.agg (SnL.cons (Sn.pure rfl) (SnL.cons (Sn.pure rfl) (SnL.cons (Sn.pure rfl) (SnL.cons (Sn.pure rfl) (SnL.cons (Sn.pure rfl) (SnL.cons (Sn.pure rfl) (SnL.cons (Sn.hs rfl (.inl rfl) (SnC.cons (Sn.pure rfl) (SnC.cons (Sn.pure rfl) (SnC.cons (Sn.pure rfl) (SnC.cons (Sn.pure rfl) SnC.nil)))) (fun h => nomatch h)) SnL.nil))))))))

theorem terrain_Check_1_inj {n' : Int} {n'_ : Int} (h : ([.at (.int .i64 n')] : List AV) = [.at (.int .i64 n'_)]) : n' = n'_ := by
 simp only [List.cons.injEq, AV.agg.injEq, AV.at.injEq, Value.int.injEq, Value.bool.injEq, AV.fn.injEq, AV.pp.injEq, true_and, and_true] at h
 simp_all
theorem terrain_Check_1_ok (n : Nat) (n' : Int) (r : Bool) (hr : terrain_Check_1 n n' = some r) : FnOk Tryz.prog 146 [.at (.int .i64 n')] (.at (.bool r)) := by
 unfold terrain_Check_1 at hr
 refine FnOk.body fine Tryz.func146 (c := (Tryz.f146.body).getD .skip) rfl (s := mkS 9 0 [(0, aI64 n')]) (by kernel_rfl) (rs := [.tmp 2]) rfl ?_
 unfold Tryz.f146
 simp only [Option.getD_some]
 refine CQ.seq ?_
 refine CQ.r0 fine ?_
 refine EVO.p1 (aB false) ?_
 refine EVO.done ?_
 refine CQ.n1 [0] (mkS 9 0 [(0, aI64 n')]) [] ?_
 refine CQ.seq ?_
 rcases Bool.eq_false_or_eq_true (decide (n' ≥ 2)) with hb1 | hb1
 ·replace hr := cd_t hb1 hr
  refine CQ.r0 fine ?_
  refine EVO.p1 (aI64 n') ?_
  refine EVO.p0 (v := aB true) (Eq.trans (b := some (.pure (aB (decide (n' ≥ 2))))) (by kernel_rfl) (by rw [hb1])) ?_
  refine EVO.p1 (aB true) ?_
  refine EVO.q1 (aI64 n') ?_
  refine EVO.q1 (aB (decide (n' ≤ 64))) ?_
  refine EVO.p1 (aB (decide (n' ≤ 64))) ?_
  refine EVO.p1 (aB (decide (n' ≤ 64))) ?_
  refine EVO.done ?_
  refine CQ.ret ?_
  obtain rfl := Option.some.inj hr
  exact FinQ.r1 [aB (decide (n' ≤ 64))]
 ·replace hr := cd_f hb1 hr
  refine CQ.r0 fine ?_
  refine EVO.p1 (aI64 n') ?_
  refine EVO.p0 (v := aB false) (Eq.trans (b := some (.pure (aB (decide (n' ≥ 2))))) (by kernel_rfl) (by rw [hb1])) ?_
  refine EVO.p1 (aB false) ?_
  refine EVO.s1 ?_
  refine EVO.s1 ?_
  refine EVO.p1 (aB false) ?_
  refine EVO.p1 (aB false) ?_
  refine EVO.done ?_
  refine CQ.ret ?_
  obtain rfl := Option.some.inj hr
  exact FinQ.r1 [aB false]

theorem terrain_far_inj {n' : Int} {n'_ : Int} (h : ([.at (.int .i64 n')] : List AV) = [.at (.int .i64 n'_)]) : n' = n'_ := by
 simp only [List.cons.injEq, AV.agg.injEq, AV.at.injEq, Value.int.injEq, Value.bool.injEq, AV.fn.injEq, AV.pp.injEq, true_and, and_true] at h
 simp_all
theorem terrain_far_ok (n : Nat) (n' : Int) (r : Bool) (hr : terrain_far n n' = some r) : FnOk Tryz.prog 147 [.at (.int .i64 n')] (.at (.bool r)) := by
 unfold terrain_far at hr
 refine FnOk.body fine Tryz.func147 (c := (Tryz.f147.body).getD .skip) rfl (s := mkS 9 0 [(0, aI64 n')]) (by kernel_rfl) (rs := [.tmp 2]) rfl ?_
 unfold Tryz.f147
 simp only [Option.getD_some]
 refine CQ.seq ?_
 refine CQ.r0 fine ?_
 refine EVO.p1 (aB false) ?_
 refine EVO.done ?_
 refine CQ.n1 [0] (mkS 9 0 [(0, aI64 n')]) [] ?_
 refine CQ.seq ?_
 rcases Bool.eq_false_or_eq_true (decide (n' < (-1048576))) with hb1 | hb1
 ·replace hr := cd_t hb1 hr
  refine CQ.r0 fine ?_
  refine EVO.p1 (aI64 n') ?_
  refine EVO.p0 (v := aB true) (Eq.trans (b := some (.pure (aB (decide (n' < (-1048576)))))) (by kernel_rfl) (by rw [hb1])) ?_
  refine EVO.p1 (aB true) ?_
  refine EVO.s1 ?_
  refine EVO.s1 ?_
  refine EVO.p1 (aB true) ?_
  refine EVO.p1 (aB true) ?_
  refine EVO.done ?_
  refine CQ.ret ?_
  obtain rfl := Option.some.inj hr
  exact FinQ.r1 [aB true]
 ·replace hr := cd_f hb1 hr
  refine CQ.r0 fine ?_
  refine EVO.p1 (aI64 n') ?_
  refine EVO.p0 (v := aB false) (Eq.trans (b := some (.pure (aB (decide (n' < (-1048576)))))) (by kernel_rfl) (by rw [hb1])) ?_
  refine EVO.p1 (aB false) ?_
  refine EVO.q1 (aI64 n') ?_
  refine EVO.q1 (aB (decide (n' > 1048576))) ?_
  refine EVO.p1 (aB (decide (n' > 1048576))) ?_
  refine EVO.p1 (aB (decide (n' > 1048576))) ?_
  refine EVO.done ?_
  refine CQ.ret ?_
  obtain rfl := Option.some.inj hr
  exact FinQ.r1 [aB (decide (n' > 1048576))]

theorem terrain_Check_2_ok (n : Nat) (z : Int) (r : Bool) (hr : terrain_Check_2 n z = some r) : FnOk Tryz.prog 148 [.at (.int .i64 z)] (.at (.bool r)) := by
 unfold terrain_Check_2 at hr
 refine FnOk.body fine Tryz.func148 (c := (Tryz.f148.body).getD .skip) rfl (s := mkS 9 0 [(0, aI64 z)]) (by kernel_rfl) (rs := [.tmp 2]) rfl ?_
 unfold Tryz.f148
 simp only [Option.getD_some]
 refine CQ.seq ?_
 refine CQ.r0 fine ?_
 refine EVO.p1 (aB false) ?_
 refine EVO.done ?_
 refine CQ.n1 [0] (mkS 9 0 [(0, aI64 z)]) [] ?_
 refine CQ.seq ?_
 rcases Bool.eq_false_or_eq_true ((z : Int) != (-2147483648)) with hb1 | hb1
 ·replace hr := cd_t hb1 hr
  replace hr := bd hr; obtain ⟨v2, hc3, hr⟩ := hr
  refine CQ.region fine (callOf_1 147 [aI64 z] [] (.loc (aB v2) [] [] 0) (callOk_val (l := []) (args' := [aI64 z]) rfl (SnL.cons (Sn.pure rfl) SnL.nil) (terrain_far_ok n z v2 hc3))) ?_
  refine EVO.p1 (aI64 z) ?_
  refine EVO.p0 (v := aB true) (Eq.trans (b := some (.pure (aB ((z : Int) != (-2147483648))))) (by kernel_rfl) (by rw [hb1])) ?_
  refine EVO.p1 (aB true) ?_
  refine EVO.q1 (aI64 z) ?_
  refine EVO.cal (by kernel_rfl) (by kernel_rfl) (callOf_at (by kernel_rfl)) ?_
  refine EVO.p1 (aB v2) ?_
  refine EVO.p1 (aB v2) ?_
  refine EVO.done ?_
  refine CQ.ret ?_
  obtain rfl := Option.some.inj hr
  exact FinQ.r1 [aB v2]
 ·replace hr := cd_f hb1 hr
  refine CQ.r0 fine ?_
  refine EVO.p1 (aI64 z) ?_
  refine EVO.p0 (v := aB false) (Eq.trans (b := some (.pure (aB ((z : Int) != (-2147483648))))) (by kernel_rfl) (by rw [hb1])) ?_
  refine EVO.p1 (aB false) ?_
  refine EVO.s1 ?_
  refine EVO.s1 ?_
  refine EVO.p1 (aB false) ?_
  refine EVO.p1 (aB false) ?_
  refine EVO.done ?_
  refine CQ.ret ?_
  obtain rfl := Option.some.inj hr
  exact FinQ.r1 [aB false]

theorem slices_IndexFunc_int_int_of_terrain_Check_2_ok (n : Nat) (s : List Int) (r : Int) (hr : slices_IndexFunc_int_int_of_terrain_Check_2 n s = some r) : FnOk Tryz.prog 130 [slT (iC .i64) s, .fn 148 [] []] (.at (.int .i64 r)) := by
 unfold slices_IndexFunc_int_int_of_terrain_Check_2 at hr
 refine FnOk.body fine Tryz.func130 (c := (Tryz.f130.body).getD .skip) rfl (s := mkS 19 0 [(0, sI64 s), (1, .fn 148 [] [])]) (by kernel_rfl) (rs := [.tmp 4]) rfl ?_
 unfold Tryz.f130
 simp only [Option.getD_some]
 refine CQ.seq ?_
 refine CQ.r0 fine ?_
 refine EVO.p1 (aI64 0) ?_
 refine EVO.done ?_
 refine CQ.n1 [0, 1] (mkS 19 0 [(0, sI64 s), (1, .fn 148 [] [])]) [] ?_
 refine CQ.seq ?_
 refine CQ.seq ?_
 refine CQ.r0 fine ?_
 refine EVO.p1 (sI64 s) ?_
 refine EVO.p1 (aI64 (s.length : Int)) ?_
 refine EVO.p1 (aI64 0) ?_
 refine EVO.done ?_
 refine CQ.n1 [0, 1, 7, 8] (mkS 19 0 [(0, sI64 s), (1, .fn 148 [] []), (7, aI64 (s.length : Int)), (8, aI64 0)]) [] ?_
 refine CQ.block ?_
 replace hr := bd hr; obtain ⟨o13, hL14, hr⟩ := hr
 refine CQ.loopO (σ := fun z0 => match z0 with | x_1 => ⟨mkS 19 0 [(0, sI64 s), (1, .fn 148 [] []), (7, aI64 (s.length : Int)), (8, aI64 x_1)], []⟩) (Q := fun x st' => match (generalizing := false) o13 with | .inl _ => x = .exit 0 ∧ Wk st' ⟨mkS 19 0 [], []⟩ | .inr (r0) => x = .ret ∧ FinQ Tryz.prog [.tmp 4] (aI64 r0) .ret st') hL14 ((Wk.gc [0, 1, 7, 8] [] rfl trivial).to (by kernel_rfl)) ?_ ?_
 ·clear hr
  rintro m x_1 hr
  show CQ _ _ _ _ ⟨_, _⟩
  refine CQ.seq ?_
  refine CQ.r0 fine ?_
  refine EVO.p1 (aB (decide (x_1 < (s.length : Int)))) ?_
  refine EVO.done ?_
  refine CQ.seq ?_
  refine CQ.cond (t := decide (x_1 < (s.length : Int))) (by kernel_rfl) (fun hb8 => ?_) (fun hb8 => ?_)
  ·replace hr := cd_t hb8 hr
   refine CQ.skip ?_
   refine CQ.seq ?_
   refine CQ.block ?_
   refine CQ.seq ?_
   refine CQ.r0 fine ?_
   refine EVO.p1 (aI64 x_1) ?_
   refine EVO.p1 (aI64 x_1) ?_
   refine EVO.done ?_
   refine CQ.n1 [0, 1, 5, 7, 8] (mkS 19 0 [(0, sI64 s), (1, .fn 148 [] []), (5, aI64 x_1), (7, aI64 (s.length : Int)), (8, aI64 x_1)]) [] ?_
   refine CQ.seq ?_
   replace hr := gd hr; obtain ⟨hg9, hr⟩ := hr
   replace hr := bd hr; obtain ⟨v10, hc11, hr⟩ := hr
   refine CQ.region fine (callOf_1 148 [aI64 (gt s x_1)] [] (.loc (aB v10) [] [] 0) (callOk_val (l := []) (args' := [aI64 (gt s x_1)]) rfl (SnL.cons (Sn.pure rfl) SnL.nil) (terrain_Check_2_ok n (gt s x_1) v10 hc11))) ?_
   refine EVO.p1 (.fn 148 [] []) ?_
   refine EVO.p1 (sI64 s) ?_
   refine EVO.p1 (aI64 x_1) ?_
   refine EVO.p0 (v := .pp (s.flatMap (iC .i64)) (x_1.toNat * 1)) (Eq.trans (b := ORes.ofP (guardV (inR x_1 s.length) (.pp (s.flatMap (iC .i64)) (x_1.toNat * 1)))) (by kernel_rfl) (ofP_guard hg9)) ?_
   refine EVO.p0 (v := aI64 (gt s x_1)) (Eq.trans (b := ORes.ofP ((s.flatMap (iC .i64))[x_1.toNat * 1]?)) (by kernel_rfl) (ofP_some (flat_get (iC_len _) (inR_lt hg9) (by decide : 0 < 1) (by omega : x_1.toNat * 1 = x_1.toNat * 1 + 0) (by kernel_rfl)))) ?_
   refine EVO.c0 (by kernel_rfl) (callOf_at (by kernel_rfl)) ?_
   refine EVO.done ?_
   refine CQ.n1 [0, 1, 5, 7, 8, 16] (mkS 19 0 [(0, sI64 s), (1, .fn 148 [] []), (5, aI64 x_1), (7, aI64 (s.length : Int)), (8, aI64 x_1), (16, aB v10)]) [] ?_
   refine CQ.cond (t := v10) (by kernel_rfl) (fun hb12 => ?_) (fun hb12 => ?_)
   ·replace hr := cd_t hb12 hr
    refine CQ.seq ?_
    refine CQ.r0 fine ?_
    refine EVO.p1 (aI64 x_1) ?_
    refine EVO.p1 (aI64 x_1) ?_
    refine EVO.done ?_
    refine CQ.ret ?_
    obtain rfl := Option.some.inj hr
    exact ⟨rfl, FinQ.ret (vs := [aI64 x_1]) (by kernel_rfl) (Sn.pure rfl)⟩
   ·replace hr := cd_f hb12 hr
    refine CQ.skip ?_
    refine CQ.pop ?_
    refine CQ.r0 fine ?_
    refine EVO.p1 (aI64 (wrapF .i64 (x_1 + 1))) ?_
    refine EVO.p1 (aI64 (wrapF .i64 (x_1 + 1))) ?_
    refine EVO.done ?_
    exact loopF_back (wrapF .i64 (x_1 + 1)) hr ((Wk.gc [0, 1, 7, 8] [] rfl trivial).to (by kernel_rfl))
  ·replace hr := cd_f hb8 hr
   refine CQ.leave rfl ?_
   obtain rfl := Option.some.inj hr
   exact ⟨rfl, ((Wk.gc [] [] rfl trivial).to (by kernel_rfl))⟩
 ·rcases o13 with ⟨⟩ | r0
  ·rintro x st' hq15
   clear hL14
   obtain ⟨rfl, hq15⟩ := hq15
   refine CQ_exit _ rfl ?_
   refine CQ.wk hq15 ?_
   refine CQ.seq ?_
   refine CQ.r0 fine ?_
   refine EVO.p1 (aI64 (-1)) ?_
   refine EVO.done ?_
   refine CQ.ret ?_
   obtain rfl := Option.some.inj hr
   exact FinQ.r1 [aI64 (-1)]
  ·rintro x st' hq15
   clear hL14
   obtain ⟨rfl, hq15⟩ := hq15
   obtain rfl := Option.some.inj hr
   exact CQ_ret _ hq15

theorem slices_ContainsFunc_int_int_of_terrain_Check_2_ok (n : Nat) (s : List Int) (r : Bool) (hr : slices_ContainsFunc_int_int_of_terrain_Check_2 n s = some r) : FnOk Tryz.prog 101 [slT (iC .i64) s, .fn 148 [] []] (.at (.bool r)) := by
 unfold slices_ContainsFunc_int_int_of_terrain_Check_2 at hr
 refine FnOk.body fine Tryz.func101 (c := (Tryz.f101.body).getD .skip) rfl (s := mkS 9 0 [(0, sI64 s), (1, .fn 148 [] [])]) (by kernel_rfl) (rs := [.tmp 4]) rfl ?_
 unfold Tryz.f101
 simp only [Option.getD_some]
 refine CQ.seq ?_
 refine CQ.r0 fine ?_
 refine EVO.p1 (aB false) ?_
 refine EVO.done ?_
 refine CQ.n1 [0, 1] (mkS 9 0 [(0, sI64 s), (1, .fn 148 [] [])]) [] ?_
 refine CQ.seq ?_
 replace hr := bd hr; obtain ⟨v1, hc2, hr⟩ := hr
 refine CQ.region fine (callOf_1 130 [sI64 s, .fn 148 [] []] [] (.loc (aI64 v1) [] [] 0) (callOk_val (l := []) (args' := [sI64 s, .fn 148 [] []]) rfl (SnL.cons (Sn.pure rfl) (SnL.cons (Sn.pure rfl) SnL.nil)) (slices_IndexFunc_int_int_of_terrain_Check_2_ok n s v1 hc2))) ?_
 refine EVO.p1 (sI64 s) ?_
 refine EVO.p1 (.fn 148 [] []) ?_
 refine EVO.c0 (by kernel_rfl) (callOf_at (by kernel_rfl)) ?_
 refine EVO.p1 (aB (decide (v1 ≥ 0))) ?_
 refine EVO.p1 (aB (decide (v1 ≥ 0))) ?_
 refine EVO.done ?_
 refine CQ.ret ?_
 obtain rfl := Option.some.inj hr
 exact FinQ.r1 [aB (decide (v1 ≥ 0))]

theorem terrain_Check_ok (n : Nat) (g : api_Grid) (r : Int) (hr : terrain_Check n g = some r) : FnOk Tryz.prog 124 [.agg [.at (.int .i64 g.X0), .at (.int .i64 g.Y0), .at (.int .i64 g.Step), .at (.int .i64 g.Width), .at (.int .i64 g.Height), slT (iC .i64) g.Z]] (.at (.int .i64 r)) := by
 unfold terrain_Check at hr
 refine FnOk.body fine Tryz.func124 (c := (Tryz.f124.body).getD .skip) rfl (s := mkS 54 0 [(0, .agg (api_Grid.c g))]) (by kernel_rfl) (rs := [.tmp 2]) rfl ?_
 unfold Tryz.f124
 simp only [Option.getD_some]
 refine CQ.seq ?_
 refine CQ.r0 fine ?_
 refine EVO.e1 (.hp 0 0) [(0, .own (api_Grid.c g))] ?_
 refine EVO.p1 (aI64 0) ?_
 refine EVO.done ?_
 refine CQ.n1 [1] (mkS 54 0 [(1, .hp 0 0)]) [.own (api_Grid.c g)] ?_
 refine CQ.seq ?_
 refine CQ.r0 fine ?_
 refine EVO.p1 (.fn 146 [] []) ?_
 refine EVO.done ?_
 refine CQ.seq ?_
 refine CQ.seq ?_
 replace hr := bd hr; obtain ⟨v1, hc2, hr⟩ := hr
 rcases Bool.eq_false_or_eq_true (!v1) with hb3 | hb3
 ·replace hr := cd_t hb3 hr
  refine CQ.region fine (callOf_1 146 [aI64 g.Width] [.own (api_Grid.c g)] (.loc (aB v1) [] [] 0) (callOk_val (l := []) (args' := [aI64 g.Width]) rfl (SnL.cons (Sn.pure rfl) SnL.nil) (terrain_Check_1_ok n g.Width v1 hc2))) ?_
  refine EVO.p1 (.fn 146 [] []) ?_
  refine EVO.p1 (.hp 0 3) ?_
  refine EVO.p1 (aI64 g.Width) ?_
  refine EVO.c0 (by kernel_rfl) (callOf_at (by kernel_rfl)) ?_
  refine EVO.p0 (v := aB true) (Eq.trans (b := some (.pure (aB (!v1)))) (by kernel_rfl) (by rw [hb3])) ?_
  refine EVO.p1 (aB true) ?_
  refine EVO.s1 ?_
  refine EVO.s1 ?_
  refine EVO.s1 ?_
  refine EVO.s1 ?_
  refine EVO.s1 ?_
  refine EVO.p1 (aB true) ?_
  refine EVO.p1 (aB true) ?_
  refine EVO.s1 ?_
  refine EVO.s1 ?_
  refine EVO.s1 ?_
  refine EVO.p1 (aB true) ?_
  refine EVO.p1 (aB true) ?_
  refine EVO.s1 ?_
  refine EVO.s1 ?_
  refine EVO.s1 ?_
  refine EVO.p1 (aB true) ?_
  refine EVO.p1 (aB true) ?_
  refine EVO.s1 ?_
  refine EVO.s1 ?_
  refine EVO.s1 ?_
  refine EVO.s1 ?_
  refine EVO.p1 (aB true) ?_
  refine EVO.p1 (aB true) ?_
  refine EVO.s1 ?_
  refine EVO.s1 ?_
  refine EVO.s1 ?_
  refine EVO.p1 (aB true) ?_
  refine EVO.p1 (aB true) ?_
  refine EVO.s1 ?_
  refine EVO.s1 ?_
  refine EVO.s1 ?_
  refine EVO.p1 (aB true) ?_
  refine EVO.done ?_
  refine CQ.n1 [1, 41] (mkS 54 0 [(1, .hp 0 0), (41, aB true)]) [.own (api_Grid.c g)] ?_
  refine CQ.cT (by kernel_rfl) ?_
  refine CQ.seq ?_
  refine CQ.r0 fine ?_
  refine EVO.p1 (aI64 2) ?_
  refine EVO.done ?_
  refine CQ.ret ?_
  obtain rfl := Option.some.inj hr
  exact FinQ.r1 [aI64 2]
 ·replace hr := cd_f hb3 hr
  replace hr := bd hr; obtain ⟨v4, hc5, hr⟩ := hr
  rcases Bool.eq_false_or_eq_true (!v4) with hb6 | hb6
  ·replace hr := cd_t hb6 hr
   refine CQ.region fine (callOf_ok [{ f := 146, args := [aI64 g.Width], H := [.own (api_Grid.c g)], r := .loc (aB v1) [] [] 0 : CE }, { f := 146, args := [aI64 g.Height], H := [.own (api_Grid.c g)], r := .loc (aB v4) [] [] 0 : CE }] (List.forall_mem_cons.2 ⟨(callOk_val (l := []) (args' := [aI64 g.Width]) rfl (SnL.cons (Sn.pure rfl) SnL.nil) (terrain_Check_1_ok n g.Width v1 hc2)), (List.forall_mem_cons.2 ⟨(callOk_val (l := []) (args' := [aI64 g.Height]) rfl (SnL.cons (Sn.pure rfl) SnL.nil) (terrain_Check_1_ok n g.Height v4 hc5)), ce0⟩)⟩)) ?_
   refine EVO.p1 (.fn 146 [] []) ?_
   refine EVO.p1 (.hp 0 3) ?_
   refine EVO.p1 (aI64 g.Width) ?_
   refine EVO.c0 (by kernel_rfl) (callOf_at (by kernel_rfl)) ?_
   refine EVO.p0 (v := aB false) (Eq.trans (b := some (.pure (aB (!v1)))) (by kernel_rfl) (by rw [hb3])) ?_
   refine EVO.p1 (aB false) ?_
   refine EVO.q1 (.fn 146 [] []) ?_
   refine EVO.q1 (.hp 0 4) ?_
   refine EVO.q1 (aI64 g.Height) ?_
   refine EVO.cal (by kernel_rfl) (by kernel_rfl) (callOf_skip (fun _ h => by obtain e0 := terrain_Check_1_inj h; rw [show v4 = v1 from Option.some.inj (hc5.symm.trans ((show terrain_Check_1 n g.Height = terrain_Check_1 n g.Width from (congr rfl e0)).trans hc2))]) (callOf_at (by kernel_rfl))) ?_
   refine EVO.pure (v := aB true) (by kernel_rfl) (Eq.trans (b := some (.pure (aB (!v4)))) (by kernel_rfl) (by rw [hb6])) ?_
   refine EVO.p1 (aB true) ?_
   refine EVO.p1 (aB true) ?_
   refine EVO.s1 ?_
   refine EVO.s1 ?_
   refine EVO.s1 ?_
   refine EVO.p1 (aB true) ?_
   refine EVO.p1 (aB true) ?_
   refine EVO.s1 ?_
   refine EVO.s1 ?_
   refine EVO.s1 ?_
   refine EVO.p1 (aB true) ?_
   refine EVO.p1 (aB true) ?_
   refine EVO.s1 ?_
   refine EVO.s1 ?_
   refine EVO.s1 ?_
   refine EVO.s1 ?_
   refine EVO.p1 (aB true) ?_
   refine EVO.p1 (aB true) ?_
   refine EVO.s1 ?_
   refine EVO.s1 ?_
   refine EVO.s1 ?_
   refine EVO.p1 (aB true) ?_
   refine EVO.p1 (aB true) ?_
   refine EVO.s1 ?_
   refine EVO.s1 ?_
   refine EVO.s1 ?_
   refine EVO.p1 (aB true) ?_
   refine EVO.done ?_
   refine CQ.n1 [1, 41] (mkS 54 0 [(1, .hp 0 0), (41, aB true)]) [.own (api_Grid.c g)] ?_
   refine CQ.cT (by kernel_rfl) ?_
   refine CQ.seq ?_
   refine CQ.r0 fine ?_
   refine EVO.p1 (aI64 2) ?_
   refine EVO.done ?_
   refine CQ.ret ?_
   obtain rfl := Option.some.inj hr
   exact FinQ.r1 [aI64 2]
  ·replace hr := cd_f hb6 hr
   rcases Bool.eq_false_or_eq_true (decide (g.Step < 2)) with hb7 | hb7
   ·replace hr := cd_t hb7 hr
    refine CQ.region fine (callOf_ok [{ f := 146, args := [aI64 g.Width], H := [.own (api_Grid.c g)], r := .loc (aB v1) [] [] 0 : CE }, { f := 146, args := [aI64 g.Height], H := [.own (api_Grid.c g)], r := .loc (aB v4) [] [] 0 : CE }] (List.forall_mem_cons.2 ⟨(callOk_val (l := []) (args' := [aI64 g.Width]) rfl (SnL.cons (Sn.pure rfl) SnL.nil) (terrain_Check_1_ok n g.Width v1 hc2)), (List.forall_mem_cons.2 ⟨(callOk_val (l := []) (args' := [aI64 g.Height]) rfl (SnL.cons (Sn.pure rfl) SnL.nil) (terrain_Check_1_ok n g.Height v4 hc5)), ce0⟩)⟩)) ?_
    refine EVO.p1 (.fn 146 [] []) ?_
    refine EVO.p1 (.hp 0 3) ?_
    refine EVO.p1 (aI64 g.Width) ?_
    refine EVO.c0 (by kernel_rfl) (callOf_at (by kernel_rfl)) ?_
    refine EVO.p0 (v := aB false) (Eq.trans (b := some (.pure (aB (!v1)))) (by kernel_rfl) (by rw [hb3])) ?_
    refine EVO.p1 (aB false) ?_
    refine EVO.q1 (.fn 146 [] []) ?_
    refine EVO.q1 (.hp 0 4) ?_
    refine EVO.q1 (aI64 g.Height) ?_
    refine EVO.cal (by kernel_rfl) (by kernel_rfl) (callOf_skip (fun _ h => by obtain e0 := terrain_Check_1_inj h; rw [show v4 = v1 from Option.some.inj (hc5.symm.trans ((show terrain_Check_1 n g.Height = terrain_Check_1 n g.Width from (congr rfl e0)).trans hc2))]) (callOf_at (by kernel_rfl))) ?_
    refine EVO.pure (v := aB false) (by kernel_rfl) (Eq.trans (b := some (.pure (aB (!v4)))) (by kernel_rfl) (by rw [hb6])) ?_
    refine EVO.p1 (aB false) ?_
    refine EVO.p1 (aB false) ?_
    refine EVO.q1 (.hp 0 2) ?_
    refine EVO.q1 (aI64 g.Step) ?_
    refine EVO.pure (v := aB true) (by kernel_rfl) (Eq.trans (b := some (.pure (aB (decide (g.Step < 2))))) (by kernel_rfl) (by rw [hb7])) ?_
    refine EVO.p1 (aB true) ?_
    refine EVO.p1 (aB true) ?_
    refine EVO.s1 ?_
    refine EVO.s1 ?_
    refine EVO.s1 ?_
    refine EVO.p1 (aB true) ?_
    refine EVO.p1 (aB true) ?_
    refine EVO.s1 ?_
    refine EVO.s1 ?_
    refine EVO.s1 ?_
    refine EVO.s1 ?_
    refine EVO.p1 (aB true) ?_
    refine EVO.p1 (aB true) ?_
    refine EVO.s1 ?_
    refine EVO.s1 ?_
    refine EVO.s1 ?_
    refine EVO.p1 (aB true) ?_
    refine EVO.p1 (aB true) ?_
    refine EVO.s1 ?_
    refine EVO.s1 ?_
    refine EVO.s1 ?_
    refine EVO.p1 (aB true) ?_
    refine EVO.done ?_
    refine CQ.n1 [1, 41] (mkS 54 0 [(1, .hp 0 0), (41, aB true)]) [.own (api_Grid.c g)] ?_
    refine CQ.cT (by kernel_rfl) ?_
    refine CQ.seq ?_
    refine CQ.r0 fine ?_
    refine EVO.p1 (aI64 2) ?_
    refine EVO.done ?_
    refine CQ.ret ?_
    obtain rfl := Option.some.inj hr
    exact FinQ.r1 [aI64 2]
   ·replace hr := cd_f hb7 hr
    rcases Bool.eq_false_or_eq_true (decide (g.Step > 65536)) with hb8 | hb8
    ·replace hr := cd_t hb8 hr
     refine CQ.region fine (callOf_ok [{ f := 146, args := [aI64 g.Width], H := [.own (api_Grid.c g)], r := .loc (aB v1) [] [] 0 : CE }, { f := 146, args := [aI64 g.Height], H := [.own (api_Grid.c g)], r := .loc (aB v4) [] [] 0 : CE }] (List.forall_mem_cons.2 ⟨(callOk_val (l := []) (args' := [aI64 g.Width]) rfl (SnL.cons (Sn.pure rfl) SnL.nil) (terrain_Check_1_ok n g.Width v1 hc2)), (List.forall_mem_cons.2 ⟨(callOk_val (l := []) (args' := [aI64 g.Height]) rfl (SnL.cons (Sn.pure rfl) SnL.nil) (terrain_Check_1_ok n g.Height v4 hc5)), ce0⟩)⟩)) ?_
     refine EVO.p1 (.fn 146 [] []) ?_
     refine EVO.p1 (.hp 0 3) ?_
     refine EVO.p1 (aI64 g.Width) ?_
     refine EVO.c0 (by kernel_rfl) (callOf_at (by kernel_rfl)) ?_
     refine EVO.p0 (v := aB false) (Eq.trans (b := some (.pure (aB (!v1)))) (by kernel_rfl) (by rw [hb3])) ?_
     refine EVO.p1 (aB false) ?_
     refine EVO.q1 (.fn 146 [] []) ?_
     refine EVO.q1 (.hp 0 4) ?_
     refine EVO.q1 (aI64 g.Height) ?_
     refine EVO.cal (by kernel_rfl) (by kernel_rfl) (callOf_skip (fun _ h => by obtain e0 := terrain_Check_1_inj h; rw [show v4 = v1 from Option.some.inj (hc5.symm.trans ((show terrain_Check_1 n g.Height = terrain_Check_1 n g.Width from (congr rfl e0)).trans hc2))]) (callOf_at (by kernel_rfl))) ?_
     refine EVO.pure (v := aB false) (by kernel_rfl) (Eq.trans (b := some (.pure (aB (!v4)))) (by kernel_rfl) (by rw [hb6])) ?_
     refine EVO.p1 (aB false) ?_
     refine EVO.p1 (aB false) ?_
     refine EVO.q1 (.hp 0 2) ?_
     refine EVO.q1 (aI64 g.Step) ?_
     refine EVO.pure (v := aB false) (by kernel_rfl) (Eq.trans (b := some (.pure (aB (decide (g.Step < 2))))) (by kernel_rfl) (by rw [hb7])) ?_
     refine EVO.p1 (aB false) ?_
     refine EVO.p1 (aB false) ?_
     refine EVO.q1 (.hp 0 2) ?_
     refine EVO.q1 (aI64 g.Step) ?_
     refine EVO.pure (v := aB true) (by kernel_rfl) (Eq.trans (b := some (.pure (aB (decide (g.Step > 65536))))) (by kernel_rfl) (by rw [hb8])) ?_
     refine EVO.p1 (aB true) ?_
     refine EVO.p1 (aB true) ?_
     refine EVO.s1 ?_
     refine EVO.s1 ?_
     refine EVO.s1 ?_
     refine EVO.s1 ?_
     refine EVO.p1 (aB true) ?_
     refine EVO.p1 (aB true) ?_
     refine EVO.s1 ?_
     refine EVO.s1 ?_
     refine EVO.s1 ?_
     refine EVO.p1 (aB true) ?_
     refine EVO.p1 (aB true) ?_
     refine EVO.s1 ?_
     refine EVO.s1 ?_
     refine EVO.s1 ?_
     refine EVO.p1 (aB true) ?_
     refine EVO.done ?_
     refine CQ.n1 [1, 41] (mkS 54 0 [(1, .hp 0 0), (41, aB true)]) [.own (api_Grid.c g)] ?_
     refine CQ.cT (by kernel_rfl) ?_
     refine CQ.seq ?_
     refine CQ.r0 fine ?_
     refine EVO.p1 (aI64 2) ?_
     refine EVO.done ?_
     refine CQ.ret ?_
     obtain rfl := Option.some.inj hr
     exact FinQ.r1 [aI64 2]
    ·replace hr := cd_f hb8 hr
     rcases Bool.eq_false_or_eq_true (((g.Step.tmod 2) : Int) != 0) with hb9 | hb9
     ·replace hr := cd_t hb9 hr
      refine CQ.region fine (callOf_ok [{ f := 146, args := [aI64 g.Width], H := [.own (api_Grid.c g)], r := .loc (aB v1) [] [] 0 : CE }, { f := 146, args := [aI64 g.Height], H := [.own (api_Grid.c g)], r := .loc (aB v4) [] [] 0 : CE }] (List.forall_mem_cons.2 ⟨(callOk_val (l := []) (args' := [aI64 g.Width]) rfl (SnL.cons (Sn.pure rfl) SnL.nil) (terrain_Check_1_ok n g.Width v1 hc2)), (List.forall_mem_cons.2 ⟨(callOk_val (l := []) (args' := [aI64 g.Height]) rfl (SnL.cons (Sn.pure rfl) SnL.nil) (terrain_Check_1_ok n g.Height v4 hc5)), ce0⟩)⟩)) ?_
      refine EVO.p1 (.fn 146 [] []) ?_
      refine EVO.p1 (.hp 0 3) ?_
      refine EVO.p1 (aI64 g.Width) ?_
      refine EVO.c0 (by kernel_rfl) (callOf_at (by kernel_rfl)) ?_
      refine EVO.p0 (v := aB false) (Eq.trans (b := some (.pure (aB (!v1)))) (by kernel_rfl) (by rw [hb3])) ?_
      refine EVO.p1 (aB false) ?_
      refine EVO.q1 (.fn 146 [] []) ?_
      refine EVO.q1 (.hp 0 4) ?_
      refine EVO.q1 (aI64 g.Height) ?_
      refine EVO.cal (by kernel_rfl) (by kernel_rfl) (callOf_skip (fun _ h => by obtain e0 := terrain_Check_1_inj h; rw [show v4 = v1 from Option.some.inj (hc5.symm.trans ((show terrain_Check_1 n g.Height = terrain_Check_1 n g.Width from (congr rfl e0)).trans hc2))]) (callOf_at (by kernel_rfl))) ?_
      refine EVO.pure (v := aB false) (by kernel_rfl) (Eq.trans (b := some (.pure (aB (!v4)))) (by kernel_rfl) (by rw [hb6])) ?_
      refine EVO.p1 (aB false) ?_
      refine EVO.p1 (aB false) ?_
      refine EVO.q1 (.hp 0 2) ?_
      refine EVO.q1 (aI64 g.Step) ?_
      refine EVO.pure (v := aB false) (by kernel_rfl) (Eq.trans (b := some (.pure (aB (decide (g.Step < 2))))) (by kernel_rfl) (by rw [hb7])) ?_
      refine EVO.p1 (aB false) ?_
      refine EVO.p1 (aB false) ?_
      refine EVO.q1 (.hp 0 2) ?_
      refine EVO.q1 (aI64 g.Step) ?_
      refine EVO.pure (v := aB false) (by kernel_rfl) (Eq.trans (b := some (.pure (aB (decide (g.Step > 65536))))) (by kernel_rfl) (by rw [hb8])) ?_
      refine EVO.p1 (aB false) ?_
      refine EVO.p1 (aB false) ?_
      refine EVO.q1 (.hp 0 2) ?_
      refine EVO.q1 (aI64 g.Step) ?_
      refine EVO.q1 (aI64 (g.Step.tmod 2)) ?_
      refine EVO.pure (v := aB true) (by kernel_rfl) (Eq.trans (b := some (.pure (aB (((g.Step.tmod 2) : Int) != 0)))) (by kernel_rfl) (by rw [hb9])) ?_
      refine EVO.p1 (aB true) ?_
      refine EVO.p1 (aB true) ?_
      refine EVO.s1 ?_
      refine EVO.s1 ?_
      refine EVO.s1 ?_
      refine EVO.p1 (aB true) ?_
      refine EVO.p1 (aB true) ?_
      refine EVO.s1 ?_
      refine EVO.s1 ?_
      refine EVO.s1 ?_
      refine EVO.p1 (aB true) ?_
      refine EVO.done ?_
      refine CQ.n1 [1, 41] (mkS 54 0 [(1, .hp 0 0), (41, aB true)]) [.own (api_Grid.c g)] ?_
      refine CQ.cT (by kernel_rfl) ?_
      refine CQ.seq ?_
      refine CQ.r0 fine ?_
      refine EVO.p1 (aI64 2) ?_
      refine EVO.done ?_
      refine CQ.ret ?_
      obtain rfl := Option.some.inj hr
      exact FinQ.r1 [aI64 2]
     ·replace hr := cd_f hb9 hr
      replace hr := bd hr; obtain ⟨v10, hc11, hr⟩ := hr
      rcases Bool.eq_false_or_eq_true v10 with hb12 | hb12
      ·subst hb12
       replace hr := cd_t rfl hr
       refine CQ.region fine (callOf_ok [{ f := 146, args := [aI64 g.Width], H := [.own (api_Grid.c g)], r := .loc (aB v1) [] [] 0 : CE }, { f := 146, args := [aI64 g.Height], H := [.own (api_Grid.c g)], r := .loc (aB v4) [] [] 0 : CE }, { f := 147, args := [aI64 g.X0], H := [.own (api_Grid.c g)], r := .loc (aB true) [] [] 0 : CE }] (List.forall_mem_cons.2 ⟨(callOk_val (l := []) (args' := [aI64 g.Width]) rfl (SnL.cons (Sn.pure rfl) SnL.nil) (terrain_Check_1_ok n g.Width v1 hc2)), (List.forall_mem_cons.2 ⟨(callOk_val (l := []) (args' := [aI64 g.Height]) rfl (SnL.cons (Sn.pure rfl) SnL.nil) (terrain_Check_1_ok n g.Height v4 hc5)), (List.forall_mem_cons.2 ⟨(callOk_val (l := []) (args' := [aI64 g.X0]) rfl (SnL.cons (Sn.pure rfl) SnL.nil) (terrain_far_ok n g.X0 true hc11)), ce0⟩)⟩)⟩)) ?_
       refine EVO.p1 (.fn 146 [] []) ?_
       refine EVO.p1 (.hp 0 3) ?_
       refine EVO.p1 (aI64 g.Width) ?_
       refine EVO.c0 (by kernel_rfl) (callOf_at (by kernel_rfl)) ?_
       refine EVO.p0 (v := aB false) (Eq.trans (b := some (.pure (aB (!v1)))) (by kernel_rfl) (by rw [hb3])) ?_
       refine EVO.p1 (aB false) ?_
       refine EVO.q1 (.fn 146 [] []) ?_
       refine EVO.q1 (.hp 0 4) ?_
       refine EVO.q1 (aI64 g.Height) ?_
       refine EVO.cal (by kernel_rfl) (by kernel_rfl) (callOf_skip (fun _ h => by obtain e0 := terrain_Check_1_inj h; rw [show v4 = v1 from Option.some.inj (hc5.symm.trans ((show terrain_Check_1 n g.Height = terrain_Check_1 n g.Width from (congr rfl e0)).trans hc2))]) (callOf_at (by kernel_rfl))) ?_
       refine EVO.pure (v := aB false) (by kernel_rfl) (Eq.trans (b := some (.pure (aB (!v4)))) (by kernel_rfl) (by rw [hb6])) ?_
       refine EVO.p1 (aB false) ?_
       refine EVO.p1 (aB false) ?_
       refine EVO.q1 (.hp 0 2) ?_
       refine EVO.q1 (aI64 g.Step) ?_
       refine EVO.pure (v := aB false) (by kernel_rfl) (Eq.trans (b := some (.pure (aB (decide (g.Step < 2))))) (by kernel_rfl) (by rw [hb7])) ?_
       refine EVO.p1 (aB false) ?_
       refine EVO.p1 (aB false) ?_
       refine EVO.q1 (.hp 0 2) ?_
       refine EVO.q1 (aI64 g.Step) ?_
       refine EVO.pure (v := aB false) (by kernel_rfl) (Eq.trans (b := some (.pure (aB (decide (g.Step > 65536))))) (by kernel_rfl) (by rw [hb8])) ?_
       refine EVO.p1 (aB false) ?_
       refine EVO.p1 (aB false) ?_
       refine EVO.q1 (.hp 0 2) ?_
       refine EVO.q1 (aI64 g.Step) ?_
       refine EVO.q1 (aI64 (g.Step.tmod 2)) ?_
       refine EVO.pure (v := aB false) (by kernel_rfl) (Eq.trans (b := some (.pure (aB (((g.Step.tmod 2) : Int) != 0)))) (by kernel_rfl) (by rw [hb9])) ?_
       refine EVO.p1 (aB false) ?_
       refine EVO.p1 (aB false) ?_
       refine EVO.q1 (.hp 0 0) ?_
       refine EVO.q1 (aI64 g.X0) ?_
       refine EVO.cal (by kernel_rfl) (by kernel_rfl) (callOf_skip (fun h _ => absurd (show (147 : Nat) = 146 from h) (by decide)) (callOf_skip (fun h _ => absurd (show (147 : Nat) = 146 from h) (by decide)) (callOf_at (by kernel_rfl)))) ?_
       refine EVO.p1 (aB true) ?_
       refine EVO.p1 (aB true) ?_
       refine EVO.s1 ?_
       refine EVO.s1 ?_
       refine EVO.s1 ?_
       refine EVO.p1 (aB true) ?_
       refine EVO.done ?_
       refine CQ.n1 [1, 41] (mkS 54 0 [(1, .hp 0 0), (41, aB true)]) [.own (api_Grid.c g)] ?_
       refine CQ.cT (by kernel_rfl) ?_
       refine CQ.seq ?_
       refine CQ.r0 fine ?_
       refine EVO.p1 (aI64 2) ?_
       refine EVO.done ?_
       refine CQ.ret ?_
       obtain rfl := Option.some.inj hr
       exact FinQ.r1 [aI64 2]
      ·subst hb12
       replace hr := cd_f rfl hr
       replace hr := bd hr; obtain ⟨v13, hc14, hr⟩ := hr
       refine CQ.region fine (callOf_ok [{ f := 146, args := [aI64 g.Width], H := [.own (api_Grid.c g)], r := .loc (aB v1) [] [] 0 : CE }, { f := 146, args := [aI64 g.Height], H := [.own (api_Grid.c g)], r := .loc (aB v4) [] [] 0 : CE }, { f := 147, args := [aI64 g.X0], H := [.own (api_Grid.c g)], r := .loc (aB false) [] [] 0 : CE }, { f := 147, args := [aI64 g.Y0], H := [.own (api_Grid.c g)], r := .loc (aB v13) [] [] 0 : CE }] (List.forall_mem_cons.2 ⟨(callOk_val (l := []) (args' := [aI64 g.Width]) rfl (SnL.cons (Sn.pure rfl) SnL.nil) (terrain_Check_1_ok n g.Width v1 hc2)), (List.forall_mem_cons.2 ⟨(callOk_val (l := []) (args' := [aI64 g.Height]) rfl (SnL.cons (Sn.pure rfl) SnL.nil) (terrain_Check_1_ok n g.Height v4 hc5)), (List.forall_mem_cons.2 ⟨(callOk_val (l := []) (args' := [aI64 g.X0]) rfl (SnL.cons (Sn.pure rfl) SnL.nil) (terrain_far_ok n g.X0 false hc11)), (List.forall_mem_cons.2 ⟨(callOk_val (l := []) (args' := [aI64 g.Y0]) rfl (SnL.cons (Sn.pure rfl) SnL.nil) (terrain_far_ok n g.Y0 v13 hc14)), ce0⟩)⟩)⟩)⟩)) ?_
       refine EVO.p1 (.fn 146 [] []) ?_
       refine EVO.p1 (.hp 0 3) ?_
       refine EVO.p1 (aI64 g.Width) ?_
       refine EVO.c0 (by kernel_rfl) (callOf_at (by kernel_rfl)) ?_
       refine EVO.p0 (v := aB false) (Eq.trans (b := some (.pure (aB (!v1)))) (by kernel_rfl) (by rw [hb3])) ?_
       refine EVO.p1 (aB false) ?_
       refine EVO.q1 (.fn 146 [] []) ?_
       refine EVO.q1 (.hp 0 4) ?_
       refine EVO.q1 (aI64 g.Height) ?_
       refine EVO.cal (by kernel_rfl) (by kernel_rfl) (callOf_skip (fun _ h => by obtain e0 := terrain_Check_1_inj h; rw [show v4 = v1 from Option.some.inj (hc5.symm.trans ((show terrain_Check_1 n g.Height = terrain_Check_1 n g.Width from (congr rfl e0)).trans hc2))]) (callOf_at (by kernel_rfl))) ?_
       refine EVO.pure (v := aB false) (by kernel_rfl) (Eq.trans (b := some (.pure (aB (!v4)))) (by kernel_rfl) (by rw [hb6])) ?_
       refine EVO.p1 (aB false) ?_
       refine EVO.p1 (aB false) ?_
       refine EVO.q1 (.hp 0 2) ?_
       refine EVO.q1 (aI64 g.Step) ?_
       refine EVO.pure (v := aB false) (by kernel_rfl) (Eq.trans (b := some (.pure (aB (decide (g.Step < 2))))) (by kernel_rfl) (by rw [hb7])) ?_
       refine EVO.p1 (aB false) ?_
       refine EVO.p1 (aB false) ?_
       refine EVO.q1 (.hp 0 2) ?_
       refine EVO.q1 (aI64 g.Step) ?_
       refine EVO.pure (v := aB false) (by kernel_rfl) (Eq.trans (b := some (.pure (aB (decide (g.Step > 65536))))) (by kernel_rfl) (by rw [hb8])) ?_
       refine EVO.p1 (aB false) ?_
       refine EVO.p1 (aB false) ?_
       refine EVO.q1 (.hp 0 2) ?_
       refine EVO.q1 (aI64 g.Step) ?_
       refine EVO.q1 (aI64 (g.Step.tmod 2)) ?_
       refine EVO.pure (v := aB false) (by kernel_rfl) (Eq.trans (b := some (.pure (aB (((g.Step.tmod 2) : Int) != 0)))) (by kernel_rfl) (by rw [hb9])) ?_
       refine EVO.p1 (aB false) ?_
       refine EVO.p1 (aB false) ?_
       refine EVO.q1 (.hp 0 0) ?_
       refine EVO.q1 (aI64 g.X0) ?_
       refine EVO.cal (by kernel_rfl) (by kernel_rfl) (callOf_skip (fun h _ => absurd (show (147 : Nat) = 146 from h) (by decide)) (callOf_skip (fun h _ => absurd (show (147 : Nat) = 146 from h) (by decide)) (callOf_at (by kernel_rfl)))) ?_
       refine EVO.p1 (aB false) ?_
       refine EVO.p1 (aB false) ?_
       refine EVO.q1 (.hp 0 1) ?_
       refine EVO.q1 (aI64 g.Y0) ?_
       refine EVO.cal (by kernel_rfl) (by kernel_rfl) (callOf_skip (fun h _ => absurd (show (147 : Nat) = 146 from h) (by decide)) (callOf_skip (fun h _ => absurd (show (147 : Nat) = 146 from h) (by decide)) (callOf_skip (fun _ h => by obtain e0 := terrain_far_inj h; rw [show v13 = false from Option.some.inj (hc14.symm.trans ((show terrain_far n g.Y0 = terrain_far n g.X0 from (congr rfl e0)).trans hc11))]) (callOf_at (by kernel_rfl))))) ?_
       refine EVO.p1 (aB v13) ?_
       refine EVO.done ?_
       refine CQ.n1 [1, 41] (mkS 54 0 [(1, .hp 0 0), (41, aB v13)]) [.own (api_Grid.c g)] ?_
       refine CQ.cond (t := v13) (by kernel_rfl) (fun hb15 => ?_) (fun hb15 => ?_)
       ·replace hr := cd_t hb15 hr
        refine CQ.seq ?_
        refine CQ.r0 fine ?_
        refine EVO.p1 (aI64 2) ?_
        refine EVO.done ?_
        refine CQ.ret ?_
        obtain rfl := Option.some.inj hr
        exact FinQ.r1 [aI64 2]
       ·replace hr := cd_f hb15 hr
        refine CQ.skip ?_
        refine CQ.seq ?_
        refine CQ.seq ?_
        refine CQ.r0 fine ?_
        refine EVO.p1 (.hp 0 5) ?_
        refine EVO.p1 (sI64 g.Z) ?_
        refine EVO.p1 (aI64 (g.Z.length : Int)) ?_
        refine EVO.p1 (.hp 0 3) ?_
        refine EVO.p1 (aI64 g.Width) ?_
        refine EVO.p1 (.hp 0 4) ?_
        refine EVO.p1 (aI64 g.Height) ?_
        refine EVO.p1 (aI64 (wrapF .i64 (g.Width * g.Height))) ?_
        refine EVO.p1 (aB (((g.Z.length : Int) : Int) != (wrapF .i64 (g.Width * g.Height)))) ?_
        refine EVO.done ?_
        refine CQ.n1 [1, 50] (mkS 54 0 [(1, .hp 0 0), (50, aB (((g.Z.length : Int) : Int) != (wrapF .i64 (g.Width * g.Height))))]) [.own (api_Grid.c g)] ?_
        refine CQ.cond (t := ((g.Z.length : Int) : Int) != (wrapF .i64 (g.Width * g.Height))) (by kernel_rfl) (fun hb16 => ?_) (fun hb16 => ?_)
        ·replace hr := cd_t hb16 hr
         refine CQ.seq ?_
         refine CQ.r0 fine ?_
         refine EVO.p1 (aI64 4) ?_
         refine EVO.done ?_
         refine CQ.ret ?_
         obtain rfl := Option.some.inj hr
         exact FinQ.r1 [aI64 4]
        ·replace hr := cd_f hb16 hr
         refine CQ.skip ?_
         refine CQ.seq ?_
         refine CQ.seq ?_
         replace hr := bd hr; obtain ⟨v17, hc18, hr⟩ := hr
         refine CQ.region fine (callOf_1 101 [sI64 g.Z, .fn 148 [] []] [.own (api_Grid.c g)] (.loc (aB v17) [] [] 0) (callOk_val (l := []) (args' := [sI64 g.Z, .fn 148 [] []]) rfl (SnL.cons (Sn.pure rfl) (SnL.cons (Sn.pure rfl) SnL.nil)) (slices_ContainsFunc_int_int_of_terrain_Check_2_ok n g.Z v17 hc18))) ?_
         refine EVO.p1 (.hp 0 5) ?_
         refine EVO.p1 (sI64 g.Z) ?_
         refine EVO.c0 (by kernel_rfl) (callOf_at (by kernel_rfl)) ?_
         refine EVO.done ?_
         refine CQ.n1 [53] (mkS 54 0 [(53, aB v17)]) [.own (api_Grid.c g)] ?_
         refine CQ.cond (t := v17) (by kernel_rfl) (fun hb19 => ?_) (fun hb19 => ?_)
         ·replace hr := cd_t hb19 hr
          refine CQ.seq ?_
          refine CQ.r0 fine ?_
          refine EVO.p1 (aI64 2) ?_
          refine EVO.done ?_
          refine CQ.ret ?_
          obtain rfl := Option.some.inj hr
          exact FinQ.r1 [aI64 2]
         ·replace hr := cd_f hb19 hr
          refine CQ.skip ?_
          refine CQ.seq ?_
          refine CQ.r0 fine ?_
          refine EVO.p1 (aI64 0) ?_
          refine EVO.done ?_
          refine CQ.ret ?_
          obtain rfl := Option.some.inj hr
          exact FinQ.r1 [aI64 0]

theorem change_Check_1_ok (n : Nat) (n' : Int) (r : Bool) (hr : change_Check_1 n n' = some r) : FnOk Tryz.prog 125 [.at (.int .i64 n')] (.at (.bool r)) := by
 unfold change_Check_1 at hr
 refine FnOk.body fine Tryz.func125 (c := (Tryz.f125.body).getD .skip) rfl (s := mkS 9 0 [(0, aI64 n')]) (by kernel_rfl) (rs := [.tmp 2]) rfl ?_
 unfold Tryz.f125
 simp only [Option.getD_some]
 refine CQ.seq ?_
 refine CQ.r0 fine ?_
 refine EVO.p1 (aB false) ?_
 refine EVO.done ?_
 refine CQ.n1 [0] (mkS 9 0 [(0, aI64 n')]) [] ?_
 refine CQ.seq ?_
 rcases Bool.eq_false_or_eq_true (decide (n' < 0)) with hb1 | hb1
 ·replace hr := cd_t hb1 hr
  refine CQ.r0 fine ?_
  refine EVO.p1 (aI64 n') ?_
  refine EVO.p0 (v := aB true) (Eq.trans (b := some (.pure (aB (decide (n' < 0))))) (by kernel_rfl) (by rw [hb1])) ?_
  refine EVO.p1 (aB true) ?_
  refine EVO.s1 ?_
  refine EVO.s1 ?_
  refine EVO.p1 (aB true) ?_
  refine EVO.p1 (aB true) ?_
  refine EVO.done ?_
  refine CQ.ret ?_
  obtain rfl := Option.some.inj hr
  exact FinQ.r1 [aB true]
 ·replace hr := cd_f hb1 hr
  refine CQ.r0 fine ?_
  refine EVO.p1 (aI64 n') ?_
  refine EVO.p0 (v := aB false) (Eq.trans (b := some (.pure (aB (decide (n' < 0))))) (by kernel_rfl) (by rw [hb1])) ?_
  refine EVO.p1 (aB false) ?_
  refine EVO.q1 (aI64 n') ?_
  refine EVO.q1 (aB (decide (n' > 1048576))) ?_
  refine EVO.p1 (aB (decide (n' > 1048576))) ?_
  refine EVO.p1 (aB (decide (n' > 1048576))) ?_
  refine EVO.done ?_
  refine CQ.ret ?_
  obtain rfl := Option.some.inj hr
  exact FinQ.r1 [aB (decide (n' > 1048576))]

theorem slices_IndexFunc_int_int_of_change_Check_1_ok (n : Nat) (s : List Int) (r : Int) (hr : slices_IndexFunc_int_int_of_change_Check_1 n s = some r) : FnOk Tryz.prog 130 [slT (iC .i64) s, .fn 125 [] []] (.at (.int .i64 r)) := by
 unfold slices_IndexFunc_int_int_of_change_Check_1 at hr
 refine FnOk.body fine Tryz.func130 (c := (Tryz.f130.body).getD .skip) rfl (s := mkS 19 0 [(0, sI64 s), (1, .fn 125 [] [])]) (by kernel_rfl) (rs := [.tmp 4]) rfl ?_
 unfold Tryz.f130
 simp only [Option.getD_some]
 refine CQ.seq ?_
 refine CQ.r0 fine ?_
 refine EVO.p1 (aI64 0) ?_
 refine EVO.done ?_
 refine CQ.n1 [0, 1] (mkS 19 0 [(0, sI64 s), (1, .fn 125 [] [])]) [] ?_
 refine CQ.seq ?_
 refine CQ.seq ?_
 refine CQ.r0 fine ?_
 refine EVO.p1 (sI64 s) ?_
 refine EVO.p1 (aI64 (s.length : Int)) ?_
 refine EVO.p1 (aI64 0) ?_
 refine EVO.done ?_
 refine CQ.n1 [0, 1, 7, 8] (mkS 19 0 [(0, sI64 s), (1, .fn 125 [] []), (7, aI64 (s.length : Int)), (8, aI64 0)]) [] ?_
 refine CQ.block ?_
 replace hr := bd hr; obtain ⟨o13, hL14, hr⟩ := hr
 refine CQ.loopO (σ := fun z0 => match z0 with | x_1 => ⟨mkS 19 0 [(0, sI64 s), (1, .fn 125 [] []), (7, aI64 (s.length : Int)), (8, aI64 x_1)], []⟩) (Q := fun x st' => match (generalizing := false) o13 with | .inl _ => x = .exit 0 ∧ Wk st' ⟨mkS 19 0 [], []⟩ | .inr (r0) => x = .ret ∧ FinQ Tryz.prog [.tmp 4] (aI64 r0) .ret st') hL14 ((Wk.gc [0, 1, 7, 8] [] rfl trivial).to (by kernel_rfl)) ?_ ?_
 ·clear hr
  rintro m x_1 hr
  show CQ _ _ _ _ ⟨_, _⟩
  refine CQ.seq ?_
  refine CQ.r0 fine ?_
  refine EVO.p1 (aB (decide (x_1 < (s.length : Int)))) ?_
  refine EVO.done ?_
  refine CQ.seq ?_
  refine CQ.cond (t := decide (x_1 < (s.length : Int))) (by kernel_rfl) (fun hb8 => ?_) (fun hb8 => ?_)
  ·replace hr := cd_t hb8 hr
   refine CQ.skip ?_
   refine CQ.seq ?_
   refine CQ.block ?_
   refine CQ.seq ?_
   refine CQ.r0 fine ?_
   refine EVO.p1 (aI64 x_1) ?_
   refine EVO.p1 (aI64 x_1) ?_
   refine EVO.done ?_
   refine CQ.n1 [0, 1, 5, 7, 8] (mkS 19 0 [(0, sI64 s), (1, .fn 125 [] []), (5, aI64 x_1), (7, aI64 (s.length : Int)), (8, aI64 x_1)]) [] ?_
   refine CQ.seq ?_
   replace hr := gd hr; obtain ⟨hg9, hr⟩ := hr
   replace hr := bd hr; obtain ⟨v10, hc11, hr⟩ := hr
   refine CQ.region fine (callOf_1 125 [aI64 (gt s x_1)] [] (.loc (aB v10) [] [] 0) (callOk_val (l := []) (args' := [aI64 (gt s x_1)]) rfl (SnL.cons (Sn.pure rfl) SnL.nil) (change_Check_1_ok n (gt s x_1) v10 hc11))) ?_
   refine EVO.p1 (.fn 125 [] []) ?_
   refine EVO.p1 (sI64 s) ?_
   refine EVO.p1 (aI64 x_1) ?_
   refine EVO.p0 (v := .pp (s.flatMap (iC .i64)) (x_1.toNat * 1)) (Eq.trans (b := ORes.ofP (guardV (inR x_1 s.length) (.pp (s.flatMap (iC .i64)) (x_1.toNat * 1)))) (by kernel_rfl) (ofP_guard hg9)) ?_
   refine EVO.p0 (v := aI64 (gt s x_1)) (Eq.trans (b := ORes.ofP ((s.flatMap (iC .i64))[x_1.toNat * 1]?)) (by kernel_rfl) (ofP_some (flat_get (iC_len _) (inR_lt hg9) (by decide : 0 < 1) (by omega : x_1.toNat * 1 = x_1.toNat * 1 + 0) (by kernel_rfl)))) ?_
   refine EVO.c0 (by kernel_rfl) (callOf_at (by kernel_rfl)) ?_
   refine EVO.done ?_
   refine CQ.n1 [0, 1, 5, 7, 8, 16] (mkS 19 0 [(0, sI64 s), (1, .fn 125 [] []), (5, aI64 x_1), (7, aI64 (s.length : Int)), (8, aI64 x_1), (16, aB v10)]) [] ?_
   refine CQ.cond (t := v10) (by kernel_rfl) (fun hb12 => ?_) (fun hb12 => ?_)
   ·replace hr := cd_t hb12 hr
    refine CQ.seq ?_
    refine CQ.r0 fine ?_
    refine EVO.p1 (aI64 x_1) ?_
    refine EVO.p1 (aI64 x_1) ?_
    refine EVO.done ?_
    refine CQ.ret ?_
    obtain rfl := Option.some.inj hr
    exact ⟨rfl, FinQ.ret (vs := [aI64 x_1]) (by kernel_rfl) (Sn.pure rfl)⟩
   ·replace hr := cd_f hb12 hr
    refine CQ.skip ?_
    refine CQ.pop ?_
    refine CQ.r0 fine ?_
    refine EVO.p1 (aI64 (wrapF .i64 (x_1 + 1))) ?_
    refine EVO.p1 (aI64 (wrapF .i64 (x_1 + 1))) ?_
    refine EVO.done ?_
    exact loopF_back (wrapF .i64 (x_1 + 1)) hr ((Wk.gc [0, 1, 7, 8] [] rfl trivial).to (by kernel_rfl))
  ·replace hr := cd_f hb8 hr
   refine CQ.leave rfl ?_
   obtain rfl := Option.some.inj hr
   exact ⟨rfl, ((Wk.gc [] [] rfl trivial).to (by kernel_rfl))⟩
 ·rcases o13 with ⟨⟩ | r0
  ·rintro x st' hq15
   clear hL14
   obtain ⟨rfl, hq15⟩ := hq15
   refine CQ_exit _ rfl ?_
   refine CQ.wk hq15 ?_
   refine CQ.seq ?_
   refine CQ.r0 fine ?_
   refine EVO.p1 (aI64 (-1)) ?_
   refine EVO.done ?_
   refine CQ.ret ?_
   obtain rfl := Option.some.inj hr
   exact FinQ.r1 [aI64 (-1)]
  ·rintro x st' hq15
   clear hL14
   obtain ⟨rfl, hq15⟩ := hq15
   obtain rfl := Option.some.inj hr
   exact CQ_ret _ hq15

theorem slices_ContainsFunc_int_int_of_change_Check_1_ok (n : Nat) (s : List Int) (r : Bool) (hr : slices_ContainsFunc_int_int_of_change_Check_1 n s = some r) : FnOk Tryz.prog 101 [slT (iC .i64) s, .fn 125 [] []] (.at (.bool r)) := by
 unfold slices_ContainsFunc_int_int_of_change_Check_1 at hr
 refine FnOk.body fine Tryz.func101 (c := (Tryz.f101.body).getD .skip) rfl (s := mkS 9 0 [(0, sI64 s), (1, .fn 125 [] [])]) (by kernel_rfl) (rs := [.tmp 4]) rfl ?_
 unfold Tryz.f101
 simp only [Option.getD_some]
 refine CQ.seq ?_
 refine CQ.r0 fine ?_
 refine EVO.p1 (aB false) ?_
 refine EVO.done ?_
 refine CQ.n1 [0, 1] (mkS 9 0 [(0, sI64 s), (1, .fn 125 [] [])]) [] ?_
 refine CQ.seq ?_
 replace hr := bd hr; obtain ⟨v1, hc2, hr⟩ := hr
 refine CQ.region fine (callOf_1 130 [sI64 s, .fn 125 [] []] [] (.loc (aI64 v1) [] [] 0) (callOk_val (l := []) (args' := [sI64 s, .fn 125 [] []]) rfl (SnL.cons (Sn.pure rfl) (SnL.cons (Sn.pure rfl) SnL.nil)) (slices_IndexFunc_int_int_of_change_Check_1_ok n s v1 hc2))) ?_
 refine EVO.p1 (sI64 s) ?_
 refine EVO.p1 (.fn 125 [] []) ?_
 refine EVO.c0 (by kernel_rfl) (callOf_at (by kernel_rfl)) ?_
 refine EVO.p1 (aB (decide (v1 ≥ 0))) ?_
 refine EVO.p1 (aB (decide (v1 ≥ 0))) ?_
 refine EVO.done ?_
 refine CQ.ret ?_
 obtain rfl := Option.some.inj hr
 exact FinQ.r1 [aB (decide (v1 ≥ 0))]

theorem change_Check_ok (n : Nat) (b : api_Banded) (r : Int) (hr : change_Check n b = some r) : FnOk Tryz.prog 94 [.agg [.at (.int .i64 b.Grid.X0), .at (.int .i64 b.Grid.Y0), .at (.int .i64 b.Grid.Step), .at (.int .i64 b.Grid.Width), .at (.int .i64 b.Grid.Height), slT (iC .i64) b.Grid.Z, slT (iC .i64) b.Err]] (.at (.int .i64 r)) := by
 unfold change_Check at hr
 refine FnOk.body fine Tryz.func94 (c := (Tryz.f94.body).getD .skip) rfl (s := mkS 21 0 [(0, .agg (api_Banded.c b))]) (by kernel_rfl) (rs := [.tmp 2]) rfl ?_
 unfold Tryz.f94
 simp only [Option.getD_some]
 refine CQ.seq ?_
 refine CQ.r0 fine ?_
 refine EVO.e1 (.hp 0 0) [(0, .own (api_Banded.c b))] ?_
 refine EVO.p1 (aI64 0) ?_
 refine EVO.done ?_
 refine CQ.n1 [1] (mkS 21 0 [(1, .hp 0 0)]) [.own (api_Banded.c b)] ?_
 refine CQ.seq ?_
 refine CQ.seq ?_
 replace hr := bd hr; obtain ⟨v1, hc2, hr⟩ := hr
 refine CQ.region fine (callOf_1 124 [.agg (api_Grid.c b.Grid)] [.own (api_Banded.c b)] (.loc (aI64 v1) [] [] 0) (callOk_val (l := []) (args' := [.agg (api_Grid.c b.Grid)]) rfl (SnL.cons (Sn.pure rfl) SnL.nil) (terrain_Check_ok n b.Grid v1 hc2))) ?_
 refine EVO.p1 (.hp 0 0) ?_
 refine EVO.p1 (.agg (api_Grid.c b.Grid)) ?_
 refine EVO.c0 (by kernel_rfl) (callOf_at (by kernel_rfl)) ?_
 refine EVO.p1 (aI64 v1) ?_
 refine EVO.done ?_
 refine CQ.n1 [1, 3] (mkS 21 0 [(1, .hp 0 0), (3, aI64 v1)]) [.own (api_Banded.c b)] ?_
 refine CQ.seq ?_
 refine CQ.r0 fine ?_
 refine EVO.p1 (aI64 v1) ?_
 refine EVO.p1 (aB ((v1 : Int) != 0)) ?_
 refine EVO.done ?_
 refine CQ.n1 [1, 3, 8] (mkS 21 0 [(1, .hp 0 0), (3, aI64 v1), (8, aB ((v1 : Int) != 0))]) [.own (api_Banded.c b)] ?_
 refine CQ.cond (t := (v1 : Int) != 0) (by kernel_rfl) (fun hb3 => ?_) (fun hb3 => ?_)
 ·replace hr := cd_t hb3 hr
  refine CQ.seq ?_
  refine CQ.r0 fine ?_
  refine EVO.p1 (aI64 v1) ?_
  refine EVO.p1 (aI64 v1) ?_
  refine EVO.done ?_
  refine CQ.ret ?_
  obtain rfl := Option.some.inj hr
  exact FinQ.r1 [aI64 v1]
 ·replace hr := cd_f hb3 hr
  refine CQ.skip ?_
  refine CQ.seq ?_
  refine CQ.seq ?_
  refine CQ.r0 fine ?_
  refine EVO.p1 (.hp 0 6) ?_
  refine EVO.p1 (sI64 b.Err) ?_
  refine EVO.p1 (aI64 (b.Err.length : Int)) ?_
  refine EVO.p1 (.hp 0 0) ?_
  refine EVO.p1 (.hp 0 5) ?_
  refine EVO.p1 (sI64 b.Grid.Z) ?_
  refine EVO.p1 (aI64 (b.Grid.Z.length : Int)) ?_
  refine EVO.p1 (aB (((b.Err.length : Int) : Int) != (b.Grid.Z.length : Int))) ?_
  refine EVO.done ?_
  refine CQ.n1 [1, 17] (mkS 21 0 [(1, .hp 0 0), (17, aB (((b.Err.length : Int) : Int) != (b.Grid.Z.length : Int)))]) [.own (api_Banded.c b)] ?_
  refine CQ.cond (t := ((b.Err.length : Int) : Int) != (b.Grid.Z.length : Int)) (by kernel_rfl) (fun hb4 => ?_) (fun hb4 => ?_)
  ·replace hr := cd_t hb4 hr
   refine CQ.seq ?_
   refine CQ.r0 fine ?_
   refine EVO.p1 (aI64 4) ?_
   refine EVO.done ?_
   refine CQ.ret ?_
   obtain rfl := Option.some.inj hr
   exact FinQ.r1 [aI64 4]
  ·replace hr := cd_f hb4 hr
   refine CQ.skip ?_
   refine CQ.seq ?_
   refine CQ.seq ?_
   replace hr := bd hr; obtain ⟨v5, hc6, hr⟩ := hr
   refine CQ.region fine (callOf_1 101 [sI64 b.Err, .fn 125 [] []] [.own (api_Banded.c b)] (.loc (aB v5) [] [] 0) (callOk_val (l := []) (args' := [sI64 b.Err, .fn 125 [] []]) rfl (SnL.cons (Sn.pure rfl) (SnL.cons (Sn.pure rfl) SnL.nil)) (slices_ContainsFunc_int_int_of_change_Check_1_ok n b.Err v5 hc6))) ?_
   refine EVO.p1 (.hp 0 6) ?_
   refine EVO.p1 (sI64 b.Err) ?_
   refine EVO.c0 (by kernel_rfl) (callOf_at (by kernel_rfl)) ?_
   refine EVO.done ?_
   refine CQ.n1 [20] (mkS 21 0 [(20, aB v5)]) [.own (api_Banded.c b)] ?_
   refine CQ.cond (t := v5) (by kernel_rfl) (fun hb7 => ?_) (fun hb7 => ?_)
   ·replace hr := cd_t hb7 hr
    refine CQ.seq ?_
    refine CQ.r0 fine ?_
    refine EVO.p1 (aI64 2) ?_
    refine EVO.done ?_
    refine CQ.ret ?_
    obtain rfl := Option.some.inj hr
    exact FinQ.r1 [aI64 2]
   ·replace hr := cd_f hb7 hr
    refine CQ.skip ?_
    refine CQ.seq ?_
    refine CQ.r0 fine ?_
    refine EVO.p1 (aI64 0) ?_
    refine EVO.done ?_
    refine CQ.ret ?_
    obtain rfl := Option.some.inj hr
    exact FinQ.r1 [aI64 0]

theorem change_fit_ok (n : Nat) (l : List api_Banded) (r : Int) (hr : change_fit n l = some r) : FnOk Tryz.prog 48 [slT api_Banded.c l] (.at (.int .i64 r)) := by
 unfold change_fit at hr
 refine FnOk.body fine Tryz.func48 (c := (Tryz.f48.body).getD .skip) rfl (s := mkS 68 0 [(0, slT api_Banded.c l)]) (by kernel_rfl) (rs := [.tmp 2]) rfl ?_
 unfold Tryz.f48
 simp only [Option.getD_some]
 refine CQ.seq ?_
 refine CQ.r0 fine ?_
 refine EVO.p1 (aI64 0) ?_
 refine EVO.done ?_
 refine CQ.n1 [0] (mkS 68 0 [(0, slT api_Banded.c l)]) [] ?_
 refine CQ.seq ?_
 refine CQ.seq ?_
 refine CQ.r0 fine ?_
 refine EVO.p1 (slT api_Banded.c l) ?_
 refine EVO.p1 (aI64 (l.length : Int)) ?_
 refine EVO.p1 (aI64 0) ?_
 refine EVO.done ?_
 refine CQ.block ?_
 replace hr := bd hr; obtain ⟨o13, hL14, hr⟩ := hr
 refine CQ.loopO (σ := fun z0 => match z0 with | x_1 => ⟨mkS 68 0 [(0, slT api_Banded.c l), (10, slT api_Banded.c l), (11, aI64 (l.length : Int)), (12, aI64 x_1)], []⟩) (Q := fun x st' => match (generalizing := false) o13 with | .inl _ => x = .exit 0 ∧ Wk st' ⟨mkS 68 0 [(0, slT api_Banded.c l)], []⟩ | .inr (r0) => x = .ret ∧ FinQ Tryz.prog [.tmp 2] (aI64 r0) .ret st') hL14 ((Wk.gc [0, 10, 11, 12] [] rfl trivial).to (by kernel_rfl)) ?_ ?_
 ·clear hr
  rintro m x_1 hr
  show CQ _ _ _ _ ⟨_, _⟩
  refine CQ.seq ?_
  refine CQ.r0 fine ?_
  refine EVO.p1 (aB (decide (x_1 < (l.length : Int)))) ?_
  refine EVO.done ?_
  refine CQ.seq ?_
  refine CQ.cond (t := decide (x_1 < (l.length : Int))) (by kernel_rfl) (fun hb8 => ?_) (fun hb8 => ?_)
  ·replace hr := cd_t hb8 hr
   refine CQ.skip ?_
   refine CQ.seq ?_
   refine CQ.block ?_
   refine CQ.seq ?_
   replace hr := gd hr; obtain ⟨hg9, hr⟩ := hr
   refine CQ.r0 fine ?_
   refine EVO.p0 (v := .pp (l.flatMap api_Banded.c) (x_1.toNat * 7)) (Eq.trans (b := ORes.ofP (guardV (inR x_1 l.length) (.pp (l.flatMap api_Banded.c) (x_1.toNat * 7)))) (by kernel_rfl) (ofP_guard hg9)) ?_
   refine EVO.p0 (v := .agg (api_Banded.c (gt l x_1))) (Eq.trans (b := ORes.ofP (guardV (decide (7 ≤ ((l.flatMap api_Banded.c).drop (x_1.toNat * 7)).length)) (.agg (((l.flatMap api_Banded.c).drop (x_1.toNat * 7)).take 7)))) (by kernel_rfl) (flat_load api_Banded.len (inR_lt hg9) (by decide) (by omega : x_1.toNat * 7 = x_1.toNat * 7 + 0) (by kernel_rfl))) ?_
   refine EVO.e1 (.hp 0 0) [(0, .own [aI64 0, aI64 0, aI64 0, aI64 0, aI64 0, .at (.slice none 0 0), .at (.slice none 0 0)])] ?_
   refine EVO.e1 (.unk) [(0, .own (api_Banded.c (gt l x_1)))] ?_
   refine EVO.done ?_
   refine CQ.n1 [0, 4, 10, 11, 12] (mkS 68 0 [(0, slT api_Banded.c l), (4, .hp 0 0), (10, slT api_Banded.c l), (11, aI64 (l.length : Int)), (12, aI64 x_1)]) [.own (api_Banded.c (gt l x_1))] ?_
   refine CQ.seq ?_
   replace hr := bd hr; obtain ⟨v10, hc11, hr⟩ := hr
   refine CQ.region fine (callOf_1 94 [.agg (api_Banded.c (gt l x_1))] [.own (api_Banded.c (gt l x_1))] (.loc (aI64 v10) [] [] 0) (callOk_val (l := []) (args' := [.agg (api_Banded.c (gt l x_1))]) rfl (SnL.cons (Sn.pure rfl) SnL.nil) (change_Check_ok n (gt l x_1) v10 hc11))) ?_
   refine EVO.p1 (.agg (api_Banded.c (gt l x_1))) ?_
   refine EVO.c0 (by kernel_rfl) (callOf_at (by kernel_rfl)) ?_
   refine EVO.p1 (aI64 v10) ?_
   refine EVO.done ?_
   refine CQ.n1 [0, 5, 10, 11, 12] (mkS 68 0 [(0, slT api_Banded.c l), (5, aI64 v10), (10, slT api_Banded.c l), (11, aI64 (l.length : Int)), (12, aI64 x_1)]) [.own (api_Banded.c (gt l x_1))] ?_
   refine CQ.seq ?_
   refine CQ.r0 fine ?_
   refine EVO.p1 (aI64 v10) ?_
   refine EVO.p1 (aB ((v10 : Int) != 0)) ?_
   refine EVO.done ?_
   refine CQ.n1 [0, 5, 10, 11, 12, 19] (mkS 68 0 [(0, slT api_Banded.c l), (5, aI64 v10), (10, slT api_Banded.c l), (11, aI64 (l.length : Int)), (12, aI64 x_1), (19, aB ((v10 : Int) != 0))]) [.own (api_Banded.c (gt l x_1))] ?_
   refine CQ.cond (t := (v10 : Int) != 0) (by kernel_rfl) (fun hb12 => ?_) (fun hb12 => ?_)
   ·replace hr := cd_t hb12 hr
    refine CQ.seq ?_
    refine CQ.r0 fine ?_
    refine EVO.p1 (aI64 v10) ?_
    refine EVO.p1 (aI64 v10) ?_
    refine EVO.done ?_
    refine CQ.ret ?_
    obtain rfl := Option.some.inj hr
    exact ⟨rfl, FinQ.ret (vs := [aI64 v10]) (by kernel_rfl) (Sn.pure rfl)⟩
   ·replace hr := cd_f hb12 hr
    refine CQ.skip ?_
    refine CQ.pop ?_
    refine CQ.r0 fine ?_
    refine EVO.p1 (aI64 (wrapF .i64 (x_1 + 1))) ?_
    refine EVO.p1 (aI64 (wrapF .i64 (x_1 + 1))) ?_
    refine EVO.done ?_
    exact loopF_back (wrapF .i64 (x_1 + 1)) hr ((Wk.gc [0, 10, 11, 12] [] rfl trivial).to (by kernel_rfl))
  ·replace hr := cd_f hb8 hr
   refine CQ.leave rfl ?_
   obtain rfl := Option.some.inj hr
   exact ⟨rfl, ((Wk.gc [0] [] rfl trivial).to (by kernel_rfl))⟩
 ·rcases o13 with ⟨⟩ | r0
  ·rintro x st' hq15
   clear hL14
   obtain ⟨rfl, hq15⟩ := hq15
   refine CQ_exit _ rfl ?_
   refine CQ.wk hq15 ?_
   refine CQ.seq ?_
   refine CQ.seq ?_
   refine CQ.r0 fine ?_
   refine EVO.p1 (slT api_Banded.c l) ?_
   refine EVO.p1 (aI64 (l.length : Int)) ?_
   refine EVO.p1 (aI64 0) ?_
   refine EVO.done ?_
   refine CQ.block ?_
   replace hr := bd hr; obtain ⟨o34, hL35, hr⟩ := hr
   refine CQ.loopO (σ := fun z0 => match z0 with | x_16 => ⟨mkS 68 0 [(0, slT api_Banded.c l), (22, slT api_Banded.c l), (23, aI64 (l.length : Int)), (24, aI64 x_16)], []⟩) (Q := fun x st' => match (generalizing := false) o34 with | .inl _ => x = .exit 2 ∧ Wk st' ⟨mkS 68 0 [], []⟩ | .inr (r0) => x = .ret ∧ FinQ Tryz.prog [.tmp 2] (aI64 r0) .ret st') hL35 ((Wk.gc [0, 22, 23, 24] [] rfl trivial).to (by kernel_rfl)) ?_ ?_
   ·clear hr
    rintro m x_16 hr
    show CQ _ _ _ _ ⟨_, _⟩
    refine CQ.seq ?_
    refine CQ.r0 fine ?_
    refine EVO.p1 (aB (decide (x_16 < (l.length : Int)))) ?_
    refine EVO.done ?_
    refine CQ.seq ?_
    refine CQ.cond (t := decide (x_16 < (l.length : Int))) (by kernel_rfl) (fun hb26 => ?_) (fun hb26 => ?_)
    ·replace hr := cd_t hb26 hr
     refine CQ.skip ?_
     refine CQ.seq ?_
     refine CQ.block ?_
     refine CQ.seq ?_
     replace hr := gd hr; obtain ⟨hg27, hr⟩ := hr
     refine CQ.r0 fine ?_
     refine EVO.p0 (v := .pp (l.flatMap api_Banded.c) (x_16.toNat * 7)) (Eq.trans (b := ORes.ofP (guardV (inR x_16 l.length) (.pp (l.flatMap api_Banded.c) (x_16.toNat * 7)))) (by kernel_rfl) (ofP_guard hg27)) ?_
     refine EVO.p0 (v := .agg (api_Banded.c (gt l x_16))) (Eq.trans (b := ORes.ofP (guardV (decide (7 ≤ ((l.flatMap api_Banded.c).drop (x_16.toNat * 7)).length)) (.agg (((l.flatMap api_Banded.c).drop (x_16.toNat * 7)).take 7)))) (by kernel_rfl) (flat_load api_Banded.len (inR_lt hg27) (by decide) (by omega : x_16.toNat * 7 = x_16.toNat * 7 + 0) (by kernel_rfl))) ?_
     refine EVO.e1 (.hp 0 0) [(0, .own [aI64 0, aI64 0, aI64 0, aI64 0, aI64 0, .at (.slice none 0 0), .at (.slice none 0 0)])] ?_
     refine EVO.e1 (.unk) [(0, .own (api_Banded.c (gt l x_16)))] ?_
     refine EVO.done ?_
     refine CQ.n1 [0, 7, 22, 23, 24] (mkS 68 0 [(0, slT api_Banded.c l), (7, .hp 0 0), (22, slT api_Banded.c l), (23, aI64 (l.length : Int)), (24, aI64 x_16)]) [.own (api_Banded.c (gt l x_16))] ?_
     refine CQ.seq ?_
     replace hr := gd hr; obtain ⟨hg28, hr⟩ := hr
     refine CQ.regionT fine callOf_nil ?_
     refine EVT.p1 (slT api_Banded.c l) ?_
     refine EVT.pure (v := .pp (l.flatMap api_Banded.c) ((0 : Int).toNat * 7)) (by kernel_rfl) (Eq.trans (b := ORes.ofP (guardV (inR 0 l.length) (.pp (l.flatMap api_Banded.c) ((0 : Int).toNat * 7)))) (by kernel_rfl) (ofP_guard hg28)) (by kernel_rfl) ?_
     refine EVT.p1 (.pp (l.flatMap api_Banded.c) ((0 : Int).toNat * 7 + 0)) ?_
     refine EVT.pure (v := .agg (api_Grid.c (gt l 0).Grid)) (by kernel_rfl) (Eq.trans (b := ORes.ofP (guardV (decide (6 ≤ ((l.flatMap api_Banded.c).drop ((0 : Int).toNat * 7 + 0)).length)) (.agg (((l.flatMap api_Banded.c).drop ((0 : Int).toNat * 7 + 0)).take 6)))) (by kernel_rfl) (flat_load api_Banded.len (inR_lt hg28) (by decide) (by omega : (0 : Int).toNat * 7 + 0 = (0 : Int).toNat * 7 + 0) (by kernel_rfl))) (by kernel_rfl) ?_
     refine EVT.p1 (.hp 0 0) ?_
     refine EVT.p1 (.agg (api_Grid.c (gt l x_16).Grid)) ?_
     refine EVT.e1 (.hp 1 0) [(1, .own [aI64 0, aI64 0, aI64 0, aI64 0, aI64 0, .at (.slice none 0 0)])] ?_
     refine EVT.e1 (.hp 2 0) [(2, .own [aI64 0, aI64 0, aI64 0, aI64 0, aI64 0, .at (.slice none 0 0)])] ?_
     refine EVT.e1 (.unk) [(1, .own (api_Grid.c (gt l 0).Grid))] ?_
     refine EVT.e1 (.unk) [(2, .own (api_Grid.c (gt l x_16).Grid))] ?_
     refine EVT.done ⟨by kernel_rfl, ?_⟩
     refine CQ.n1 [0, 8, 9, 22, 23, 24] (mkS 68 0 [(0, slT api_Banded.c l), (8, .hp 1 0), (9, .hp 2 0), (22, slT api_Banded.c l), (23, aI64 (l.length : Int)), (24, aI64 x_16)]) [.own (api_Banded.c (gt l x_16)), .own (api_Grid.c (gt l 0).Grid), .own (api_Grid.c (gt l x_16).Grid)] ?_
     refine CQ.seq ?_
     rcases Bool.eq_false_or_eq_true (((gt l 0).Grid.X0 : Int) != (gt l x_16).Grid.X0) with hb29 | hb29
     ·replace hr := cd_t hb29 hr
      refine CQ.r0 fine ?_
      refine EVO.p1 (.hp 1 0) ?_
      refine EVO.p1 (aI64 (gt l 0).Grid.X0) ?_
      refine EVO.p1 (.hp 2 0) ?_
      refine EVO.p1 (aI64 (gt l x_16).Grid.X0) ?_
      refine EVO.p0 (v := aB true) (Eq.trans (b := some (.pure (aB (((gt l 0).Grid.X0 : Int) != (gt l x_16).Grid.X0)))) (by kernel_rfl) (by rw [hb29])) ?_
      refine EVO.p1 (aB true) ?_
      refine EVO.s1 ?_
      refine EVO.s1 ?_
      refine EVO.s1 ?_
      refine EVO.s1 ?_
      refine EVO.s1 ?_
      refine EVO.p1 (aB true) ?_
      refine EVO.p1 (aB true) ?_
      refine EVO.s1 ?_
      refine EVO.s1 ?_
      refine EVO.s1 ?_
      refine EVO.s1 ?_
      refine EVO.s1 ?_
      refine EVO.p1 (aB true) ?_
      refine EVO.p1 (aB true) ?_
      refine EVO.s1 ?_
      refine EVO.s1 ?_
      refine EVO.s1 ?_
      refine EVO.s1 ?_
      refine EVO.s1 ?_
      refine EVO.p1 (aB true) ?_
      refine EVO.p1 (aB true) ?_
      refine EVO.s1 ?_
      refine EVO.s1 ?_
      refine EVO.s1 ?_
      refine EVO.s1 ?_
      refine EVO.s1 ?_
      refine EVO.p1 (aB true) ?_
      refine EVO.done ?_
      refine CQ.n1 [0, 22, 23, 24, 66] (mkS 68 0 [(0, slT api_Banded.c l), (22, slT api_Banded.c l), (23, aI64 (l.length : Int)), (24, aI64 x_16), (66, aB true)]) [.own (api_Banded.c (gt l x_16)), .own (api_Grid.c (gt l 0).Grid), .own (api_Grid.c (gt l x_16).Grid)] ?_
      refine CQ.cT (by kernel_rfl) ?_
      refine CQ.seq ?_
      refine CQ.r0 fine ?_
      refine EVO.p1 (aI64 4) ?_
      refine EVO.done ?_
      refine CQ.ret ?_
      obtain rfl := Option.some.inj hr
      exact ⟨rfl, FinQ.ret (vs := [aI64 4]) (by kernel_rfl) (Sn.pure rfl)⟩
     ·replace hr := cd_f hb29 hr
      rcases Bool.eq_false_or_eq_true (((gt l 0).Grid.Y0 : Int) != (gt l x_16).Grid.Y0) with hb30 | hb30
      ·replace hr := cd_t hb30 hr
       refine CQ.r0 fine ?_
       refine EVO.p1 (.hp 1 0) ?_
       refine EVO.p1 (aI64 (gt l 0).Grid.X0) ?_
       refine EVO.p1 (.hp 2 0) ?_
       refine EVO.p1 (aI64 (gt l x_16).Grid.X0) ?_
       refine EVO.p0 (v := aB false) (Eq.trans (b := some (.pure (aB (((gt l 0).Grid.X0 : Int) != (gt l x_16).Grid.X0)))) (by kernel_rfl) (by rw [hb29])) ?_
       refine EVO.p1 (aB false) ?_
       refine EVO.q1 (.hp 1 1) ?_
       refine EVO.q1 (aI64 (gt l 0).Grid.Y0) ?_
       refine EVO.q1 (.hp 2 1) ?_
       refine EVO.q1 (aI64 (gt l x_16).Grid.Y0) ?_
       refine EVO.pure (v := aB true) (by kernel_rfl) (Eq.trans (b := some (.pure (aB (((gt l 0).Grid.Y0 : Int) != (gt l x_16).Grid.Y0)))) (by kernel_rfl) (by rw [hb30])) ?_
       refine EVO.p1 (aB true) ?_
       refine EVO.p1 (aB true) ?_
       refine EVO.s1 ?_
       refine EVO.s1 ?_
       refine EVO.s1 ?_
       refine EVO.s1 ?_
       refine EVO.s1 ?_
       refine EVO.p1 (aB true) ?_
       refine EVO.p1 (aB true) ?_
       refine EVO.s1 ?_
       refine EVO.s1 ?_
       refine EVO.s1 ?_
       refine EVO.s1 ?_
       refine EVO.s1 ?_
       refine EVO.p1 (aB true) ?_
       refine EVO.p1 (aB true) ?_
       refine EVO.s1 ?_
       refine EVO.s1 ?_
       refine EVO.s1 ?_
       refine EVO.s1 ?_
       refine EVO.s1 ?_
       refine EVO.p1 (aB true) ?_
       refine EVO.done ?_
       refine CQ.n1 [0, 22, 23, 24, 66] (mkS 68 0 [(0, slT api_Banded.c l), (22, slT api_Banded.c l), (23, aI64 (l.length : Int)), (24, aI64 x_16), (66, aB true)]) [.own (api_Banded.c (gt l x_16)), .own (api_Grid.c (gt l 0).Grid), .own (api_Grid.c (gt l x_16).Grid)] ?_
       refine CQ.cT (by kernel_rfl) ?_
       refine CQ.seq ?_
       refine CQ.r0 fine ?_
       refine EVO.p1 (aI64 4) ?_
       refine EVO.done ?_
       refine CQ.ret ?_
       obtain rfl := Option.some.inj hr
       exact ⟨rfl, FinQ.ret (vs := [aI64 4]) (by kernel_rfl) (Sn.pure rfl)⟩
      ·replace hr := cd_f hb30 hr
       rcases Bool.eq_false_or_eq_true (((gt l 0).Grid.Step : Int) != (gt l x_16).Grid.Step) with hb31 | hb31
       ·replace hr := cd_t hb31 hr
        refine CQ.r0 fine ?_
        refine EVO.p1 (.hp 1 0) ?_
        refine EVO.p1 (aI64 (gt l 0).Grid.X0) ?_
        refine EVO.p1 (.hp 2 0) ?_
        refine EVO.p1 (aI64 (gt l x_16).Grid.X0) ?_
        refine EVO.p0 (v := aB false) (Eq.trans (b := some (.pure (aB (((gt l 0).Grid.X0 : Int) != (gt l x_16).Grid.X0)))) (by kernel_rfl) (by rw [hb29])) ?_
        refine EVO.p1 (aB false) ?_
        refine EVO.q1 (.hp 1 1) ?_
        refine EVO.q1 (aI64 (gt l 0).Grid.Y0) ?_
        refine EVO.q1 (.hp 2 1) ?_
        refine EVO.q1 (aI64 (gt l x_16).Grid.Y0) ?_
        refine EVO.pure (v := aB false) (by kernel_rfl) (Eq.trans (b := some (.pure (aB (((gt l 0).Grid.Y0 : Int) != (gt l x_16).Grid.Y0)))) (by kernel_rfl) (by rw [hb30])) ?_
        refine EVO.p1 (aB false) ?_
        refine EVO.p1 (aB false) ?_
        refine EVO.q1 (.hp 1 2) ?_
        refine EVO.q1 (aI64 (gt l 0).Grid.Step) ?_
        refine EVO.q1 (.hp 2 2) ?_
        refine EVO.q1 (aI64 (gt l x_16).Grid.Step) ?_
        refine EVO.pure (v := aB true) (by kernel_rfl) (Eq.trans (b := some (.pure (aB (((gt l 0).Grid.Step : Int) != (gt l x_16).Grid.Step)))) (by kernel_rfl) (by rw [hb31])) ?_
        refine EVO.p1 (aB true) ?_
        refine EVO.p1 (aB true) ?_
        refine EVO.s1 ?_
        refine EVO.s1 ?_
        refine EVO.s1 ?_
        refine EVO.s1 ?_
        refine EVO.s1 ?_
        refine EVO.p1 (aB true) ?_
        refine EVO.p1 (aB true) ?_
        refine EVO.s1 ?_
        refine EVO.s1 ?_
        refine EVO.s1 ?_
        refine EVO.s1 ?_
        refine EVO.s1 ?_
        refine EVO.p1 (aB true) ?_
        refine EVO.done ?_
        refine CQ.n1 [0, 22, 23, 24, 66] (mkS 68 0 [(0, slT api_Banded.c l), (22, slT api_Banded.c l), (23, aI64 (l.length : Int)), (24, aI64 x_16), (66, aB true)]) [.own (api_Banded.c (gt l x_16)), .own (api_Grid.c (gt l 0).Grid), .own (api_Grid.c (gt l x_16).Grid)] ?_
        refine CQ.cT (by kernel_rfl) ?_
        refine CQ.seq ?_
        refine CQ.r0 fine ?_
        refine EVO.p1 (aI64 4) ?_
        refine EVO.done ?_
        refine CQ.ret ?_
        obtain rfl := Option.some.inj hr
        exact ⟨rfl, FinQ.ret (vs := [aI64 4]) (by kernel_rfl) (Sn.pure rfl)⟩
       ·replace hr := cd_f hb31 hr
        rcases Bool.eq_false_or_eq_true (((gt l 0).Grid.Width : Int) != (gt l x_16).Grid.Width) with hb32 | hb32
        ·replace hr := cd_t hb32 hr
         refine CQ.r0 fine ?_
         refine EVO.p1 (.hp 1 0) ?_
         refine EVO.p1 (aI64 (gt l 0).Grid.X0) ?_
         refine EVO.p1 (.hp 2 0) ?_
         refine EVO.p1 (aI64 (gt l x_16).Grid.X0) ?_
         refine EVO.p0 (v := aB false) (Eq.trans (b := some (.pure (aB (((gt l 0).Grid.X0 : Int) != (gt l x_16).Grid.X0)))) (by kernel_rfl) (by rw [hb29])) ?_
         refine EVO.p1 (aB false) ?_
         refine EVO.q1 (.hp 1 1) ?_
         refine EVO.q1 (aI64 (gt l 0).Grid.Y0) ?_
         refine EVO.q1 (.hp 2 1) ?_
         refine EVO.q1 (aI64 (gt l x_16).Grid.Y0) ?_
         refine EVO.pure (v := aB false) (by kernel_rfl) (Eq.trans (b := some (.pure (aB (((gt l 0).Grid.Y0 : Int) != (gt l x_16).Grid.Y0)))) (by kernel_rfl) (by rw [hb30])) ?_
         refine EVO.p1 (aB false) ?_
         refine EVO.p1 (aB false) ?_
         refine EVO.q1 (.hp 1 2) ?_
         refine EVO.q1 (aI64 (gt l 0).Grid.Step) ?_
         refine EVO.q1 (.hp 2 2) ?_
         refine EVO.q1 (aI64 (gt l x_16).Grid.Step) ?_
         refine EVO.pure (v := aB false) (by kernel_rfl) (Eq.trans (b := some (.pure (aB (((gt l 0).Grid.Step : Int) != (gt l x_16).Grid.Step)))) (by kernel_rfl) (by rw [hb31])) ?_
         refine EVO.p1 (aB false) ?_
         refine EVO.p1 (aB false) ?_
         refine EVO.q1 (.hp 1 3) ?_
         refine EVO.q1 (aI64 (gt l 0).Grid.Width) ?_
         refine EVO.q1 (.hp 2 3) ?_
         refine EVO.q1 (aI64 (gt l x_16).Grid.Width) ?_
         refine EVO.pure (v := aB true) (by kernel_rfl) (Eq.trans (b := some (.pure (aB (((gt l 0).Grid.Width : Int) != (gt l x_16).Grid.Width)))) (by kernel_rfl) (by rw [hb32])) ?_
         refine EVO.p1 (aB true) ?_
         refine EVO.p1 (aB true) ?_
         refine EVO.s1 ?_
         refine EVO.s1 ?_
         refine EVO.s1 ?_
         refine EVO.s1 ?_
         refine EVO.s1 ?_
         refine EVO.p1 (aB true) ?_
         refine EVO.done ?_
         refine CQ.n1 [0, 22, 23, 24, 66] (mkS 68 0 [(0, slT api_Banded.c l), (22, slT api_Banded.c l), (23, aI64 (l.length : Int)), (24, aI64 x_16), (66, aB true)]) [.own (api_Banded.c (gt l x_16)), .own (api_Grid.c (gt l 0).Grid), .own (api_Grid.c (gt l x_16).Grid)] ?_
         refine CQ.cT (by kernel_rfl) ?_
         refine CQ.seq ?_
         refine CQ.r0 fine ?_
         refine EVO.p1 (aI64 4) ?_
         refine EVO.done ?_
         refine CQ.ret ?_
         obtain rfl := Option.some.inj hr
         exact ⟨rfl, FinQ.ret (vs := [aI64 4]) (by kernel_rfl) (Sn.pure rfl)⟩
        ·replace hr := cd_f hb32 hr
         refine CQ.r0 fine ?_
         refine EVO.p1 (.hp 1 0) ?_
         refine EVO.p1 (aI64 (gt l 0).Grid.X0) ?_
         refine EVO.p1 (.hp 2 0) ?_
         refine EVO.p1 (aI64 (gt l x_16).Grid.X0) ?_
         refine EVO.p0 (v := aB false) (Eq.trans (b := some (.pure (aB (((gt l 0).Grid.X0 : Int) != (gt l x_16).Grid.X0)))) (by kernel_rfl) (by rw [hb29])) ?_
         refine EVO.p1 (aB false) ?_
         refine EVO.q1 (.hp 1 1) ?_
         refine EVO.q1 (aI64 (gt l 0).Grid.Y0) ?_
         refine EVO.q1 (.hp 2 1) ?_
         refine EVO.q1 (aI64 (gt l x_16).Grid.Y0) ?_
         refine EVO.pure (v := aB false) (by kernel_rfl) (Eq.trans (b := some (.pure (aB (((gt l 0).Grid.Y0 : Int) != (gt l x_16).Grid.Y0)))) (by kernel_rfl) (by rw [hb30])) ?_
         refine EVO.p1 (aB false) ?_
         refine EVO.p1 (aB false) ?_
         refine EVO.q1 (.hp 1 2) ?_
         refine EVO.q1 (aI64 (gt l 0).Grid.Step) ?_
         refine EVO.q1 (.hp 2 2) ?_
         refine EVO.q1 (aI64 (gt l x_16).Grid.Step) ?_
         refine EVO.pure (v := aB false) (by kernel_rfl) (Eq.trans (b := some (.pure (aB (((gt l 0).Grid.Step : Int) != (gt l x_16).Grid.Step)))) (by kernel_rfl) (by rw [hb31])) ?_
         refine EVO.p1 (aB false) ?_
         refine EVO.p1 (aB false) ?_
         refine EVO.q1 (.hp 1 3) ?_
         refine EVO.q1 (aI64 (gt l 0).Grid.Width) ?_
         refine EVO.q1 (.hp 2 3) ?_
         refine EVO.q1 (aI64 (gt l x_16).Grid.Width) ?_
         refine EVO.pure (v := aB false) (by kernel_rfl) (Eq.trans (b := some (.pure (aB (((gt l 0).Grid.Width : Int) != (gt l x_16).Grid.Width)))) (by kernel_rfl) (by rw [hb32])) ?_
         refine EVO.p1 (aB false) ?_
         refine EVO.p1 (aB false) ?_
         refine EVO.q1 (.hp 1 4) ?_
         refine EVO.q1 (aI64 (gt l 0).Grid.Height) ?_
         refine EVO.q1 (.hp 2 4) ?_
         refine EVO.q1 (aI64 (gt l x_16).Grid.Height) ?_
         refine EVO.q1 (aB (((gt l 0).Grid.Height : Int) != (gt l x_16).Grid.Height)) ?_
         refine EVO.p1 (aB (((gt l 0).Grid.Height : Int) != (gt l x_16).Grid.Height)) ?_
         refine EVO.done ?_
         refine CQ.n1 [0, 22, 23, 24, 66] (mkS 68 0 [(0, slT api_Banded.c l), (22, slT api_Banded.c l), (23, aI64 (l.length : Int)), (24, aI64 x_16), (66, aB (((gt l 0).Grid.Height : Int) != (gt l x_16).Grid.Height))]) [.own (api_Banded.c (gt l x_16)), .own (api_Grid.c (gt l 0).Grid), .own (api_Grid.c (gt l x_16).Grid)] ?_
         refine CQ.cond (t := ((gt l 0).Grid.Height : Int) != (gt l x_16).Grid.Height) (by kernel_rfl) (fun hb33 => ?_) (fun hb33 => ?_)
         ·replace hr := cd_t hb33 hr
          refine CQ.seq ?_
          refine CQ.r0 fine ?_
          refine EVO.p1 (aI64 4) ?_
          refine EVO.done ?_
          refine CQ.ret ?_
          obtain rfl := Option.some.inj hr
          exact ⟨rfl, FinQ.ret (vs := [aI64 4]) (by kernel_rfl) (Sn.pure rfl)⟩
         ·replace hr := cd_f hb33 hr
          refine CQ.skip ?_
          refine CQ.pop ?_
          refine CQ.r0 fine ?_
          refine EVO.p1 (aI64 (wrapF .i64 (x_16 + 1))) ?_
          refine EVO.p1 (aI64 (wrapF .i64 (x_16 + 1))) ?_
          refine EVO.done ?_
          exact loopF_back (wrapF .i64 (x_16 + 1)) hr ((Wk.gc [0, 22, 23, 24] [] rfl trivial).to (by kernel_rfl))
    ·replace hr := cd_f hb26 hr
     refine CQ.leave rfl ?_
     obtain rfl := Option.some.inj hr
     exact ⟨rfl, ((Wk.gc [] [] rfl trivial).to (by kernel_rfl))⟩
   ·rcases o34 with ⟨⟩ | r0
    ·rintro x st' hq36
     clear hL35
     obtain ⟨rfl, hq36⟩ := hq36
     refine CQ_exit _ rfl ?_
     refine CQ.wk hq36 ?_
     refine CQ.seq ?_
     refine CQ.r0 fine ?_
     refine EVO.p1 (aI64 0) ?_
     refine EVO.done ?_
     refine CQ.ret ?_
     obtain rfl := Option.some.inj hr
     exact FinQ.r1 [aI64 0]
    ·rintro x st' hq36
     clear hL35
     obtain ⟨rfl, hq36⟩ := hq36
     obtain rfl := Option.some.inj hr
     exact CQ_ret _ hq36
  ·rintro x st' hq15
   clear hL14
   obtain ⟨rfl, hq15⟩ := hq15
   obtain rfl := Option.some.inj hr
   exact CQ_ret _ hq15

theorem change_difference_ok (n : Nat) (a : api_Banded) (b : api_Banded) (k : Int) (r : Int × Int × Bool) (hr : change_difference n a b k = some r) : FnOk Tryz.prog 49 [.agg [.at (.int .i64 a.Grid.X0), .at (.int .i64 a.Grid.Y0), .at (.int .i64 a.Grid.Step), .at (.int .i64 a.Grid.Width), .at (.int .i64 a.Grid.Height), slT (iC .i64) a.Grid.Z, slT (iC .i64) a.Err], .agg [.at (.int .i64 b.Grid.X0), .at (.int .i64 b.Grid.Y0), .at (.int .i64 b.Grid.Step), .at (.int .i64 b.Grid.Width), .at (.int .i64 b.Grid.Height), slT (iC .i64) b.Grid.Z, slT (iC .i64) b.Err], .at (.int .i64 k)] (.tup [.at (.int .i64 r.1), .at (.int .i64 r.2.1), .at (.bool r.2.2)]) := by
 unfold change_difference at hr
 refine FnOk.body fine Tryz.func49 (c := (Tryz.f49.body).getD .skip) rfl (s := mkS 49 0 [(0, .agg (api_Banded.c a)), (1, .agg (api_Banded.c b)), (2, aI64 k)]) (by kernel_rfl) (rs := [.tmp 6, .tmp 7, .tmp 8]) rfl ?_
 unfold Tryz.f49
 simp only [Option.getD_some]
 refine CQ.seq ?_
 refine CQ.r0 fine ?_
 refine EVO.e1 (.hp 0 0) [(0, .own (api_Banded.c a))] ?_
 refine EVO.e1 (.hp 1 0) [(1, .own (api_Banded.c b))] ?_
 refine EVO.p1 (aI64 0) ?_
 refine EVO.p1 (aI64 0) ?_
 refine EVO.p1 (aB false) ?_
 refine EVO.done ?_
 refine CQ.n1 [2, 3, 4] (mkS 49 0 [(2, aI64 k), (3, .hp 0 0), (4, .hp 1 0)]) [.own (api_Banded.c a), .own (api_Banded.c b)] ?_
 refine CQ.seq ?_
 refine CQ.seq ?_
 replace hr := gd hr; obtain ⟨hg1, hr⟩ := hr
 rcases Bool.eq_false_or_eq_true (((gt a.Grid.Z k) : Int) == (-2147483648)) with hb2 | hb2
 ·replace hr := cd_t hb2 hr
  refine CQ.r0 fine ?_
  refine EVO.p1 (.hp 0 0) ?_
  refine EVO.p1 (.hp 0 5) ?_
  refine EVO.p1 (sI64 a.Grid.Z) ?_
  refine EVO.p1 (aI64 k) ?_
  refine EVO.p0 (v := .pp (a.Grid.Z.flatMap (iC .i64)) (k.toNat * 1)) (Eq.trans (b := ORes.ofP (guardV (inR k a.Grid.Z.length) (.pp (a.Grid.Z.flatMap (iC .i64)) (k.toNat * 1)))) (by kernel_rfl) (ofP_guard hg1)) ?_
  refine EVO.p0 (v := aI64 (gt a.Grid.Z k)) (Eq.trans (b := ORes.ofP ((a.Grid.Z.flatMap (iC .i64))[k.toNat * 1]?)) (by kernel_rfl) (ofP_some (flat_get (iC_len _) (inR_lt hg1) (by decide : 0 < 1) (by omega : k.toNat * 1 = k.toNat * 1 + 0) (by kernel_rfl)))) ?_
  refine EVO.p0 (v := aB true) (Eq.trans (b := some (.pure (aB (((gt a.Grid.Z k) : Int) == (-2147483648))))) (by kernel_rfl) (by rw [hb2])) ?_
  refine EVO.p1 (aB true) ?_
  refine EVO.s1 ?_
  refine EVO.s1 ?_
  refine EVO.s1 ?_
  refine EVO.s1 ?_
  refine EVO.s1 ?_
  refine EVO.s1 ?_
  refine EVO.s1 ?_
  refine EVO.p1 (aB true) ?_
  refine EVO.done ?_
  refine CQ.n1 [2, 3, 4, 24] (mkS 49 0 [(2, aI64 k), (3, .hp 0 0), (4, .hp 1 0), (24, aB true)]) [.own (api_Banded.c a), .own (api_Banded.c b)] ?_
  refine CQ.cT (by kernel_rfl) ?_
  refine CQ.seq ?_
  refine CQ.r0 fine ?_
  refine EVO.p1 (aI64 0) ?_
  refine EVO.p1 (aI64 0) ?_
  refine EVO.p1 (aB false) ?_
  refine EVO.done ?_
  refine CQ.ret ?_
  obtain rfl := Option.some.inj hr
  exact FinQ.ret (vs := [aI64 0, aI64 0, aB false]) (by kernel_rfl) (Sn.tup (SnL.cons (Sn.pure rfl) (SnL.cons (Sn.pure rfl) (SnL.cons (Sn.pure rfl) SnL.nil))))
 ·replace hr := cd_f hb2 hr
  replace hr := gd hr; obtain ⟨hg3, hr⟩ := hr
  refine CQ.r0 fine ?_
  refine EVO.p1 (.hp 0 0) ?_
  refine EVO.p1 (.hp 0 5) ?_
  refine EVO.p1 (sI64 a.Grid.Z) ?_
  refine EVO.p1 (aI64 k) ?_
  refine EVO.p0 (v := .pp (a.Grid.Z.flatMap (iC .i64)) (k.toNat * 1)) (Eq.trans (b := ORes.ofP (guardV (inR k a.Grid.Z.length) (.pp (a.Grid.Z.flatMap (iC .i64)) (k.toNat * 1)))) (by kernel_rfl) (ofP_guard hg1)) ?_
  refine EVO.p0 (v := aI64 (gt a.Grid.Z k)) (Eq.trans (b := ORes.ofP ((a.Grid.Z.flatMap (iC .i64))[k.toNat * 1]?)) (by kernel_rfl) (ofP_some (flat_get (iC_len _) (inR_lt hg1) (by decide : 0 < 1) (by omega : k.toNat * 1 = k.toNat * 1 + 0) (by kernel_rfl)))) ?_
  refine EVO.p0 (v := aB false) (Eq.trans (b := some (.pure (aB (((gt a.Grid.Z k) : Int) == (-2147483648))))) (by kernel_rfl) (by rw [hb2])) ?_
  refine EVO.p1 (aB false) ?_
  refine EVO.q1 (.hp 1 0) ?_
  refine EVO.q1 (.hp 1 5) ?_
  refine EVO.q1 (sI64 b.Grid.Z) ?_
  refine EVO.q1 (aI64 k) ?_
  refine EVO.pure (v := .pp (b.Grid.Z.flatMap (iC .i64)) (k.toNat * 1)) (by kernel_rfl) (Eq.trans (b := ORes.ofP (guardV (inR k b.Grid.Z.length) (.pp (b.Grid.Z.flatMap (iC .i64)) (k.toNat * 1)))) (by kernel_rfl) (ofP_guard hg3)) ?_
  refine EVO.pure (v := aI64 (gt b.Grid.Z k)) (by kernel_rfl) (Eq.trans (b := ORes.ofP ((b.Grid.Z.flatMap (iC .i64))[k.toNat * 1]?)) (by kernel_rfl) (ofP_some (flat_get (iC_len _) (inR_lt hg3) (by decide : 0 < 1) (by omega : k.toNat * 1 = k.toNat * 1 + 0) (by kernel_rfl)))) ?_
  refine EVO.q1 (aB (((gt b.Grid.Z k) : Int) == (-2147483648))) ?_
  refine EVO.p1 (aB (((gt b.Grid.Z k) : Int) == (-2147483648))) ?_
  refine EVO.done ?_
  refine CQ.n1 [2, 3, 4, 24] (mkS 49 0 [(2, aI64 k), (3, .hp 0 0), (4, .hp 1 0), (24, aB (((gt b.Grid.Z k) : Int) == (-2147483648)))]) [.own (api_Banded.c a), .own (api_Banded.c b)] ?_
  refine CQ.cond (t := ((gt b.Grid.Z k) : Int) == (-2147483648)) (by kernel_rfl) (fun hb4 => ?_) (fun hb4 => ?_)
  ·replace hr := cd_t hb4 hr
   refine CQ.seq ?_
   refine CQ.r0 fine ?_
   refine EVO.p1 (aI64 0) ?_
   refine EVO.p1 (aI64 0) ?_
   refine EVO.p1 (aB false) ?_
   refine EVO.done ?_
   refine CQ.ret ?_
   obtain rfl := Option.some.inj hr
   exact FinQ.ret (vs := [aI64 0, aI64 0, aB false]) (by kernel_rfl) (Sn.tup (SnL.cons (Sn.pure rfl) (SnL.cons (Sn.pure rfl) (SnL.cons (Sn.pure rfl) SnL.nil))))
  ·replace hr := cd_f hb4 hr
   refine CQ.skip ?_
   refine CQ.seq ?_
   replace hr := gd hr; obtain ⟨hg5, hr⟩ := hr
   replace hr := gd hr; obtain ⟨hg6, hr⟩ := hr
   refine CQ.regionT fine callOf_nil ?_
   refine EVT.p1 (.hp 1 0) ?_
   refine EVT.p1 (.hp 1 5) ?_
   refine EVT.p1 (sI64 b.Grid.Z) ?_
   refine EVT.p1 (aI64 k) ?_
   refine EVT.pure (v := .pp (b.Grid.Z.flatMap (iC .i64)) (k.toNat * 1)) (by kernel_rfl) (Eq.trans (b := ORes.ofP (guardV (inR k b.Grid.Z.length) (.pp (b.Grid.Z.flatMap (iC .i64)) (k.toNat * 1)))) (by kernel_rfl) (ofP_guard hg3)) (by kernel_rfl) ?_
   refine EVT.pure (v := aI64 (gt b.Grid.Z k)) (by kernel_rfl) (Eq.trans (b := ORes.ofP ((b.Grid.Z.flatMap (iC .i64))[k.toNat * 1]?)) (by kernel_rfl) (ofP_some (flat_get (iC_len _) (inR_lt hg3) (by decide : 0 < 1) (by omega : k.toNat * 1 = k.toNat * 1 + 0) (by kernel_rfl)))) (by kernel_rfl) ?_
   refine EVT.p1 (.hp 0 0) ?_
   refine EVT.p1 (.hp 0 5) ?_
   refine EVT.p1 (sI64 a.Grid.Z) ?_
   refine EVT.p1 (aI64 k) ?_
   refine EVT.pure (v := .pp (a.Grid.Z.flatMap (iC .i64)) (k.toNat * 1)) (by kernel_rfl) (Eq.trans (b := ORes.ofP (guardV (inR k a.Grid.Z.length) (.pp (a.Grid.Z.flatMap (iC .i64)) (k.toNat * 1)))) (by kernel_rfl) (ofP_guard hg1)) (by kernel_rfl) ?_
   refine EVT.pure (v := aI64 (gt a.Grid.Z k)) (by kernel_rfl) (Eq.trans (b := ORes.ofP ((a.Grid.Z.flatMap (iC .i64))[k.toNat * 1]?)) (by kernel_rfl) (ofP_some (flat_get (iC_len _) (inR_lt hg1) (by decide : 0 < 1) (by omega : k.toNat * 1 = k.toNat * 1 + 0) (by kernel_rfl)))) (by kernel_rfl) ?_
   refine EVT.p1 (aI64 (wrapF .i64 ((gt b.Grid.Z k) - (gt a.Grid.Z k)))) ?_
   refine EVT.p1 (.hp 0 6) ?_
   refine EVT.p1 (sI64 a.Err) ?_
   refine EVT.p1 (aI64 k) ?_
   refine EVT.pure (v := .pp (a.Err.flatMap (iC .i64)) (k.toNat * 1)) (by kernel_rfl) (Eq.trans (b := ORes.ofP (guardV (inR k a.Err.length) (.pp (a.Err.flatMap (iC .i64)) (k.toNat * 1)))) (by kernel_rfl) (ofP_guard hg5)) (by kernel_rfl) ?_
   refine EVT.pure (v := aI64 (gt a.Err k)) (by kernel_rfl) (Eq.trans (b := ORes.ofP ((a.Err.flatMap (iC .i64))[k.toNat * 1]?)) (by kernel_rfl) (ofP_some (flat_get (iC_len _) (inR_lt hg5) (by decide : 0 < 1) (by omega : k.toNat * 1 = k.toNat * 1 + 0) (by kernel_rfl)))) (by kernel_rfl) ?_
   refine EVT.p1 (.hp 1 6) ?_
   refine EVT.p1 (sI64 b.Err) ?_
   refine EVT.p1 (aI64 k) ?_
   refine EVT.pure (v := .pp (b.Err.flatMap (iC .i64)) (k.toNat * 1)) (by kernel_rfl) (Eq.trans (b := ORes.ofP (guardV (inR k b.Err.length) (.pp (b.Err.flatMap (iC .i64)) (k.toNat * 1)))) (by kernel_rfl) (ofP_guard hg6)) (by kernel_rfl) ?_
   refine EVT.pure (v := aI64 (gt b.Err k)) (by kernel_rfl) (Eq.trans (b := ORes.ofP ((b.Err.flatMap (iC .i64))[k.toNat * 1]?)) (by kernel_rfl) (ofP_some (flat_get (iC_len _) (inR_lt hg6) (by decide : 0 < 1) (by omega : k.toNat * 1 = k.toNat * 1 + 0) (by kernel_rfl)))) (by kernel_rfl) ?_
   refine EVT.p1 (aI64 (wrapF .i64 ((gt a.Err k) + (gt b.Err k)))) ?_
   refine EVT.p1 (aI64 (wrapF .i64 ((gt b.Grid.Z k) - (gt a.Grid.Z k)))) ?_
   refine EVT.p1 (aI64 (wrapF .i64 ((gt a.Err k) + (gt b.Err k)))) ?_
   refine EVT.p1 (aB true) ?_
   refine EVT.done ⟨by kernel_rfl, ?_⟩
   refine CQ.ret ?_
   obtain rfl := Option.some.inj hr
   exact FinQ.ret (vs := [aI64 (wrapF .i64 ((gt b.Grid.Z k) - (gt a.Grid.Z k))), aI64 (wrapF .i64 ((gt a.Err k) + (gt b.Err k))), aB true]) (by kernel_rfl) (Sn.tup (SnL.cons (Sn.pure rfl) (SnL.cons (Sn.pure rfl) (SnL.cons (Sn.pure rfl) SnL.nil))))

theorem change_verdict_ok (n : Nat) (a : api_Banded) (b : api_Banded) (k : Int) (r : Int) (hr : change_verdict n a b k = some r) : FnOk Tryz.prog 93 [.agg [.at (.int .i64 a.Grid.X0), .at (.int .i64 a.Grid.Y0), .at (.int .i64 a.Grid.Step), .at (.int .i64 a.Grid.Width), .at (.int .i64 a.Grid.Height), slT (iC .i64) a.Grid.Z, slT (iC .i64) a.Err], .agg [.at (.int .i64 b.Grid.X0), .at (.int .i64 b.Grid.Y0), .at (.int .i64 b.Grid.Step), .at (.int .i64 b.Grid.Width), .at (.int .i64 b.Grid.Height), slT (iC .i64) b.Grid.Z, slT (iC .i64) b.Err], .at (.int .i64 k)] (.at (.int .i64 r)) := by
 unfold change_verdict at hr
 refine FnOk.body fine Tryz.func93 (c := (Tryz.f93.body).getD .skip) rfl (s := mkS 30 0 [(0, .agg (api_Banded.c a)), (1, .agg (api_Banded.c b)), (2, aI64 k)]) (by kernel_rfl) (rs := [.tmp 6]) rfl ?_
 unfold Tryz.f93
 simp only [Option.getD_some]
 refine CQ.seq ?_
 refine CQ.r0 fine ?_
 refine EVO.e1 (.hp 0 0) [(0, .own (api_Banded.c a))] ?_
 refine EVO.e1 (.hp 1 0) [(1, .own (api_Banded.c b))] ?_
 refine EVO.p1 (aI64 0) ?_
 refine EVO.done ?_
 refine CQ.n1 [2, 3, 4] (mkS 30 0 [(2, aI64 k), (3, .hp 0 0), (4, .hp 1 0)]) [.own (api_Banded.c a), .own (api_Banded.c b)] ?_
 refine CQ.seq ?_
 replace hr := bd hr; obtain ⟨v1, hc2, hr⟩ := hr
 refine CQ.region fine (callOf_1 49 [.agg (api_Banded.c a), .agg (api_Banded.c b), aI64 k] [.own (api_Banded.c a), .own (api_Banded.c b)] (.loc (.tup [aI64 v1.1, aI64 v1.2.1, aB v1.2.2]) [] [] 0) (callOk_val (l := []) (args' := [.agg (api_Banded.c a), .agg (api_Banded.c b), aI64 k]) rfl (SnL.cons (Sn.pure rfl) (SnL.cons (Sn.pure rfl) (SnL.cons (Sn.pure rfl) SnL.nil))) (change_difference_ok n a b k v1 hc2))) ?_
 refine EVO.p1 (.agg (api_Banded.c a)) ?_
 refine EVO.p1 (.agg (api_Banded.c b)) ?_
 refine EVO.p1 (aI64 k) ?_
 refine EVO.c0 (by kernel_rfl) (callOf_at (by kernel_rfl)) ?_
 refine EVO.p1 (.tup [aI64 v1.1, aI64 v1.2.1, aB v1.2.2]) ?_
 refine EVO.p1 (aI64 v1.1) ?_
 refine EVO.p1 (aI64 v1.2.1) ?_
 refine EVO.p1 (aB v1.2.2) ?_
 refine EVO.p1 (aI64 v1.1) ?_
 refine EVO.p1 (aI64 v1.2.1) ?_
 refine EVO.p1 (aB v1.2.2) ?_
 refine EVO.done ?_
 refine CQ.n1 [7, 8, 9] (mkS 30 0 [(7, aI64 v1.1), (8, aI64 v1.2.1), (9, aB v1.2.2)]) [.own (api_Banded.c a), .own (api_Banded.c b)] ?_
 refine CQ.seq ?_
 refine CQ.block ?_
 refine CQ.seq ?_
 refine CQ.r0 fine ?_
 refine EVO.p1 (aB v1.2.2) ?_
 refine EVO.p1 (aB (!v1.2.2)) ?_
 refine EVO.p1 (aB (!v1.2.2)) ?_
 refine EVO.done ?_
 refine CQ.n1 [7, 8, 18] (mkS 30 0 [(7, aI64 v1.1), (8, aI64 v1.2.1), (18, aB (!v1.2.2))]) [.own (api_Banded.c a), .own (api_Banded.c b)] ?_
 refine CQ.cond (t := !v1.2.2) (by kernel_rfl) (fun hb3 => ?_) (fun hb3 => ?_)
 ·replace hr := cd_t hb3 hr
  refine CQ.seq ?_
  refine CQ.r0 fine ?_
  refine EVO.p1 (aI64 3) ?_
  refine EVO.done ?_
  refine CQ.ret ?_
  obtain rfl := Option.some.inj hr
  exact FinQ.r1 [aI64 3]
 ·replace hr := cd_f hb3 hr
  refine CQ.seq ?_
  refine CQ.r0 fine ?_
  refine EVO.p1 (aI64 v1.1) ?_
  refine EVO.p1 (aI64 v1.2.1) ?_
  refine EVO.p1 (aB (decide (v1.1 > v1.2.1))) ?_
  refine EVO.p1 (aB (decide (v1.1 > v1.2.1))) ?_
  refine EVO.done ?_
  refine CQ.n1 [7, 8, 21] (mkS 30 0 [(7, aI64 v1.1), (8, aI64 v1.2.1), (21, aB (decide (v1.1 > v1.2.1)))]) [.own (api_Banded.c a), .own (api_Banded.c b)] ?_
  refine CQ.cond (t := decide (v1.1 > v1.2.1)) (by kernel_rfl) (fun hb4 => ?_) (fun hb4 => ?_)
  ·replace hr := cd_t hb4 hr
   refine CQ.seq ?_
   refine CQ.r0 fine ?_
   refine EVO.p1 (aI64 1) ?_
   refine EVO.done ?_
   refine CQ.ret ?_
   obtain rfl := Option.some.inj hr
   exact FinQ.r1 [aI64 1]
  ·replace hr := cd_f hb4 hr
   refine CQ.seq ?_
   refine CQ.r0 fine ?_
   refine EVO.p1 (aI64 v1.1) ?_
   refine EVO.p1 (aI64 v1.2.1) ?_
   refine EVO.p0 (v := aI64 (wrapF .i64 (0 - v1.2.1))) (Eq.trans (b := some (.pure (aI64 (IntKind.wrap .i64 (0 - v1.2.1))))) (by kernel_rfl) wrap_at) ?_
   refine EVO.p1 (aB (decide (v1.1 < (wrapF .i64 (0 - v1.2.1))))) ?_
   refine EVO.p1 (aB (decide (v1.1 < (wrapF .i64 (0 - v1.2.1))))) ?_
   refine EVO.done ?_
   refine CQ.n1 [25] (mkS 30 0 [(25, aB (decide (v1.1 < (wrapF .i64 (0 - v1.2.1)))))]) [.own (api_Banded.c a), .own (api_Banded.c b)] ?_
   refine CQ.cond (t := decide (v1.1 < (wrapF .i64 (0 - v1.2.1)))) (by kernel_rfl) (fun hb5 => ?_) (fun hb5 => ?_)
   ·replace hr := cd_t hb5 hr
    refine CQ.seq ?_
    refine CQ.r0 fine ?_
    refine EVO.p1 (aI64 2) ?_
    refine EVO.done ?_
    refine CQ.ret ?_
    obtain rfl := Option.some.inj hr
    exact FinQ.r1 [aI64 2]
   ·replace hr := cd_f hb5 hr
    refine CQ.skip ?_
    refine CQ.pop ?_
    refine CQ.seq ?_
    refine CQ.r0 fine ?_
    refine EVO.p1 (aI64 0) ?_
    refine EVO.done ?_
    refine CQ.ret ?_
    obtain rfl := Option.some.inj hr
    exact FinQ.r1 [aI64 0]

theorem change_verdicts_ok (n : Nat) (a : api_Banded) (b : api_Banded) (r : List Int) (hr : change_verdicts n a b = some r) : FnOk Tryz.prog 56 [.agg [.at (.int .i64 a.Grid.X0), .at (.int .i64 a.Grid.Y0), .at (.int .i64 a.Grid.Step), .at (.int .i64 a.Grid.Width), .at (.int .i64 a.Grid.Height), slT (iC .i64) a.Grid.Z, slT (iC .i64) a.Err], .agg [.at (.int .i64 b.Grid.X0), .at (.int .i64 b.Grid.Y0), .at (.int .i64 b.Grid.Step), .at (.int .i64 b.Grid.Width), .at (.int .i64 b.Grid.Height), slT (iC .i64) b.Grid.Z, slT (iC .i64) b.Err]] (slT (iC .i64) r) := by
 unfold change_verdicts at hr
 refine FnOk.body fine Tryz.func56 (c := (Tryz.f56.body).getD .skip) rfl (s := mkS 23 0 [(0, .agg (api_Banded.c a)), (1, .agg (api_Banded.c b))]) (by kernel_rfl) (rs := [.tmp 4]) rfl ?_
 unfold Tryz.f56
 simp only [Option.getD_some]
 refine CQ.seq ?_
 refine CQ.r0 fine ?_
 refine EVO.e1 (.hp 0 0) [(0, .own (api_Banded.c a))] ?_
 refine EVO.e1 (.hp 1 0) [(1, .own (api_Banded.c b))] ?_
 refine EVO.p1 (.at (.slice none 0 0)) ?_
 refine EVO.done ?_
 refine CQ.n1 [2, 3] (mkS 23 0 [(2, .hp 0 0), (3, .hp 1 0)]) [.own (api_Banded.c a), .own (api_Banded.c b)] ?_
 refine CQ.seq ?_
 refine CQ.r0 fine ?_
 refine EVO.p1 (.at (.slice none 0 0)) ?_
 refine EVO.done ?_
 refine CQ.seq ?_
 refine CQ.seq ?_
 refine CQ.r0 fine ?_
 refine EVO.p1 (.hp 0 0) ?_
 refine EVO.p1 (.hp 0 5) ?_
 refine EVO.p1 (sI64 a.Grid.Z) ?_
 refine EVO.p1 (aI64 (a.Grid.Z.length : Int)) ?_
 refine EVO.p1 (aI64 0) ?_
 refine EVO.done ?_
 refine CQ.n1 [2, 3, 5, 10, 11] (mkS 23 0 [(2, .hp 0 0), (3, .hp 1 0), (5, .at (.slice none 0 0)), (10, aI64 (a.Grid.Z.length : Int)), (11, aI64 0)]) [.own (api_Banded.c a), .own (api_Banded.c b)] ?_
 refine CQ.block ?_
 replace hr := bd hr; obtain ⟨out_8, hL16, hr⟩ := hr
 refine CQ.loopO (σ := fun z0 => match z0 with | (out_1, x_2) => ⟨mkS 23 0 [(2, .hp 0 0), (3, .hp 1 0), (5, .hs 2 0 out_1.length 1), (10, aI64 (a.Grid.Z.length : Int)), (11, aI64 x_2)], [.own (api_Banded.c a), .own (api_Banded.c b), .own (out_1.flatMap (iC .i64))]⟩) (Q := fun x st' => x = .exit 0 ∧ Wk st' ⟨mkS 23 0 [(5, .hs 0 0 out_8.length 1)], [.own (out_8.flatMap (iC .i64))]⟩) hL16 ((Wk.nil 5 1 (by kernel_rfl)).trans ((Wk.gc [2, 3, 5, 10, 11] [(0, true), (1, true), (2, false)] rfl ⟨rfl, trivial⟩).to (by kernel_rfl))) ?_ ?_
 ·clear hr
  rintro m ⟨out_1, x_2⟩ hr
  show CQ _ _ _ _ ⟨_, _⟩
  refine CQ.seq ?_
  refine CQ.r0 fine ?_
  refine EVO.p1 (aB (decide (x_2 < (a.Grid.Z.length : Int)))) ?_
  refine EVO.done ?_
  refine CQ.seq ?_
  refine CQ.cond (t := decide (x_2 < (a.Grid.Z.length : Int))) (by kernel_rfl) (fun hb10 => ?_) (fun hb10 => ?_)
  ·replace hr := cd_t hb10 hr
   refine CQ.skip ?_
   refine CQ.seq ?_
   refine CQ.block ?_
   refine CQ.seq ?_
   refine CQ.r0 fine ?_
   refine EVO.p1 (aI64 x_2) ?_
   refine EVO.p1 (aI64 x_2) ?_
   refine EVO.done ?_
   refine CQ.n1 [2, 3, 5, 6, 10, 11] (mkS 23 0 [(2, .hp 0 0), (3, .hp 1 0), (5, .hs 2 0 out_1.length 1), (6, aI64 x_2), (10, aI64 (a.Grid.Z.length : Int)), (11, aI64 x_2)]) [.own (api_Banded.c a), .own (api_Banded.c b), .own (out_1.flatMap (iC .i64))] ?_
   replace hr := bd hr; obtain ⟨v11, hc12, hr⟩ := hr
   replace hr := gd hr; obtain ⟨hg13, hr⟩ := hr
   replace hr := gd hr; obtain ⟨hg14, hr⟩ := hr
   refine CQ.region fine (callOf_1 93 [.agg (api_Banded.c a), .agg (api_Banded.c b), aI64 x_2] [.own (api_Banded.c a), .own (api_Banded.c b), .own (out_1.flatMap (iC .i64))] (.loc (aI64 v11) [] [] 0) (callOk_val (l := []) (args' := [.agg (api_Banded.c a), .agg (api_Banded.c b), aI64 x_2]) rfl (SnL.cons (Sn.pure rfl) (SnL.cons (Sn.pure rfl) (SnL.cons (Sn.pure rfl) SnL.nil))) (change_verdict_ok n a b x_2 v11 hc12))) ?_
   refine EVO.p1 (.hs 2 0 out_1.length 1) ?_
   refine EVO.p1 (.agg (api_Banded.c a)) ?_
   refine EVO.p1 (.agg (api_Banded.c b)) ?_
   refine EVO.p1 (aI64 x_2) ?_
   refine EVO.c0 (by kernel_rfl) (callOf_at (by kernel_rfl)) ?_
   refine EVO.e1 (.hs 3 0 1 1) [(3, .own [aI64 v11])] ?_
   refine EVO.e0 (v := .hs 4 0 (out_1 ++ [v11]).length 1) (ws := [(2, .dead), (4, .own ((out_1 ++ [v11]).flatMap (iC .i64)))]) (Eq.trans (b := guardO (decide (0 + out_1.length * 1 ≤ (out_1.flatMap (iC .i64)).length) && decide ((out_1.length + 1) * 8 ≤ 140737488355328) && decide (out_1.length + 1 ≤ 4611686018427387904)) (some (.eff (.hs 4 0 (out_1.length + 1) 1) [(2, .dead), (4, .own (((out_1.flatMap (iC .i64)).drop 0).take (out_1.length * 1) ++ [aI64 v11]))]))) (by kernel_rfl) (app_own (l := out_1) (xs := [v11]) (iC_len _) rfl rfl (by kernel_rfl) hg13 hg14)) ?_
   refine EVO.p1 (.hs 4 0 (out_1 ++ [v11]).length 1) ?_
   refine EVO.done ?_
   refine CQ.pop ?_
   refine CQ.r0 fine ?_
   refine EVO.p1 (aI64 (wrapF .i64 (x_2 + 1))) ?_
   refine EVO.p1 (aI64 (wrapF .i64 (x_2 + 1))) ?_
   refine EVO.done ?_
   exact loopF_back (out_1 ++ [v11], wrapF .i64 (x_2 + 1)) hr ((Wk.gc [2, 3, 5, 10, 11] [(0, true), (1, true), (4, false)] rfl ⟨ids_flat (iC_pure _) _, trivial⟩).to (by kernel_rfl))
  ·replace hr := cd_f hb10 hr
   refine CQ.leave rfl ?_
   obtain rfl := Option.some.inj hr
   exact ⟨rfl, ((Wk.gc [5] [(2, false)] rfl ⟨ids_flat (iC_pure _) _, trivial⟩).to (by kernel_rfl))⟩
 ·rintro x st' hq17
  clear hL16
  obtain ⟨rfl, hq17⟩ := hq17
  refine CQ_exit _ rfl ?_
  refine CQ.wk hq17 ?_
  refine CQ.seq ?_
  refine CQ.r0 fine ?_
  refine EVO.p1 (.hs 0 0 out_8.length 1) ?_
  refine EVO.p1 (.hs 0 0 out_8.length 1) ?_
  refine EVO.done ?_
  refine CQ.ret ?_
  obtain rfl := Option.some.inj hr
  exact FinQ.ret (vs := [.hs 0 0 out_8.length 1]) (by kernel_rfl) (Sn.hs rfl (.inl rfl) (SnC.pure (ids_flat (iC_pure _) _)) (fun h => flat_nil0 h))

theorem change_Compare_ok (n : Nat) (a : api_Banded) (b : api_Banded) (r : List Int × Int) (hr : change_Compare n a b = some r) : FnOk Tryz.prog 25 [.agg [.at (.int .i64 a.Grid.X0), .at (.int .i64 a.Grid.Y0), .at (.int .i64 a.Grid.Step), .at (.int .i64 a.Grid.Width), .at (.int .i64 a.Grid.Height), slT (iC .i64) a.Grid.Z, slT (iC .i64) a.Err], .agg [.at (.int .i64 b.Grid.X0), .at (.int .i64 b.Grid.Y0), .at (.int .i64 b.Grid.Step), .at (.int .i64 b.Grid.Width), .at (.int .i64 b.Grid.Height), slT (iC .i64) b.Grid.Z, slT (iC .i64) b.Err]] (.tup [slT (iC .i64) r.1, .at (.int .i64 r.2)]) := by
 unfold change_Compare at hr
 refine FnOk.body fine Tryz.func25 (c := (Tryz.f25.body).getD .skip) rfl (s := mkS 17 0 [(0, .agg (api_Banded.c a)), (1, .agg (api_Banded.c b))]) (by kernel_rfl) (rs := [.tmp 4, .tmp 5]) rfl ?_
 unfold Tryz.f25
 simp only [Option.getD_some]
 refine CQ.seq ?_
 refine CQ.r0 fine ?_
 refine EVO.e1 (.hp 0 0) [(0, .own (api_Banded.c a))] ?_
 refine EVO.e1 (.hp 1 0) [(1, .own (api_Banded.c b))] ?_
 refine EVO.p1 (.at (.slice none 0 0)) ?_
 refine EVO.p1 (aI64 0) ?_
 refine EVO.done ?_
 refine CQ.n1 [2, 3] (mkS 17 0 [(2, .hp 0 0), (3, .hp 1 0)]) [.own (api_Banded.c a), .own (api_Banded.c b)] ?_
 refine CQ.seq ?_
 refine CQ.seq ?_
 replace hr := bd hr; obtain ⟨v1, hc2, hr⟩ := hr
 refine CQ.region fine (callOf_1 48 [.hs 2 0 2 7] [.own (api_Banded.c a), .own (api_Banded.c b), .own [aI64 a.Grid.X0, aI64 a.Grid.Y0, aI64 a.Grid.Step, aI64 a.Grid.Width, aI64 a.Grid.Height, sI64 a.Grid.Z, sI64 a.Err, aI64 b.Grid.X0, aI64 b.Grid.Y0, aI64 b.Grid.Step, aI64 b.Grid.Width, aI64 b.Grid.Height, sI64 b.Grid.Z, sI64 b.Err]] (.loc (aI64 v1) [] [2] 0) (callOk_val (l := [2]) (args' := [slT api_Banded.c [a, b]]) rfl (SnL.cons (Sn.hs rfl (.inl rfl) (SnC.cons (Sn.pure rfl) (SnC.cons (Sn.pure rfl) (SnC.cons (Sn.pure rfl) (SnC.cons (Sn.pure rfl) (SnC.cons (Sn.pure rfl) (SnC.cons (Sn.pure rfl) (SnC.cons (Sn.pure rfl) (SnC.cons (Sn.pure rfl) (SnC.cons (Sn.pure rfl) (SnC.cons (Sn.pure rfl) (SnC.cons (Sn.pure rfl) (SnC.cons (Sn.pure rfl) (SnC.cons (Sn.pure rfl) (SnC.cons (Sn.pure rfl) SnC.nil)))))))))))))) (fun h => nomatch h)) SnL.nil) (change_fit_ok n [a, b] v1 hc2))) ?_
 refine EVO.p1 (.agg (api_Banded.c a)) ?_
 refine EVO.p1 (.agg (api_Banded.c b)) ?_
 refine EVO.e1 (.hs 2 0 2 7) [(2, .own [aI64 a.Grid.X0, aI64 a.Grid.Y0, aI64 a.Grid.Step, aI64 a.Grid.Width, aI64 a.Grid.Height, sI64 a.Grid.Z, sI64 a.Err, aI64 b.Grid.X0, aI64 b.Grid.Y0, aI64 b.Grid.Step, aI64 b.Grid.Width, aI64 b.Grid.Height, sI64 b.Grid.Z, sI64 b.Err])] ?_
 refine EVO.c0 (by kernel_rfl) (callOf_at (by kernel_rfl)) ?_
 refine EVO.p1 (aI64 v1) ?_
 refine EVO.done ?_
 refine CQ.n1 [2, 3, 6] (mkS 17 0 [(2, .hp 0 0), (3, .hp 1 0), (6, aI64 v1)]) [.own (api_Banded.c a), .own (api_Banded.c b), .own [aI64 a.Grid.X0, aI64 a.Grid.Y0, aI64 a.Grid.Step, aI64 a.Grid.Width, aI64 a.Grid.Height, sI64 a.Grid.Z, sI64 a.Err, aI64 b.Grid.X0, aI64 b.Grid.Y0, aI64 b.Grid.Step, aI64 b.Grid.Width, aI64 b.Grid.Height, sI64 b.Grid.Z, sI64 b.Err]] ?_
 refine CQ.seq ?_
 refine CQ.r0 fine ?_
 refine EVO.p1 (aI64 v1) ?_
 refine EVO.p1 (aB ((v1 : Int) != 0)) ?_
 refine EVO.done ?_
 refine CQ.n1 [2, 3, 6, 12] (mkS 17 0 [(2, .hp 0 0), (3, .hp 1 0), (6, aI64 v1), (12, aB ((v1 : Int) != 0))]) [.own (api_Banded.c a), .own (api_Banded.c b), .own [aI64 a.Grid.X0, aI64 a.Grid.Y0, aI64 a.Grid.Step, aI64 a.Grid.Width, aI64 a.Grid.Height, sI64 a.Grid.Z, sI64 a.Err, aI64 b.Grid.X0, aI64 b.Grid.Y0, aI64 b.Grid.Step, aI64 b.Grid.Width, aI64 b.Grid.Height, sI64 b.Grid.Z, sI64 b.Err]] ?_
 refine CQ.cond (t := (v1 : Int) != 0) (by kernel_rfl) (fun hb3 => ?_) (fun hb3 => ?_)
 ·replace hr := cd_t hb3 hr
  refine CQ.seq ?_
  refine CQ.r0 fine ?_
  refine EVO.p1 (aI64 v1) ?_
  refine EVO.p1 (.at (.slice none 0 0)) ?_
  refine EVO.p1 (aI64 v1) ?_
  refine EVO.done ?_
  refine CQ.ret ?_
  obtain rfl := Option.some.inj hr
  exact FinQ.ret (vs := [.at (.slice none 0 0), aI64 v1]) (by kernel_rfl) (Sn.tup (SnL.cons Sn.nilsl (SnL.cons (Sn.pure rfl) SnL.nil)))
 ·replace hr := cd_f hb3 hr
  refine CQ.skip ?_
  refine CQ.seq ?_
  replace hr := bd hr; obtain ⟨v4, hc5, hr⟩ := hr
  refine CQ.region fine (callOf_1 56 [.agg (api_Banded.c a), .agg (api_Banded.c b)] [.own (api_Banded.c a), .own (api_Banded.c b), .own [aI64 a.Grid.X0, aI64 a.Grid.Y0, aI64 a.Grid.Step, aI64 a.Grid.Width, aI64 a.Grid.Height, sI64 a.Grid.Z, sI64 a.Err, aI64 b.Grid.X0, aI64 b.Grid.Y0, aI64 b.Grid.Step, aI64 b.Grid.Width, aI64 b.Grid.Height, sI64 b.Grid.Z, sI64 b.Err]] (.loc (sI64 v4) [] [] 0) (callOk_ref (l := []) (args' := [.agg (api_Banded.c a), .agg (api_Banded.c b)]) (SnL.cons (Sn.pure rfl) (SnL.cons (Sn.pure rfl) SnL.nil)) (change_verdicts_ok n a b v4 hc5))) ?_
  refine EVO.p1 (.agg (api_Banded.c a)) ?_
  refine EVO.p1 (.agg (api_Banded.c b)) ?_
  refine EVO.c0 (by kernel_rfl) (callOf_at (by kernel_rfl)) ?_
  refine EVO.p1 (sI64 v4) ?_
  refine EVO.p1 (aI64 0) ?_
  refine EVO.done ?_
  refine CQ.ret ?_
  obtain rfl := Option.some.inj hr
  exact FinQ.ret (vs := [sI64 v4, aI64 0]) (by kernel_rfl) (Sn.tup (SnL.cons (Sn.pure rfl) (SnL.cons (Sn.pure rfl) SnL.nil)))

theorem integer_split_inj {n' : Int} {n'_ : Int} (h : ([.at (.int .u64 n')] : List AV) = [.at (.int .u64 n'_)]) : n' = n'_ := by
 simp only [List.cons.injEq, AV.agg.injEq, AV.at.injEq, Value.int.injEq, Value.bool.injEq, AV.fn.injEq, AV.pp.injEq, true_and, and_true] at h
 simp_all
theorem integer_split_ok (n : Nat) (n' : Int) (r : List Int) (hr : integer_split n n' = some r) : FnOk Tryz.prog 104 [.at (.int .u64 n')] (slT (iC .u32) r) := by
 unfold integer_split at hr
 refine FnOk.body fine Tryz.func104 (c := (Tryz.f104.body).getD .skip) rfl (s := mkS 15 0 [(0, aU64 n')]) (by kernel_rfl) (rs := [.tmp 2]) rfl ?_
 unfold Tryz.f104
 simp only [Option.getD_some]
 refine CQ.seq ?_
 refine CQ.r0 fine ?_
 refine EVO.p1 (.at (.slice none 0 0)) ?_
 refine EVO.done ?_
 refine CQ.n1 [0] (mkS 15 0 [(0, aU64 n')]) [] ?_
 refine CQ.seq ?_
 refine CQ.r0 fine ?_
 refine EVO.p1 (.at (.slice none 0 0)) ?_
 refine EVO.done ?_
 refine CQ.seq ?_
 refine CQ.block ?_
 replace hr := bd hr; obtain ⟨g_6, hL12, hr⟩ := hr
 refine CQ.loopO (σ := fun z0 => match z0 with | (n_1, g_2) => ⟨mkS 15 0 [(0, aU64 n_1), (3, .hs 0 0 g_2.length 1)], [.own (g_2.flatMap (iC .u32))]⟩) (Q := fun x st' => x = .exit 0 ∧ Wk st' ⟨mkS 15 0 [(3, .hs 0 0 g_6.length 1)], [.own (g_6.flatMap (iC .u32))]⟩) hL12 ((Wk.nil 3 1 (by kernel_rfl)).trans ((Wk.gc [0, 3] [(0, false)] rfl ⟨rfl, trivial⟩).to (by kernel_rfl))) ?_ ?_
 ·clear hr
  rintro m ⟨n_1, g_2⟩ hr
  show CQ _ _ _ _ ⟨_, _⟩
  refine CQ.seq ?_
  refine CQ.seq ?_
  refine CQ.r0 fine ?_
  refine EVO.p1 (aU64 n_1) ?_
  refine EVO.p1 (aB (decide (n_1 > 0))) ?_
  refine EVO.done ?_
  refine CQ.n1 [0, 3, 5] (mkS 15 0 [(0, aU64 n_1), (3, .hs 0 0 g_2.length 1), (5, aB (decide (n_1 > 0)))]) [.own (g_2.flatMap (iC .u32))] ?_
  refine CQ.cond (t := decide (n_1 > 0)) (by kernel_rfl) (fun hb8 => ?_) (fun hb8 => ?_)
  ·replace hr := cd_t hb8 hr
   refine CQ.skip ?_
   refine CQ.seq ?_
   refine CQ.block ?_
   replace hr := gd hr; obtain ⟨hg9, hr⟩ := hr
   replace hr := gd hr; obtain ⟨hg10, hr⟩ := hr
   refine CQ.r0 fine ?_
   refine EVO.p1 (.hs 0 0 g_2.length 1) ?_
   refine EVO.p1 (aU64 n_1) ?_
   refine EVO.p1 (aU64 (n_1.tmod 1000000000)) ?_
   refine EVO.p1 (aU32 (wrapF .u32 (n_1.tmod 1000000000))) ?_
   refine EVO.e1 (.hs 1 0 1 1) [(1, .own [aU32 (wrapF .u32 (n_1.tmod 1000000000))])] ?_
   refine EVO.e0 (v := .hs 2 0 (g_2 ++ [wrapF .u32 (n_1.tmod 1000000000)]).length 1) (ws := [(0, .dead), (2, .own ((g_2 ++ [wrapF .u32 (n_1.tmod 1000000000)]).flatMap (iC .u32)))]) (Eq.trans (b := guardO (decide (0 + g_2.length * 1 ≤ (g_2.flatMap (iC .u32)).length) && decide ((g_2.length + 1) * 4 ≤ 140737488355328) && decide (g_2.length + 1 ≤ 4611686018427387904)) (some (.eff (.hs 2 0 (g_2.length + 1) 1) [(0, .dead), (2, .own (((g_2.flatMap (iC .u32)).drop 0).take (g_2.length * 1) ++ [aU32 (wrapF .u32 (n_1.tmod 1000000000))]))]))) (by kernel_rfl) (app_own (l := g_2) (xs := [wrapF .u32 (n_1.tmod 1000000000)]) (iC_len _) rfl rfl (by kernel_rfl) hg9 hg10)) ?_
   refine EVO.p1 (.hs 2 0 (g_2 ++ [wrapF .u32 (n_1.tmod 1000000000)]).length 1) ?_
   refine EVO.done ?_
   refine CQ.pop ?_
   refine CQ.r0 fine ?_
   refine EVO.p1 (aU64 n_1) ?_
   refine EVO.p1 (aU64 (wrapF .u64 (n_1.tdiv 1000000000))) ?_
   refine EVO.p1 (aU64 (wrapF .u64 (n_1.tdiv 1000000000))) ?_
   refine EVO.done ?_
   exact loopF_back (wrapF .u64 (n_1.tdiv 1000000000), g_2 ++ [wrapF .u32 (n_1.tmod 1000000000)]) hr ((Wk.gc [0, 3] [(2, false)] rfl ⟨ids_flat (iC_pure _) _, trivial⟩).to (by kernel_rfl))
  ·replace hr := cd_f hb8 hr
   refine CQ.leave rfl ?_
   obtain rfl := Option.some.inj hr
   exact ⟨rfl, ((Wk.gc [3] [(0, false)] rfl ⟨ids_flat (iC_pure _) _, trivial⟩).to (by kernel_rfl))⟩
 ·rintro x st' hq13
  clear hL12
  obtain ⟨rfl, hq13⟩ := hq13
  refine CQ_exit _ rfl ?_
  refine CQ.wk hq13 ?_
  refine CQ.seq ?_
  refine CQ.r0 fine ?_
  refine EVO.p1 (.hs 0 0 g_6.length 1) ?_
  refine EVO.p1 (.hs 0 0 g_6.length 1) ?_
  refine EVO.done ?_
  refine CQ.ret ?_
  obtain rfl := Option.some.inj hr
  exact FinQ.ret (vs := [.hs 0 0 g_6.length 1]) (by kernel_rfl) (Sn.hs rfl (.inl rfl) (SnC.pure (ids_flat (iC_pure _) _)) (fun h => flat_nil0 h))

theorem integer_trim_ok (n : Nat) (g : List Int) (r : List Int) (hr : integer_trim n g = some r) : FnOk Tryz.prog 131 [slT (iC .u32) g] (slT (iC .u32) r) := by
 unfold integer_trim at hr
 refine FnOk.body fine Tryz.func131 (c := (Tryz.f131.body).getD .skip) rfl (s := mkS 21 0 [(0, sU32 g)]) (by kernel_rfl) (rs := [.tmp 2]) rfl ?_
 unfold Tryz.f131
 simp only [Option.getD_some]
 refine CQ.seq ?_
 refine CQ.r0 fine ?_
 refine EVO.p1 (.at (.slice none 0 0)) ?_
 refine EVO.done ?_
 refine CQ.n1 [0] (mkS 21 0 [(0, sU32 g)]) [] ?_
 refine CQ.seq ?_
 refine CQ.block ?_
 replace hr := bd hr; obtain ⟨g_6, hL13, hr⟩ := hr
 refine CQ.loopO (σ := fun z0 => match z0 with | g_1 => ⟨mkS 21 0 [(0, sU32 g_1)], []⟩) (Q := fun x st' => x = .exit 0 ∧ Wk st' ⟨mkS 21 0 [(0, sU32 g_6)], []⟩) hL13 ((Wk.gc [0] [] rfl trivial).to (by kernel_rfl)) ?_ ?_
 ·clear hr
  rintro m g_1 hr
  show CQ _ _ _ _ ⟨_, _⟩
  refine CQ.seq ?_
  refine CQ.seq ?_
  rcases Bool.eq_false_or_eq_true (decide ((g_1.length : Int) > 0)) with hb8 | hb8
  ·replace hr := cd_t hb8 hr
   replace hr := gd hr; obtain ⟨hg9, hr⟩ := hr
   refine CQ.r0 fine ?_
   refine EVO.p1 (sU32 g_1) ?_
   refine EVO.p1 (aI64 (g_1.length : Int)) ?_
   refine EVO.p0 (v := aB true) (Eq.trans (b := some (.pure (aB (decide ((g_1.length : Int) > 0))))) (by kernel_rfl) (by rw [hb8])) ?_
   refine EVO.p1 (aB true) ?_
   refine EVO.q1 (sU32 g_1) ?_
   refine EVO.q1 (sU32 g_1) ?_
   refine EVO.q1 (aI64 (g_1.length : Int)) ?_
   refine EVO.q1 (aI64 (wrapF .i64 ((g_1.length : Int) - 1))) ?_
   refine EVO.pure (v := .pp (g_1.flatMap (iC .u32)) ((wrapF .i64 ((g_1.length : Int) - 1)).toNat * 1)) (by kernel_rfl) (Eq.trans (b := ORes.ofP (guardV (inR (wrapF .i64 ((g_1.length : Int) - 1)) g_1.length) (.pp (g_1.flatMap (iC .u32)) ((wrapF .i64 ((g_1.length : Int) - 1)).toNat * 1)))) (by kernel_rfl) (ofP_guard hg9)) ?_
   refine EVO.pure (v := aU32 (gt g_1 (wrapF .i64 ((g_1.length : Int) - 1)))) (by kernel_rfl) (Eq.trans (b := ORes.ofP ((g_1.flatMap (iC .u32))[(wrapF .i64 ((g_1.length : Int) - 1)).toNat * 1]?)) (by kernel_rfl) (ofP_some (flat_get (iC_len _) (inR_lt hg9) (by decide : 0 < 1) (by omega : (wrapF .i64 ((g_1.length : Int) - 1)).toNat * 1 = (wrapF .i64 ((g_1.length : Int) - 1)).toNat * 1 + 0) (by kernel_rfl)))) ?_
   refine EVO.q1 (aB (((gt g_1 (wrapF .i64 ((g_1.length : Int) - 1))) : Int) == 0)) ?_
   refine EVO.p1 (aB (((gt g_1 (wrapF .i64 ((g_1.length : Int) - 1))) : Int) == 0)) ?_
   refine EVO.done ?_
   refine CQ.n1 [0, 14] (mkS 21 0 [(0, sU32 g_1), (14, aB (((gt g_1 (wrapF .i64 ((g_1.length : Int) - 1))) : Int) == 0))]) [] ?_
   refine CQ.cond (t := ((gt g_1 (wrapF .i64 ((g_1.length : Int) - 1))) : Int) == 0) (by kernel_rfl) (fun hb10 => ?_) (fun hb10 => ?_)
   ·replace hr := cd_t hb10 hr
    refine CQ.skip ?_
    refine CQ.block ?_
    replace hr := gd hr; obtain ⟨hg11, hr⟩ := hr
    refine CQ.r0 fine ?_
    refine EVO.p1 (sU32 g_1) ?_
    refine EVO.p1 (sU32 g_1) ?_
    refine EVO.p1 (aI64 (g_1.length : Int)) ?_
    refine EVO.p1 (aI64 (wrapF .i64 ((g_1.length : Int) - 1))) ?_
    refine EVO.p0 (v := sU32 ((g_1.drop (0 : Int).toNat).take ((wrapF .i64 ((g_1.length : Int) - 1)).toNat - (0 : Int).toNat))) (Eq.trans (b := slO (inS 0 (wrapF .i64 ((g_1.length : Int) - 1)) g_1.length) (0 : Int).toNat (wrapF .i64 ((g_1.length : Int) - 1)).toNat (fun z1 z2 => .sl true (((g_1.flatMap (iC .u32)).drop (z1 * 1)).take ((z2 - z1) * 1)) (z2 - z1))) (by kernel_rfl) (slO_t hg11 (sub_sl (iC_len _) (inS_le hg11)))) ?_
    refine EVO.p1 (sU32 ((g_1.drop (0 : Int).toNat).take ((wrapF .i64 ((g_1.length : Int) - 1)).toNat - (0 : Int).toNat))) ?_
    refine EVO.done ?_
    refine CQ.pop ?_
    exact loopF_back ((g_1.drop (0 : Int).toNat).take ((wrapF .i64 ((g_1.length : Int) - 1)).toNat - (0 : Int).toNat)) hr ((Wk.gc [0] [] rfl trivial).to (by kernel_rfl))
   ·replace hr := cd_f hb10 hr
    refine CQ.leave rfl ?_
    obtain rfl := Option.some.inj hr
    exact ⟨rfl, ((Wk.gc [0] [] rfl trivial).to (by kernel_rfl))⟩
  ·replace hr := cd_f hb8 hr
   refine CQ.r0 fine ?_
   refine EVO.p1 (sU32 g_1) ?_
   refine EVO.p1 (aI64 (g_1.length : Int)) ?_
   refine EVO.p0 (v := aB false) (Eq.trans (b := some (.pure (aB (decide ((g_1.length : Int) > 0))))) (by kernel_rfl) (by rw [hb8])) ?_
   refine EVO.p1 (aB false) ?_
   refine EVO.s1 ?_
   refine EVO.s1 ?_
   refine EVO.s1 ?_
   refine EVO.s1 ?_
   refine EVO.s1 ?_
   refine EVO.s1 ?_
   refine EVO.s1 ?_
   refine EVO.p1 (aB false) ?_
   refine EVO.done ?_
   refine CQ.n1 [0, 14] (mkS 21 0 [(0, sU32 g_1), (14, aB false)]) [] ?_
   refine CQ.cF (by kernel_rfl) ?_
   refine CQ.leave rfl ?_
   obtain rfl := Option.some.inj hr
   exact ⟨rfl, ((Wk.gc [0] [] rfl trivial).to (by kernel_rfl))⟩
 ·rintro x st' hq14
  clear hL13
  obtain ⟨rfl, hq14⟩ := hq14
  refine CQ_exit _ rfl ?_
  refine CQ.wk hq14 ?_
  refine CQ.seq ?_
  refine CQ.r0 fine ?_
  refine EVO.p1 (sU32 g_6) ?_
  refine EVO.p1 (sU32 g_6) ?_
  refine EVO.done ?_
  refine CQ.ret ?_
  obtain rfl := Option.some.inj hr
  exact FinQ.r1 [sU32 g_6]

theorem integer_made_inj {negative : Bool} {g : List Int} {negative_ : Bool} {g_ : List Int} (h : ([.at (.bool negative), slT (iC .u32) g] : List AV) = [.at (.bool negative_), slT (iC .u32) g_]) : negative = negative_ ∧ g = g_ := by
 simp only [List.cons.injEq, AV.agg.injEq, AV.at.injEq, Value.int.injEq, Value.bool.injEq, AV.fn.injEq, AV.pp.injEq, true_and, and_true, slT_inj_int] at h
 simp_all
theorem integer_made_ok (n : Nat) (negative : Bool) (g : List Int) (r : api_Int) (hr : integer_made n negative g = some r) : FnOk Tryz.prog 103 [.at (.bool negative), slT (iC .u32) g] (.agg [.at (.bool r.Negative), slT (iC .u32) r.Groups]) := by
 unfold integer_made at hr
 refine FnOk.body fine Tryz.func103 (c := (Tryz.f103.body).getD .skip) rfl (s := mkS 14 0 [(0, aB negative), (1, sU32 g)]) (by kernel_rfl) (rs := [.cell 4 35]) rfl ?_
 unfold Tryz.f103
 simp only [Option.getD_some]
 refine CQ.seq ?_
 refine CQ.r0 fine ?_
 refine EVO.e1 (.hp 0 0) [(0, .own [aB false, .at (.slice none 0 0)])] ?_
 refine EVO.done ?_
 refine CQ.seq ?_
 replace hr := bd hr; obtain ⟨v1, hc2, hr⟩ := hr
 refine CQ.region fine (callOf_1 131 [sU32 g] [.own [aB false, .at (.slice none 0 0)]] (.loc (sU32 v1) [] [] 0) (callOk_ref (l := []) (args' := [sU32 g]) (SnL.cons (Sn.pure rfl) SnL.nil) (integer_trim_ok n g v1 hc2))) ?_
 refine EVO.p1 (sU32 g) ?_
 refine EVO.c0 (by kernel_rfl) (callOf_at (by kernel_rfl)) ?_
 refine EVO.p1 (sU32 v1) ?_
 refine EVO.done ?_
 refine CQ.n1 [0, 1, 4] (mkS 14 0 [(0, aB negative), (1, sU32 v1), (4, .hp 0 0)]) [.own [aB false, .at (.slice none 0 0)]] ?_
 refine CQ.seq ?_
 refine CQ.seq ?_
 refine CQ.r0 fine ?_
 refine EVO.p1 (sU32 v1) ?_
 refine EVO.p1 (aI64 (v1.length : Int)) ?_
 refine EVO.p1 (aB (((v1.length : Int) : Int) == 0)) ?_
 refine EVO.done ?_
 refine CQ.n1 [0, 1, 4, 9] (mkS 14 0 [(0, aB negative), (1, sU32 v1), (4, .hp 0 0), (9, aB (((v1.length : Int) : Int) == 0))]) [.own [aB false, .at (.slice none 0 0)]] ?_
 refine CQ.cond (t := ((v1.length : Int) : Int) == 0) (by kernel_rfl) (fun hb3 => ?_) (fun hb3 => ?_)
 ·replace hr := cd_t hb3 hr
  refine CQ.seq ?_
  refine CQ.r0 fine ?_
  refine EVO.p1 (.agg [aB false, .at (.slice none 0 0)]) ?_
  refine EVO.e1 (.unk) [(0, .own [aB false, .at (.slice none 0 0)])] ?_
  refine EVO.done ?_
  refine CQ.ret ?_
  obtain rfl := Option.some.inj hr
  exact FinQ.ret (vs := [.agg [aB false, .at (.slice none 0 0)]]) (by kernel_rfl) (Sn.agg (SnL.cons (Sn.pure rfl) (SnL.cons Sn.nilsl SnL.nil)))
 ·replace hr := cd_f hb3 hr
  refine CQ.skip ?_
  refine CQ.seq ?_
  refine CQ.r0 fine ?_
  refine EVO.p1 (aB negative) ?_
  refine EVO.p1 (sU32 v1) ?_
  refine EVO.p1 (.agg [aB negative, sU32 v1]) ?_
  refine EVO.e1 (.unk) [(0, .own [aB negative, sU32 v1])] ?_
  refine EVO.done ?_
  refine CQ.ret ?_
  obtain rfl := Option.some.inj hr
  exact FinQ.r1 [.agg [aB negative, sU32 v1]]

theorem integer_Of_inj {n' : Int} {n'_ : Int} (h : ([.at (.int .i64 n')] : List AV) = [.at (.int .i64 n'_)]) : n' = n'_ := by
 simp only [List.cons.injEq, AV.agg.injEq, AV.at.injEq, Value.int.injEq, Value.bool.injEq, AV.fn.injEq, AV.pp.injEq, true_and, and_true] at h
 simp_all
theorem integer_Of_ok (n : Nat) (n' : Int) (r : api_Int) (hr : integer_Of n n' = some r) : FnOk Tryz.prog 64 [.at (.int .i64 n')] (.agg [.at (.bool r.Negative), slT (iC .u32) r.Groups]) := by
 unfold integer_Of at hr
 refine FnOk.body fine Tryz.func64 (c := (Tryz.f64.body).getD .skip) rfl (s := mkS 15 0 [(0, aI64 n')]) (by kernel_rfl) (rs := [.cell 2 35]) rfl ?_
 unfold Tryz.f64
 simp only [Option.getD_some]
 refine CQ.seq ?_
 refine CQ.r0 fine ?_
 refine EVO.e1 (.hp 0 0) [(0, .own [aB false, .at (.slice none 0 0)])] ?_
 refine EVO.done ?_
 refine CQ.seq ?_
 refine CQ.r0 fine ?_
 refine EVO.p1 (aI64 n') ?_
 refine EVO.p1 (aU64 (wrapF .u64 n')) ?_
 refine EVO.p1 (aU64 (wrapF .u64 n')) ?_
 refine EVO.done ?_
 refine CQ.n1 [0, 2, 3] (mkS 15 0 [(0, aI64 n'), (2, .hp 0 0), (3, aU64 (wrapF .u64 n'))]) [.own [aB false, .at (.slice none 0 0)]] ?_
 refine CQ.seq ?_
 refine CQ.seq ?_
 refine CQ.r0 fine ?_
 refine EVO.p1 (aI64 n') ?_
 refine EVO.p1 (aB (decide (n' < 0))) ?_
 refine EVO.done ?_
 refine CQ.n1 [0, 2, 3, 7] (mkS 15 0 [(0, aI64 n'), (2, .hp 0 0), (3, aU64 (wrapF .u64 n')), (7, aB (decide (n' < 0)))]) [.own [aB false, .at (.slice none 0 0)]] ?_
 refine CQ.cond (t := decide (n' < 0)) (by kernel_rfl) (fun hb1 => ?_) (fun hb1 => ?_)
 ·replace hr := cd_t hb1 hr
  refine CQ.r0 fine ?_
  refine EVO.p1 (aU64 (wrapF .u64 n')) ?_
  refine EVO.p0 (v := aU64 (wrapF .u64 (0 - (wrapF .u64 n')))) (Eq.trans (b := some (.pure (aU64 (IntKind.wrap .u64 (0 - (wrapF .u64 n')))))) (by kernel_rfl) wrap_at) ?_
  refine EVO.p1 (aU64 (wrapF .u64 (0 - (wrapF .u64 n')))) ?_
  refine EVO.done ?_
  refine CQ.n1 [0, 2, 3] (mkS 15 0 [(0, aI64 n'), (2, .hp 0 0), (3, aU64 (wrapF .u64 (0 - (wrapF .u64 n'))))]) [.own [aB false, .at (.slice none 0 0)]] ?_
  refine CQ.seq ?_
  replace hr := bd hr; obtain ⟨v2, hc3, hr⟩ := hr
  replace hr := bd hr; obtain ⟨v4, hc5, hr⟩ := hr
  refine CQ.region fine (callOf_ok [{ f := 104, args := [aU64 (wrapF .u64 (0 - (wrapF .u64 n')))], H := [.own [aB false, .at (.slice none 0 0)]], r := .loc (sU32 v2) [] [] 0 : CE }, { f := 103, args := [aB true, sU32 v2], H := [.own [aB false, .at (.slice none 0 0)]], r := .loc (.agg (api_Int.c v4)) [] [] 0 : CE }] (List.forall_mem_cons.2 ⟨(callOk_ref (l := []) (args' := [aU64 (wrapF .u64 (0 - (wrapF .u64 n')))]) (SnL.cons (Sn.pure rfl) SnL.nil) (integer_split_ok n (wrapF .u64 (0 - (wrapF .u64 n'))) v2 hc3)), (List.forall_mem_cons.2 ⟨(callOk_ref (l := []) (args' := [aB true, sU32 v2]) (SnL.cons (Sn.pure rfl) (SnL.cons (Sn.pure rfl) SnL.nil)) (integer_made_ok n true v2 v4 hc5)), ce0⟩)⟩)) ?_
  refine EVO.p1 (aI64 n') ?_
  refine EVO.p0 (v := aB true) (Eq.trans (b := some (.pure (aB (decide (n' < 0))))) (by kernel_rfl) (by rw [hb1])) ?_
  refine EVO.p1 (aU64 (wrapF .u64 (0 - (wrapF .u64 n')))) ?_
  refine EVO.c0 (by kernel_rfl) (callOf_at (by kernel_rfl)) ?_
  refine EVO.c0 (by kernel_rfl) (callOf_skip (fun h _ => absurd (show (103 : Nat) = 104 from h) (by decide)) (callOf_at (by kernel_rfl))) ?_
  refine EVO.e1 (.unk) [(0, .own (api_Int.c v4))] ?_
  refine EVO.done ?_
  refine CQ.ret ?_
  obtain rfl := Option.some.inj hr
  exact FinQ.r1 [.agg (api_Int.c v4)]
 ·replace hr := cd_f hb1 hr
  refine CQ.skip ?_
  refine CQ.seq ?_
  replace hr := bd hr; obtain ⟨v6, hc7, hr⟩ := hr
  replace hr := bd hr; obtain ⟨v8, hc9, hr⟩ := hr
  refine CQ.region fine (callOf_ok [{ f := 104, args := [aU64 (wrapF .u64 n')], H := [.own [aB false, .at (.slice none 0 0)]], r := .loc (sU32 v6) [] [] 0 : CE }, { f := 103, args := [aB false, sU32 v6], H := [.own [aB false, .at (.slice none 0 0)]], r := .loc (.agg (api_Int.c v8)) [] [] 0 : CE }] (List.forall_mem_cons.2 ⟨(callOk_ref (l := []) (args' := [aU64 (wrapF .u64 n')]) (SnL.cons (Sn.pure rfl) SnL.nil) (integer_split_ok n (wrapF .u64 n') v6 hc7)), (List.forall_mem_cons.2 ⟨(callOk_ref (l := []) (args' := [aB false, sU32 v6]) (SnL.cons (Sn.pure rfl) (SnL.cons (Sn.pure rfl) SnL.nil)) (integer_made_ok n false v6 v8 hc9)), ce0⟩)⟩)) ?_
  refine EVO.p1 (aI64 n') ?_
  refine EVO.p0 (v := aB false) (Eq.trans (b := some (.pure (aB (decide (n' < 0))))) (by kernel_rfl) (by rw [hb1])) ?_
  refine EVO.p1 (aU64 (wrapF .u64 n')) ?_
  refine EVO.c0 (by kernel_rfl) (callOf_at (by kernel_rfl)) ?_
  refine EVO.c0 (by kernel_rfl) (callOf_skip (fun h _ => absurd (show (103 : Nat) = 104 from h) (by decide)) (callOf_at (by kernel_rfl))) ?_
  refine EVO.e1 (.unk) [(0, .own (api_Int.c v8))] ?_
  refine EVO.done ?_
  refine CQ.ret ?_
  obtain rfl := Option.some.inj hr
  exact FinQ.r1 [.agg (api_Int.c v8)]

theorem fraction_Whole_inj {n' : Int} {n'_ : Int} (h : ([.at (.int .i64 n')] : List AV) = [.at (.int .i64 n'_)]) : n' = n'_ := by
 simp only [List.cons.injEq, AV.agg.injEq, AV.at.injEq, Value.int.injEq, Value.bool.injEq, AV.fn.injEq, AV.pp.injEq, true_and, and_true] at h
 simp_all
theorem fraction_Whole_ok (n : Nat) (n' : Int) (r : api_Rat) (hr : fraction_Whole n n' = some r) : FnOk Tryz.prog 80 [.at (.int .i64 n')] (.agg [.at (.bool r.Num.Negative), slT (iC .u32) r.Num.Groups, .at (.bool r.Den.Negative), slT (iC .u32) r.Den.Groups]) := by
 unfold fraction_Whole at hr
 refine FnOk.body fine Tryz.func80 (c := (Tryz.f80.body).getD .skip) rfl (s := mkS 7 0 [(0, aI64 n')]) (by kernel_rfl) (rs := [.cell 2 37]) rfl ?_
 unfold Tryz.f80
 simp only [Option.getD_some]
 refine CQ.seq ?_
 refine CQ.r0 fine ?_
 refine EVO.e1 (.hp 0 0) [(0, .own [aB false, .at (.slice none 0 0), aB false, .at (.slice none 0 0)])] ?_
 refine EVO.done ?_
 refine CQ.seq ?_
 replace hr := bd hr; obtain ⟨v1, hc2, hr⟩ := hr
 replace hr := bd hr; obtain ⟨v3, hc4, hr⟩ := hr
 refine CQ.region fine (callOf_ok [{ f := 64, args := [aI64 n'], H := [.own [aB false, .at (.slice none 0 0), aB false, .at (.slice none 0 0)]], r := .loc (.agg (api_Int.c v1)) [] [] 0 : CE }, { f := 64, args := [aI64 1], H := [.own [aB false, .at (.slice none 0 0), aB false, .at (.slice none 0 0)]], r := .loc (.agg (api_Int.c v3)) [] [] 0 : CE }] (List.forall_mem_cons.2 ⟨(callOk_ref (l := []) (args' := [aI64 n']) (SnL.cons (Sn.pure rfl) SnL.nil) (integer_Of_ok n n' v1 hc2)), (List.forall_mem_cons.2 ⟨(callOk_ref (l := []) (args' := [aI64 1]) (SnL.cons (Sn.pure rfl) SnL.nil) (integer_Of_ok n 1 v3 hc4)), ce0⟩)⟩)) ?_
 refine EVO.p1 (aI64 n') ?_
 refine EVO.c0 (by kernel_rfl) (callOf_at (by kernel_rfl)) ?_
 refine EVO.c0 (by kernel_rfl) (callOf_skip (fun _ h => by obtain e0 := integer_Of_inj h; rw [show v3 = v1 from Option.some.inj (hc4.symm.trans ((show integer_Of n 1 = integer_Of n n' from (congr rfl e0)).trans hc2))]) (callOf_at (by kernel_rfl))) ?_
 refine EVO.p1 (.agg [aB v1.Negative, sU32 v1.Groups, aB v3.Negative, sU32 v3.Groups]) ?_
 refine EVO.e1 (.unk) [(0, .own [aB v1.Negative, sU32 v1.Groups, aB v3.Negative, sU32 v3.Groups])] ?_
 refine EVO.done ?_
 refine CQ.ret ?_
 obtain rfl := Option.some.inj hr
 exact FinQ.r1 [.agg [aB v1.Negative, sU32 v1.Groups, aB v3.Negative, sU32 v3.Groups]]

theorem integer_Valid_1_ok (n : Nat) (g : Int) (r : Bool) (hr : integer_Valid_1 n g = some r) : FnOk Tryz.prog 154 [.at (.int .u32 g)] (.at (.bool r)) := by
 unfold integer_Valid_1 at hr
 refine FnOk.body fine Tryz.func154 (c := (Tryz.f154.body).getD .skip) rfl (s := mkS 5 0 [(0, aU32 g)]) (by kernel_rfl) (rs := [.tmp 2]) rfl ?_
 unfold Tryz.f154
 simp only [Option.getD_some]
 refine CQ.seq ?_
 refine CQ.r0 fine ?_
 refine EVO.p1 (aB false) ?_
 refine EVO.done ?_
 refine CQ.n1 [0] (mkS 5 0 [(0, aU32 g)]) [] ?_
 refine CQ.seq ?_
 refine CQ.r0 fine ?_
 refine EVO.p1 (aU32 g) ?_
 refine EVO.p1 (aB (decide (g ≥ 1000000000))) ?_
 refine EVO.p1 (aB (decide (g ≥ 1000000000))) ?_
 refine EVO.done ?_
 refine CQ.ret ?_
 obtain rfl := Option.some.inj hr
 exact FinQ.r1 [aB (decide (g ≥ 1000000000))]

theorem slices_IndexFunc_uint32_uint32_of_integer_Valid_1_ok (n : Nat) (s : List Int) (r : Int) (hr : slices_IndexFunc_uint32_uint32_of_integer_Valid_1 n s = some r) : FnOk Tryz.prog 165 [slT (iC .u32) s, .fn 154 [] []] (.at (.int .i64 r)) := by
 unfold slices_IndexFunc_uint32_uint32_of_integer_Valid_1 at hr
 refine FnOk.body fine Tryz.func165 (c := (Tryz.f165.body).getD .skip) rfl (s := mkS 19 0 [(0, sU32 s), (1, .fn 154 [] [])]) (by kernel_rfl) (rs := [.tmp 4]) rfl ?_
 unfold Tryz.f165
 simp only [Option.getD_some]
 refine CQ.seq ?_
 refine CQ.r0 fine ?_
 refine EVO.p1 (aI64 0) ?_
 refine EVO.done ?_
 refine CQ.n1 [0, 1] (mkS 19 0 [(0, sU32 s), (1, .fn 154 [] [])]) [] ?_
 refine CQ.seq ?_
 refine CQ.seq ?_
 refine CQ.r0 fine ?_
 refine EVO.p1 (sU32 s) ?_
 refine EVO.p1 (aI64 (s.length : Int)) ?_
 refine EVO.p1 (aI64 0) ?_
 refine EVO.done ?_
 refine CQ.n1 [0, 1, 7, 8] (mkS 19 0 [(0, sU32 s), (1, .fn 154 [] []), (7, aI64 (s.length : Int)), (8, aI64 0)]) [] ?_
 refine CQ.block ?_
 replace hr := bd hr; obtain ⟨o13, hL14, hr⟩ := hr
 refine CQ.loopO (σ := fun z0 => match z0 with | x_1 => ⟨mkS 19 0 [(0, sU32 s), (1, .fn 154 [] []), (7, aI64 (s.length : Int)), (8, aI64 x_1)], []⟩) (Q := fun x st' => match (generalizing := false) o13 with | .inl _ => x = .exit 0 ∧ Wk st' ⟨mkS 19 0 [], []⟩ | .inr (r0) => x = .ret ∧ FinQ Tryz.prog [.tmp 4] (aI64 r0) .ret st') hL14 ((Wk.gc [0, 1, 7, 8] [] rfl trivial).to (by kernel_rfl)) ?_ ?_
 ·clear hr
  rintro m x_1 hr
  show CQ _ _ _ _ ⟨_, _⟩
  refine CQ.seq ?_
  refine CQ.r0 fine ?_
  refine EVO.p1 (aB (decide (x_1 < (s.length : Int)))) ?_
  refine EVO.done ?_
  refine CQ.seq ?_
  refine CQ.cond (t := decide (x_1 < (s.length : Int))) (by kernel_rfl) (fun hb8 => ?_) (fun hb8 => ?_)
  ·replace hr := cd_t hb8 hr
   refine CQ.skip ?_
   refine CQ.seq ?_
   refine CQ.block ?_
   refine CQ.seq ?_
   refine CQ.r0 fine ?_
   refine EVO.p1 (aI64 x_1) ?_
   refine EVO.p1 (aI64 x_1) ?_
   refine EVO.done ?_
   refine CQ.n1 [0, 1, 5, 7, 8] (mkS 19 0 [(0, sU32 s), (1, .fn 154 [] []), (5, aI64 x_1), (7, aI64 (s.length : Int)), (8, aI64 x_1)]) [] ?_
   refine CQ.seq ?_
   replace hr := gd hr; obtain ⟨hg9, hr⟩ := hr
   replace hr := bd hr; obtain ⟨v10, hc11, hr⟩ := hr
   refine CQ.region fine (callOf_1 154 [aU32 (gt s x_1)] [] (.loc (aB v10) [] [] 0) (callOk_val (l := []) (args' := [aU32 (gt s x_1)]) rfl (SnL.cons (Sn.pure rfl) SnL.nil) (integer_Valid_1_ok n (gt s x_1) v10 hc11))) ?_
   refine EVO.p1 (.fn 154 [] []) ?_
   refine EVO.p1 (sU32 s) ?_
   refine EVO.p1 (aI64 x_1) ?_
   refine EVO.p0 (v := .pp (s.flatMap (iC .u32)) (x_1.toNat * 1)) (Eq.trans (b := ORes.ofP (guardV (inR x_1 s.length) (.pp (s.flatMap (iC .u32)) (x_1.toNat * 1)))) (by kernel_rfl) (ofP_guard hg9)) ?_
   refine EVO.p0 (v := aU32 (gt s x_1)) (Eq.trans (b := ORes.ofP ((s.flatMap (iC .u32))[x_1.toNat * 1]?)) (by kernel_rfl) (ofP_some (flat_get (iC_len _) (inR_lt hg9) (by decide : 0 < 1) (by omega : x_1.toNat * 1 = x_1.toNat * 1 + 0) (by kernel_rfl)))) ?_
   refine EVO.c0 (by kernel_rfl) (callOf_at (by kernel_rfl)) ?_
   refine EVO.done ?_
   refine CQ.n1 [0, 1, 5, 7, 8, 16] (mkS 19 0 [(0, sU32 s), (1, .fn 154 [] []), (5, aI64 x_1), (7, aI64 (s.length : Int)), (8, aI64 x_1), (16, aB v10)]) [] ?_
   refine CQ.cond (t := v10) (by kernel_rfl) (fun hb12 => ?_) (fun hb12 => ?_)
   ·replace hr := cd_t hb12 hr
    refine CQ.seq ?_
    refine CQ.r0 fine ?_
    refine EVO.p1 (aI64 x_1) ?_
    refine EVO.p1 (aI64 x_1) ?_
    refine EVO.done ?_
    refine CQ.ret ?_
    obtain rfl := Option.some.inj hr
    exact ⟨rfl, FinQ.ret (vs := [aI64 x_1]) (by kernel_rfl) (Sn.pure rfl)⟩
   ·replace hr := cd_f hb12 hr
    refine CQ.skip ?_
    refine CQ.pop ?_
    refine CQ.r0 fine ?_
    refine EVO.p1 (aI64 (wrapF .i64 (x_1 + 1))) ?_
    refine EVO.p1 (aI64 (wrapF .i64 (x_1 + 1))) ?_
    refine EVO.done ?_
    exact loopF_back (wrapF .i64 (x_1 + 1)) hr ((Wk.gc [0, 1, 7, 8] [] rfl trivial).to (by kernel_rfl))
  ·replace hr := cd_f hb8 hr
   refine CQ.leave rfl ?_
   obtain rfl := Option.some.inj hr
   exact ⟨rfl, ((Wk.gc [] [] rfl trivial).to (by kernel_rfl))⟩
 ·rcases o13 with ⟨⟩ | r0
  ·rintro x st' hq15
   clear hL14
   obtain ⟨rfl, hq15⟩ := hq15
   refine CQ_exit _ rfl ?_
   refine CQ.wk hq15 ?_
   refine CQ.seq ?_
   refine CQ.r0 fine ?_
   refine EVO.p1 (aI64 (-1)) ?_
   refine EVO.done ?_
   refine CQ.ret ?_
   obtain rfl := Option.some.inj hr
   exact FinQ.r1 [aI64 (-1)]
  ·rintro x st' hq15
   clear hL14
   obtain ⟨rfl, hq15⟩ := hq15
   obtain rfl := Option.some.inj hr
   exact CQ_ret _ hq15

theorem slices_ContainsFunc_uint32_uint32_of_integer_Valid_1_ok (n : Nat) (s : List Int) (r : Bool) (hr : slices_ContainsFunc_uint32_uint32_of_integer_Valid_1 n s = some r) : FnOk Tryz.prog 153 [slT (iC .u32) s, .fn 154 [] []] (.at (.bool r)) := by
 unfold slices_ContainsFunc_uint32_uint32_of_integer_Valid_1 at hr
 refine FnOk.body fine Tryz.func153 (c := (Tryz.f153.body).getD .skip) rfl (s := mkS 9 0 [(0, sU32 s), (1, .fn 154 [] [])]) (by kernel_rfl) (rs := [.tmp 4]) rfl ?_
 unfold Tryz.f153
 simp only [Option.getD_some]
 refine CQ.seq ?_
 refine CQ.r0 fine ?_
 refine EVO.p1 (aB false) ?_
 refine EVO.done ?_
 refine CQ.n1 [0, 1] (mkS 9 0 [(0, sU32 s), (1, .fn 154 [] [])]) [] ?_
 refine CQ.seq ?_
 replace hr := bd hr; obtain ⟨v1, hc2, hr⟩ := hr
 refine CQ.region fine (callOf_1 165 [sU32 s, .fn 154 [] []] [] (.loc (aI64 v1) [] [] 0) (callOk_val (l := []) (args' := [sU32 s, .fn 154 [] []]) rfl (SnL.cons (Sn.pure rfl) (SnL.cons (Sn.pure rfl) SnL.nil)) (slices_IndexFunc_uint32_uint32_of_integer_Valid_1_ok n s v1 hc2))) ?_
 refine EVO.p1 (sU32 s) ?_
 refine EVO.p1 (.fn 154 [] []) ?_
 refine EVO.c0 (by kernel_rfl) (callOf_at (by kernel_rfl)) ?_
 refine EVO.p1 (aB (decide (v1 ≥ 0))) ?_
 refine EVO.p1 (aB (decide (v1 ≥ 0))) ?_
 refine EVO.done ?_
 refine CQ.ret ?_
 obtain rfl := Option.some.inj hr
 exact FinQ.r1 [aB (decide (v1 ≥ 0))]

theorem integer_Valid_inj {x' : api_Int} {x'_ : api_Int} (h : ([.agg [.at (.bool x'.Negative), slT (iC .u32) x'.Groups]] : List AV) = [.agg [.at (.bool x'_.Negative), slT (iC .u32) x'_.Groups]]) : x' = x'_ := by
 obtain ⟨_, _⟩ := x'
 obtain ⟨_, _⟩ := x'_
 simp only [List.cons.injEq, AV.agg.injEq, AV.at.injEq, Value.int.injEq, Value.bool.injEq, AV.fn.injEq, AV.pp.injEq, true_and, and_true, slT_inj_int] at h
 simp_all
theorem integer_Valid_ok (n : Nat) (x' : api_Int) (r : Bool) (hr : integer_Valid n x' = some r) : FnOk Tryz.prog 135 [.agg [.at (.bool x'.Negative), slT (iC .u32) x'.Groups]] (.at (.bool r)) := by
 unfold integer_Valid at hr
 refine FnOk.body fine Tryz.func135 (c := (Tryz.f135.body).getD .skip) rfl (s := mkS 25 0 [(0, .agg (api_Int.c x'))]) (by kernel_rfl) (rs := [.tmp 2]) rfl ?_
 unfold Tryz.f135
 simp only [Option.getD_some]
 refine CQ.seq ?_
 refine CQ.r0 fine ?_
 refine EVO.e1 (.hp 0 0) [(0, .own (api_Int.c x'))] ?_
 refine EVO.p1 (aB false) ?_
 refine EVO.done ?_
 refine CQ.n1 [1] (mkS 25 0 [(1, .hp 0 0)]) [.own (api_Int.c x')] ?_
 refine CQ.seq ?_
 refine CQ.r0 fine ?_
 refine EVO.p1 (.hp 0 1) ?_
 refine EVO.p1 (sU32 x'.Groups) ?_
 refine EVO.p1 (aI64 (x'.Groups.length : Int)) ?_
 refine EVO.p1 (aI64 (x'.Groups.length : Int)) ?_
 refine EVO.done ?_
 refine CQ.n1 [1, 3] (mkS 25 0 [(1, .hp 0 0), (3, aI64 (x'.Groups.length : Int))]) [.own (api_Int.c x')] ?_
 refine CQ.seq ?_
 refine CQ.seq ?_
 refine CQ.r0 fine ?_
 refine EVO.p1 (aI64 (x'.Groups.length : Int)) ?_
 refine EVO.p1 (aB (((x'.Groups.length : Int) : Int) == 0)) ?_
 refine EVO.done ?_
 refine CQ.n1 [1, 3, 8] (mkS 25 0 [(1, .hp 0 0), (3, aI64 (x'.Groups.length : Int)), (8, aB (((x'.Groups.length : Int) : Int) == 0))]) [.own (api_Int.c x')] ?_
 refine CQ.cond (t := ((x'.Groups.length : Int) : Int) == 0) (by kernel_rfl) (fun hb1 => ?_) (fun hb1 => ?_)
 ·replace hr := cd_t hb1 hr
  refine CQ.seq ?_
  refine CQ.r0 fine ?_
  refine EVO.p1 (.hp 0 0) ?_
  refine EVO.p1 (aB x'.Negative) ?_
  refine EVO.p1 (aB (!x'.Negative)) ?_
  refine EVO.p1 (aB (!x'.Negative)) ?_
  refine EVO.done ?_
  refine CQ.ret ?_
  obtain rfl := Option.some.inj hr
  exact FinQ.r1 [aB (!x'.Negative)]
 ·replace hr := cd_f hb1 hr
  refine CQ.skip ?_
  refine CQ.seq ?_
  replace hr := gd hr; obtain ⟨hg2, hr⟩ := hr
  rcases Bool.eq_false_or_eq_true (((gt x'.Groups (wrapF .i64 ((x'.Groups.length : Int) - 1))) : Int) != 0) with hb3 | hb3
  ·replace hr := cd_t hb3 hr
   replace hr := bd hr; obtain ⟨v4, hc5, hr⟩ := hr
   refine CQ.region fine (callOf_1 153 [sU32 x'.Groups, .fn 154 [] []] [.own (api_Int.c x')] (.loc (aB v4) [] [] 0) (callOk_val (l := []) (args' := [sU32 x'.Groups, .fn 154 [] []]) rfl (SnL.cons (Sn.pure rfl) (SnL.cons (Sn.pure rfl) SnL.nil)) (slices_ContainsFunc_uint32_uint32_of_integer_Valid_1_ok n x'.Groups v4 hc5))) ?_
   refine EVO.p1 (.hp 0 1) ?_
   refine EVO.p1 (sU32 x'.Groups) ?_
   refine EVO.p1 (aI64 (x'.Groups.length : Int)) ?_
   refine EVO.p1 (aI64 (wrapF .i64 ((x'.Groups.length : Int) - 1))) ?_
   refine EVO.p0 (v := .pp (x'.Groups.flatMap (iC .u32)) ((wrapF .i64 ((x'.Groups.length : Int) - 1)).toNat * 1)) (Eq.trans (b := ORes.ofP (guardV (inR (wrapF .i64 ((x'.Groups.length : Int) - 1)) x'.Groups.length) (.pp (x'.Groups.flatMap (iC .u32)) ((wrapF .i64 ((x'.Groups.length : Int) - 1)).toNat * 1)))) (by kernel_rfl) (ofP_guard hg2)) ?_
   refine EVO.p0 (v := aU32 (gt x'.Groups (wrapF .i64 ((x'.Groups.length : Int) - 1)))) (Eq.trans (b := ORes.ofP ((x'.Groups.flatMap (iC .u32))[(wrapF .i64 ((x'.Groups.length : Int) - 1)).toNat * 1]?)) (by kernel_rfl) (ofP_some (flat_get (iC_len _) (inR_lt hg2) (by decide : 0 < 1) (by omega : (wrapF .i64 ((x'.Groups.length : Int) - 1)).toNat * 1 = (wrapF .i64 ((x'.Groups.length : Int) - 1)).toNat * 1 + 0) (by kernel_rfl)))) ?_
   refine EVO.p0 (v := aB true) (Eq.trans (b := some (.pure (aB (((gt x'.Groups (wrapF .i64 ((x'.Groups.length : Int) - 1))) : Int) != 0)))) (by kernel_rfl) (by rw [hb3])) ?_
   refine EVO.p1 (aB true) ?_
   refine EVO.q1 (.hp 0 1) ?_
   refine EVO.q1 (sU32 x'.Groups) ?_
   refine EVO.cal (by kernel_rfl) (by kernel_rfl) (callOf_at (by kernel_rfl)) ?_
   refine EVO.q1 (aB (!v4)) ?_
   refine EVO.p1 (aB (!v4)) ?_
   refine EVO.p1 (aB (!v4)) ?_
   refine EVO.done ?_
   refine CQ.ret ?_
   obtain rfl := Option.some.inj hr
   exact FinQ.r1 [aB (!v4)]
  ·replace hr := cd_f hb3 hr
   refine CQ.r0 fine ?_
   refine EVO.p1 (.hp 0 1) ?_
   refine EVO.p1 (sU32 x'.Groups) ?_
   refine EVO.p1 (aI64 (x'.Groups.length : Int)) ?_
   refine EVO.p1 (aI64 (wrapF .i64 ((x'.Groups.length : Int) - 1))) ?_
   refine EVO.p0 (v := .pp (x'.Groups.flatMap (iC .u32)) ((wrapF .i64 ((x'.Groups.length : Int) - 1)).toNat * 1)) (Eq.trans (b := ORes.ofP (guardV (inR (wrapF .i64 ((x'.Groups.length : Int) - 1)) x'.Groups.length) (.pp (x'.Groups.flatMap (iC .u32)) ((wrapF .i64 ((x'.Groups.length : Int) - 1)).toNat * 1)))) (by kernel_rfl) (ofP_guard hg2)) ?_
   refine EVO.p0 (v := aU32 (gt x'.Groups (wrapF .i64 ((x'.Groups.length : Int) - 1)))) (Eq.trans (b := ORes.ofP ((x'.Groups.flatMap (iC .u32))[(wrapF .i64 ((x'.Groups.length : Int) - 1)).toNat * 1]?)) (by kernel_rfl) (ofP_some (flat_get (iC_len _) (inR_lt hg2) (by decide : 0 < 1) (by omega : (wrapF .i64 ((x'.Groups.length : Int) - 1)).toNat * 1 = (wrapF .i64 ((x'.Groups.length : Int) - 1)).toNat * 1 + 0) (by kernel_rfl)))) ?_
   refine EVO.p0 (v := aB false) (Eq.trans (b := some (.pure (aB (((gt x'.Groups (wrapF .i64 ((x'.Groups.length : Int) - 1))) : Int) != 0)))) (by kernel_rfl) (by rw [hb3])) ?_
   refine EVO.p1 (aB false) ?_
   refine EVO.s1 ?_
   refine EVO.s1 ?_
   refine EVO.s1 ?_
   refine EVO.s1 ?_
   refine EVO.p1 (aB false) ?_
   refine EVO.p1 (aB false) ?_
   refine EVO.done ?_
   refine CQ.ret ?_
   obtain rfl := Option.some.inj hr
   exact FinQ.r1 [aB false]

theorem integer_groups_inj {x' : api_Int} {x'_ : api_Int} (h : ([.agg [.at (.bool x'.Negative), slT (iC .u32) x'.Groups]] : List AV) = [.agg [.at (.bool x'_.Negative), slT (iC .u32) x'_.Groups]]) : x' = x'_ := by
 obtain ⟨_, _⟩ := x'
 obtain ⟨_, _⟩ := x'_
 simp only [List.cons.injEq, AV.agg.injEq, AV.at.injEq, Value.int.injEq, Value.bool.injEq, AV.fn.injEq, AV.pp.injEq, true_and, and_true, slT_inj_int] at h
 simp_all
theorem integer_groups_ok (n : Nat) (x' : api_Int) (r : List Int) (hr : integer_groups n x' = some r) : FnOk Tryz.prog 106 [.agg [.at (.bool x'.Negative), slT (iC .u32) x'.Groups]] (slT (iC .u32) r) := by
 unfold integer_groups at hr
 refine FnOk.body fine Tryz.func106 (c := (Tryz.f106.body).getD .skip) rfl (s := mkS 8 0 [(0, .agg (api_Int.c x'))]) (by kernel_rfl) (rs := [.tmp 2]) rfl ?_
 unfold Tryz.f106
 simp only [Option.getD_some]
 refine CQ.seq ?_
 refine CQ.r0 fine ?_
 refine EVO.e1 (.hp 0 0) [(0, .own (api_Int.c x'))] ?_
 refine EVO.p1 (.at (.slice none 0 0)) ?_
 refine EVO.done ?_
 refine CQ.n1 [1] (mkS 8 0 [(1, .hp 0 0)]) [.own (api_Int.c x')] ?_
 refine CQ.seq ?_
 refine CQ.seq ?_
 replace hr := bd hr; obtain ⟨v1, hc2, hr⟩ := hr
 refine CQ.region fine (callOf_1 135 [.agg (api_Int.c x')] [.own (api_Int.c x')] (.loc (aB v1) [] [] 0) (callOk_val (l := []) (args' := [.agg (api_Int.c x')]) rfl (SnL.cons (Sn.pure rfl) SnL.nil) (integer_Valid_ok n x' v1 hc2))) ?_
 refine EVO.p1 (.agg (api_Int.c x')) ?_
 refine EVO.c0 (by kernel_rfl) (callOf_at (by kernel_rfl)) ?_
 refine EVO.p1 (aB (!v1)) ?_
 refine EVO.done ?_
 refine CQ.n1 [1, 5] (mkS 8 0 [(1, .hp 0 0), (5, aB (!v1))]) [.own (api_Int.c x')] ?_
 refine CQ.cond (t := !v1) (by kernel_rfl) (fun hb3 => ?_) (fun hb3 => ?_)
 ·replace hr := cd_t hb3 hr
  refine CQ.seq ?_
  refine CQ.r0 fine ?_
  refine EVO.p1 (.at (.slice none 0 0)) ?_
  refine EVO.done ?_
  refine CQ.ret ?_
  obtain rfl := Option.some.inj hr
  exact FinQ.ret (vs := [.at (.slice none 0 0)]) (by kernel_rfl) Sn.nilsl
 ·replace hr := cd_f hb3 hr
  refine CQ.skip ?_
  refine CQ.seq ?_
  refine CQ.r0 fine ?_
  refine EVO.p1 (.hp 0 1) ?_
  refine EVO.p1 (sU32 x'.Groups) ?_
  refine EVO.p1 (sU32 x'.Groups) ?_
  refine EVO.done ?_
  refine CQ.ret ?_
  obtain rfl := Option.some.inj hr
  exact FinQ.r1 [sU32 x'.Groups]

theorem integer_Sign_inj {x' : api_Int} {x'_ : api_Int} (h : ([.agg [.at (.bool x'.Negative), slT (iC .u32) x'.Groups]] : List AV) = [.agg [.at (.bool x'_.Negative), slT (iC .u32) x'_.Groups]]) : x' = x'_ := by
 obtain ⟨_, _⟩ := x'
 obtain ⟨_, _⟩ := x'_
 simp only [List.cons.injEq, AV.agg.injEq, AV.at.injEq, Value.int.injEq, Value.bool.injEq, AV.fn.injEq, AV.pp.injEq, true_and, and_true, slT_inj_int] at h
 simp_all
theorem integer_Sign_ok (n : Nat) (x' : api_Int) (r : Int) (hr : integer_Sign n x' = some r) : FnOk Tryz.prog 69 [.agg [.at (.bool x'.Negative), slT (iC .u32) x'.Groups]] (.at (.int .i64 r)) := by
 unfold integer_Sign at hr
 refine FnOk.body fine Tryz.func69 (c := (Tryz.f69.body).getD .skip) rfl (s := mkS 11 0 [(0, .agg (api_Int.c x'))]) (by kernel_rfl) (rs := [.tmp 2]) rfl ?_
 unfold Tryz.f69
 simp only [Option.getD_some]
 refine CQ.seq ?_
 refine CQ.r0 fine ?_
 refine EVO.e1 (.hp 0 0) [(0, .own (api_Int.c x'))] ?_
 refine EVO.p1 (aI64 0) ?_
 refine EVO.done ?_
 refine CQ.n1 [1] (mkS 11 0 [(1, .hp 0 0)]) [.own (api_Int.c x')] ?_
 refine CQ.seq ?_
 refine CQ.block ?_
 refine CQ.seq ?_
 replace hr := bd hr; obtain ⟨v1, hc2, hr⟩ := hr
 refine CQ.region fine (callOf_1 106 [.agg (api_Int.c x')] [.own (api_Int.c x')] (.loc (sU32 v1) [] [] 0) (callOk_ref (l := []) (args' := [.agg (api_Int.c x')]) (SnL.cons (Sn.pure rfl) SnL.nil) (integer_groups_ok n x' v1 hc2))) ?_
 refine EVO.p1 (.agg (api_Int.c x')) ?_
 refine EVO.c0 (by kernel_rfl) (callOf_at (by kernel_rfl)) ?_
 refine EVO.p1 (aI64 (v1.length : Int)) ?_
 refine EVO.p1 (aB (((v1.length : Int) : Int) == 0)) ?_
 refine EVO.p1 (aB (((v1.length : Int) : Int) == 0)) ?_
 refine EVO.done ?_
 refine CQ.n1 [1, 3] (mkS 11 0 [(1, .hp 0 0), (3, aB (((v1.length : Int) : Int) == 0))]) [.own (api_Int.c x')] ?_
 refine CQ.cond (t := ((v1.length : Int) : Int) == 0) (by kernel_rfl) (fun hb3 => ?_) (fun hb3 => ?_)
 ·replace hr := cd_t hb3 hr
  refine CQ.seq ?_
  refine CQ.r0 fine ?_
  refine EVO.p1 (aI64 0) ?_
  refine EVO.done ?_
  refine CQ.ret ?_
  obtain rfl := Option.some.inj hr
  exact FinQ.r1 [aI64 0]
 ·replace hr := cd_f hb3 hr
  refine CQ.seq ?_
  refine CQ.r0 fine ?_
  refine EVO.p1 (.hp 0 0) ?_
  refine EVO.p1 (aB x'.Negative) ?_
  refine EVO.p1 (aB x'.Negative) ?_
  refine EVO.done ?_
  refine CQ.n1 [8] (mkS 11 0 [(8, aB x'.Negative)]) [.own (api_Int.c x')] ?_
  refine CQ.cond (t := x'.Negative) (by kernel_rfl) (fun hb4 => ?_) (fun hb4 => ?_)
  ·replace hr := cd_t hb4 hr
   refine CQ.seq ?_
   refine CQ.r0 fine ?_
   refine EVO.p1 (aI64 (-1)) ?_
   refine EVO.done ?_
   refine CQ.ret ?_
   obtain rfl := Option.some.inj hr
   exact FinQ.r1 [aI64 (-1)]
  ·replace hr := cd_f hb4 hr
   refine CQ.skip ?_
   refine CQ.pop ?_
   refine CQ.seq ?_
   refine CQ.r0 fine ?_
   refine EVO.p1 (aI64 1) ?_
   refine EVO.done ?_
   refine CQ.ret ?_
   obtain rfl := Option.some.inj hr
   exact FinQ.r1 [aI64 1]



theorem integer_short_ok (n : Nat) (a : List Int) (d : Int) (r : List Int × Int) (hr : integer_short n a d = some r) : FnOk Tryz.prog 166 [slT (iC .u32) a, .at (.int .u32 d)] (.tup [slT (iC .u32) r.1, .at (.int .u32 r.2)]) := by cases hr

theorem integer_times_ok (n : Nat) (a : List Int) (b : List Int) (r : List Int) (hr : integer_times n a b = some r) : FnOk Tryz.prog 107 [slT (iC .u32) a, slT (iC .u32) b] (slT (iC .u32) r) := by
 unfold integer_times at hr
 refine FnOk.body fine Tryz.func107 (c := (Tryz.f107.body).getD .skip) rfl (s := mkS 69 0 [(0, sU32 a), (1, sU32 b)]) (by kernel_rfl) (rs := [.tmp 4]) rfl ?_
 unfold Tryz.f107
 simp only [Option.getD_some]
 refine CQ.seq ?_
 refine CQ.r0 fine ?_
 refine EVO.p1 (.at (.slice none 0 0)) ?_
 refine EVO.done ?_
 refine CQ.n1 [0, 1] (mkS 69 0 [(0, sU32 a), (1, sU32 b)]) [] ?_
 refine CQ.seq ?_
 replace hr := gd hr; obtain ⟨hg1, hr⟩ := hr
 replace hr := gd hr; obtain ⟨hg2, hr⟩ := hr
 replace hr := gd hr; obtain ⟨hg3, hr⟩ := hr
 refine CQ.r0 fine ?_
 refine EVO.p1 (sU32 a) ?_
 refine EVO.p1 (aI64 (a.length : Int)) ?_
 refine EVO.p1 (sU32 b) ?_
 refine EVO.p1 (aI64 (b.length : Int)) ?_
 refine EVO.p1 (aI64 (wrapF .i64 ((a.length : Int) + (b.length : Int)))) ?_
 refine EVO.e0 (v := .hs 0 0 (List.replicate (wrapF .i64 ((a.length : Int) + (b.length : Int))).toNat (0 : Int)).length 1) (ws := [(0, .own ((List.replicate (wrapF .i64 ((a.length : Int) + (b.length : Int))).toNat (0 : Int)).flatMap (iC .u32)))]) (Eq.trans (b := guardO (decide (0 ≤ (wrapF .i64 ((a.length : Int) + (b.length : Int)))) && decide ((wrapF .i64 ((a.length : Int) + (b.length : Int))) ≤ (wrapF .i64 ((a.length : Int) + (b.length : Int)))) && decide ((4 : Int) * (wrapF .i64 ((a.length : Int) + (b.length : Int))) ≤ 281474976710656) && decide ((wrapF .i64 ((a.length : Int) + (b.length : Int))) ≤ 9223372036854775807) && true && true && true) (some (.eff (.hs 0 0 (wrapF .i64 ((a.length : Int) + (b.length : Int))).toNat 1) [(0, .own (zerosA [aU32 0] (wrapF .i64 ((a.length : Int) + (b.length : Int))).toNat))]))) (by kernel_rfl) (make_own (c := (iC .u32)) (z := 0) rfl hg1 hg2 hg3)) ?_
 refine EVO.p1 (.hs 0 0 (List.replicate (wrapF .i64 ((a.length : Int) + (b.length : Int))).toNat (0 : Int)).length 1) ?_
 refine EVO.done ?_
 refine CQ.n1 [0, 1, 5] (mkS 69 0 [(0, sU32 a), (1, sU32 b), (5, .hs 0 0 (List.replicate (wrapF .i64 ((a.length : Int) + (b.length : Int))).toNat (0 : Int)).length 1)]) [.own ((List.replicate (wrapF .i64 ((a.length : Int) + (b.length : Int))).toNat (0 : Int)).flatMap (iC .u32))] ?_
 refine CQ.seq ?_
 refine CQ.seq ?_
 refine CQ.r0 fine ?_
 refine EVO.p1 (sU32 a) ?_
 refine EVO.p1 (aI64 (a.length : Int)) ?_
 refine EVO.p1 (aI64 0) ?_
 refine EVO.done ?_
 refine CQ.n1 [1, 5, 18, 19, 20] (mkS 69 0 [(1, sU32 b), (5, .hs 0 0 (List.replicate (wrapF .i64 ((a.length : Int) + (b.length : Int))).toNat (0 : Int)).length 1), (18, sU32 a), (19, aI64 (a.length : Int)), (20, aI64 0)]) [.own ((List.replicate (wrapF .i64 ((a.length : Int) + (b.length : Int))).toNat (0 : Int)).flatMap (iC .u32))] ?_
 refine CQ.block ?_
 replace hr := bd hr; obtain ⟨out_24, hL45, hr⟩ := hr
 refine CQ.loopO (σ := fun z0 => match z0 with | (out_4, x_5) => ⟨mkS 69 0 [(1, sU32 b), (5, .hs 0 0 out_4.length 1), (18, sU32 a), (19, aI64 (a.length : Int)), (20, aI64 x_5)], [.own (out_4.flatMap (iC .u32))]⟩) (Q := fun x st' => x = .exit 0 ∧ Wk st' ⟨mkS 69 0 [(5, .hs 0 0 out_24.length 1)], [.own (out_24.flatMap (iC .u32))]⟩) hL45 ((Wk.gc [1, 5, 18, 19, 20] [(0, false)] rfl ⟨ids_flat (iC_pure _) _, trivial⟩).to (by kernel_rfl)) ?_ ?_
 ·clear hr
  rintro m ⟨out_4, x_5⟩ hr
  show CQ _ _ _ _ ⟨_, _⟩
  refine CQ.seq ?_
  refine CQ.r0 fine ?_
  refine EVO.p1 (aB (decide (x_5 < (a.length : Int)))) ?_
  refine EVO.done ?_
  refine CQ.seq ?_
  refine CQ.cond (t := decide (x_5 < (a.length : Int))) (by kernel_rfl) (fun hb26 => ?_) (fun hb26 => ?_)
  ·replace hr := cd_t hb26 hr
   refine CQ.skip ?_
   refine CQ.seq ?_
   refine CQ.block ?_
   refine CQ.seq ?_
   replace hr := gd hr; obtain ⟨hg27, hr⟩ := hr
   refine CQ.r0 fine ?_
   refine EVO.p1 (aI64 x_5) ?_
   refine EVO.p0 (v := .pp (a.flatMap (iC .u32)) (x_5.toNat * 1)) (Eq.trans (b := ORes.ofP (guardV (inR x_5 a.length) (.pp (a.flatMap (iC .u32)) (x_5.toNat * 1)))) (by kernel_rfl) (ofP_guard hg27)) ?_
   refine EVO.p0 (v := aU32 (gt a x_5)) (Eq.trans (b := ORes.ofP ((a.flatMap (iC .u32))[x_5.toNat * 1]?)) (by kernel_rfl) (ofP_some (flat_get (iC_len _) (inR_lt hg27) (by decide : 0 < 1) (by omega : x_5.toNat * 1 = x_5.toNat * 1 + 0) (by kernel_rfl)))) ?_
   refine EVO.p1 (aI64 x_5) ?_
   refine EVO.p1 (aU32 (gt a x_5)) ?_
   refine EVO.done ?_
   refine CQ.n1 [1, 5, 6, 7, 18, 19, 20] (mkS 69 0 [(1, sU32 b), (5, .hs 0 0 out_4.length 1), (6, aI64 x_5), (7, aU32 (gt a x_5)), (18, sU32 a), (19, aI64 (a.length : Int)), (20, aI64 x_5)]) [.own (out_4.flatMap (iC .u32))] ?_
   refine CQ.seq ?_
   refine CQ.r0 fine ?_
   refine EVO.p1 (aU64 0) ?_
   refine EVO.done ?_
   refine CQ.seq ?_
   refine CQ.seq ?_
   refine CQ.r0 fine ?_
   refine EVO.p1 (sU32 b) ?_
   refine EVO.p1 (aI64 (b.length : Int)) ?_
   refine EVO.p1 (aI64 0) ?_
   refine EVO.done ?_
   refine CQ.block ?_
   replace hr := bd hr; obtain ⟨o40, hL41, hr⟩ := hr
   refine CQ.loopO (σ := fun z0 => match z0 with | (out_28, carry_29, x_30) => ⟨mkS 69 0 [(1, sU32 b), (5, .hs 0 0 out_28.length 1), (6, aI64 x_5), (7, aU32 (gt a x_5)), (8, aU64 carry_29), (18, sU32 a), (19, aI64 (a.length : Int)), (20, aI64 x_5), (25, sU32 b), (26, aI64 (b.length : Int)), (27, aI64 x_30)], [.own (out_28.flatMap (iC .u32))]⟩) (Q := fun x st' => match (generalizing := false) o40 with | (out_34, carry_35) => x = .exit 2 ∧ Wk st' ⟨mkS 69 0 [(1, sU32 b), (5, .hs 0 0 out_34.length 1), (6, aI64 x_5), (8, aU64 carry_35), (18, sU32 a), (19, aI64 (a.length : Int)), (20, aI64 x_5)], [.own (out_34.flatMap (iC .u32))]⟩) hL41 ((Wk.gc [1, 5, 6, 7, 8, 18, 19, 20, 25, 26, 27] [(0, false)] rfl ⟨ids_flat (iC_pure _) _, trivial⟩).to (by kernel_rfl)) ?_ ?_
   ·clear hr
    rintro m ⟨out_28, carry_29, x_30⟩ hr
    show CQ _ _ _ _ ⟨_, _⟩
    refine CQ.seq ?_
    refine CQ.r0 fine ?_
    refine EVO.p1 (aB (decide (x_30 < (b.length : Int)))) ?_
    refine EVO.done ?_
    refine CQ.seq ?_
    refine CQ.cond (t := decide (x_30 < (b.length : Int))) (by kernel_rfl) (fun hb37 => ?_) (fun hb37 => ?_)
    ·replace hr := cd_t hb37 hr
     refine CQ.skip ?_
     refine CQ.seq ?_
     refine CQ.block ?_
     refine CQ.seq ?_
     replace hr := gd hr; obtain ⟨hg38, hr⟩ := hr
     refine CQ.r0 fine ?_
     refine EVO.p1 (aI64 x_30) ?_
     refine EVO.p0 (v := .pp (b.flatMap (iC .u32)) (x_30.toNat * 1)) (Eq.trans (b := ORes.ofP (guardV (inR x_30 b.length) (.pp (b.flatMap (iC .u32)) (x_30.toNat * 1)))) (by kernel_rfl) (ofP_guard hg38)) ?_
     refine EVO.p0 (v := aU32 (gt b x_30)) (Eq.trans (b := ORes.ofP ((b.flatMap (iC .u32))[x_30.toNat * 1]?)) (by kernel_rfl) (ofP_some (flat_get (iC_len _) (inR_lt hg38) (by decide : 0 < 1) (by omega : x_30.toNat * 1 = x_30.toNat * 1 + 0) (by kernel_rfl)))) ?_
     refine EVO.p1 (aI64 x_30) ?_
     refine EVO.p1 (aU32 (gt b x_30)) ?_
     refine EVO.done ?_
     refine CQ.n1 [1, 5, 6, 7, 8, 9, 10, 18, 19, 20, 25, 26, 27] (mkS 69 0 [(1, sU32 b), (5, .hs 0 0 out_28.length 1), (6, aI64 x_5), (7, aU32 (gt a x_5)), (8, aU64 carry_29), (9, aI64 x_30), (10, aU32 (gt b x_30)), (18, sU32 a), (19, aI64 (a.length : Int)), (20, aI64 x_5), (25, sU32 b), (26, aI64 (b.length : Int)), (27, aI64 x_30)]) [.own (out_28.flatMap (iC .u32))] ?_
     refine CQ.seq ?_
     replace hr := gd hr; obtain ⟨hg39, hr⟩ := hr
     refine CQ.r0 fine ?_
     refine EVO.p1 (.hs 0 0 out_28.length 1) ?_
     refine EVO.p1 (aI64 x_5) ?_
     refine EVO.p1 (aI64 x_30) ?_
     refine EVO.p1 (aI64 (wrapF .i64 (x_5 + x_30))) ?_
     refine EVO.p0 (v := .hp 0 (0 + (wrapF .i64 (x_5 + x_30)).toNat * 1)) (Eq.trans (b := ORes.ofP (guardV (inR (wrapF .i64 (x_5 + x_30)) out_28.length) (.hp 0 (0 + (wrapF .i64 (x_5 + x_30)).toNat * 1)))) (by kernel_rfl) (ofP_guard hg39)) ?_
     refine EVO.p0 (v := aU32 (gt out_28 (wrapF .i64 (x_5 + x_30)))) (Eq.trans (b := ORes.ofP ((out_28.flatMap (iC .u32))[0 + (wrapF .i64 (x_5 + x_30)).toNat * 1]?)) (by kernel_rfl) (ofP_some (flat_get (iC_len _) (inR_lt hg39) (by decide : 0 < 1) (by omega : 0 + (wrapF .i64 (x_5 + x_30)).toNat * 1 = (wrapF .i64 (x_5 + x_30)).toNat * 1 + 0) (by kernel_rfl)))) ?_
     refine EVO.p1 (aU64 (wrapF .u64 (gt out_28 (wrapF .i64 (x_5 + x_30))))) ?_
     refine EVO.p1 (aU32 (gt a x_5)) ?_
     refine EVO.p1 (aU64 (wrapF .u64 (gt a x_5))) ?_
     refine EVO.p1 (aU32 (gt b x_30)) ?_
     refine EVO.p1 (aU64 (wrapF .u64 (gt b x_30))) ?_
     refine EVO.p1 (aU64 (wrapF .u64 ((wrapF .u64 (gt a x_5)) * (wrapF .u64 (gt b x_30))))) ?_
     refine EVO.p1 (aU64 (wrapF .u64 ((wrapF .u64 (gt out_28 (wrapF .i64 (x_5 + x_30)))) + (wrapF .u64 ((wrapF .u64 (gt a x_5)) * (wrapF .u64 (gt b x_30))))))) ?_
     refine EVO.p1 (aU64 carry_29) ?_
     refine EVO.p1 (aU64 (wrapF .u64 ((wrapF .u64 ((wrapF .u64 (gt out_28 (wrapF .i64 (x_5 + x_30)))) + (wrapF .u64 ((wrapF .u64 (gt a x_5)) * (wrapF .u64 (gt b x_30)))))) + carry_29))) ?_
     refine EVO.p1 (aU64 (wrapF .u64 ((wrapF .u64 ((wrapF .u64 (gt out_28 (wrapF .i64 (x_5 + x_30)))) + (wrapF .u64 ((wrapF .u64 (gt a x_5)) * (wrapF .u64 (gt b x_30)))))) + carry_29))) ?_
     refine EVO.done ?_
     refine CQ.n1 [1, 5, 6, 7, 9, 11, 18, 19, 20, 25, 26, 27] (mkS 69 0 [(1, sU32 b), (5, .hs 0 0 out_28.length 1), (6, aI64 x_5), (7, aU32 (gt a x_5)), (9, aI64 x_30), (11, aU64 (wrapF .u64 ((wrapF .u64 ((wrapF .u64 (gt out_28 (wrapF .i64 (x_5 + x_30)))) + (wrapF .u64 ((wrapF .u64 (gt a x_5)) * (wrapF .u64 (gt b x_30)))))) + carry_29))), (18, sU32 a), (19, aI64 (a.length : Int)), (20, aI64 x_5), (25, sU32 b), (26, aI64 (b.length : Int)), (27, aI64 x_30)]) [.own (out_28.flatMap (iC .u32))] ?_
     refine CQ.r0 fine ?_
     refine EVO.p1 (.hs 0 0 out_28.length 1) ?_
     refine EVO.p1 (aI64 x_5) ?_
     refine EVO.p1 (aI64 x_30) ?_
     refine EVO.p1 (aI64 (wrapF .i64 (x_5 + x_30))) ?_
     refine EVO.p1 (aU64 (wrapF .u64 ((wrapF .u64 ((wrapF .u64 (gt out_28 (wrapF .i64 (x_5 + x_30)))) + (wrapF .u64 ((wrapF .u64 (gt a x_5)) * (wrapF .u64 (gt b x_30)))))) + carry_29))) ?_
     refine EVO.p1 (aU64 ((wrapF .u64 ((wrapF .u64 ((wrapF .u64 (gt out_28 (wrapF .i64 (x_5 + x_30)))) + (wrapF .u64 ((wrapF .u64 (gt a x_5)) * (wrapF .u64 (gt b x_30)))))) + carry_29)).tmod 1000000000)) ?_
     refine EVO.p1 (aU32 (wrapF .u32 ((wrapF .u64 ((wrapF .u64 ((wrapF .u64 (gt out_28 (wrapF .i64 (x_5 + x_30)))) + (wrapF .u64 ((wrapF .u64 (gt a x_5)) * (wrapF .u64 (gt b x_30)))))) + carry_29)).tmod 1000000000))) ?_
     refine EVO.p1 (aU64 (wrapF .u64 ((wrapF .u64 ((wrapF .u64 (gt out_28 (wrapF .i64 (x_5 + x_30)))) + (wrapF .u64 ((wrapF .u64 (gt a x_5)) * (wrapF .u64 (gt b x_30)))))) + carry_29))) ?_
     refine EVO.p1 (aU64 (wrapF .u64 ((wrapF .u64 ((wrapF .u64 ((wrapF .u64 (gt out_28 (wrapF .i64 (x_5 + x_30)))) + (wrapF .u64 ((wrapF .u64 (gt a x_5)) * (wrapF .u64 (gt b x_30)))))) + carry_29)).tdiv 1000000000))) ?_
     refine EVO.p0 (v := .hp 0 (0 + (wrapF .i64 (x_5 + x_30)).toNat * 1)) (Eq.trans (b := ORes.ofP (guardV (inR (wrapF .i64 (x_5 + x_30)) out_28.length) (.hp 0 (0 + (wrapF .i64 (x_5 + x_30)).toNat * 1)))) (by kernel_rfl) (ofP_guard hg39)) ?_
     refine EVO.e0 (v := .unk) (ws := [(0, .own ((out_28.set (wrapF .i64 (x_5 + x_30)).toNat (wrapF .u32 ((wrapF .u64 ((wrapF .u64 ((wrapF .u64 (gt out_28 (wrapF .i64 (x_5 + x_30)))) + (wrapF .u64 ((wrapF .u64 (gt a x_5)) * (wrapF .u64 (gt b x_30)))))) + carry_29)).tmod 1000000000))).flatMap (iC .u32)))]) (Eq.trans (b := stO (decide ((0 + (wrapF .i64 (x_5 + x_30)).toNat * 1) + 1 ≤ (out_28.flatMap (iC .u32)).length) && true) [(0, .own (setCells (out_28.flatMap (iC .u32)) (0 + (wrapF .i64 (x_5 + x_30)).toNat * 1) [aU32 (wrapF .u32 ((wrapF .u64 ((wrapF .u64 ((wrapF .u64 (gt out_28 (wrapF .i64 (x_5 + x_30)))) + (wrapF .u64 ((wrapF .u64 (gt a x_5)) * (wrapF .u64 (gt b x_30)))))) + carry_29)).tmod 1000000000))]))]) (by kernel_rfl) (stO_t (and_t (flat_fits (iC_len _) (inR_lt hg39) (Nat.le_of_ble_eq_true rfl) (by omega : 0 + (wrapF .i64 (x_5 + x_30)).toNat * 1 = (wrapF .i64 (x_5 + x_30)).toNat * 1 + 0))) (congrArg Blk.own (flat_set (iC_len _) (inR_lt hg39) (Nat.le_of_ble_eq_true rfl) (by omega : 0 + (wrapF .i64 (x_5 + x_30)).toNat * 1 = (wrapF .i64 (x_5 + x_30)).toNat * 1 + 0) (by kernel_rfl))))) ?_
     refine EVO.p1 (aU64 (wrapF .u64 ((wrapF .u64 ((wrapF .u64 ((wrapF .u64 (gt out_28 (wrapF .i64 (x_5 + x_30)))) + (wrapF .u64 ((wrapF .u64 (gt a x_5)) * (wrapF .u64 (gt b x_30)))))) + carry_29)).tdiv 1000000000))) ?_
     refine EVO.done ?_
     refine CQ.pop ?_
     refine CQ.r0 fine ?_
     refine EVO.p1 (aI64 (wrapF .i64 (x_30 + 1))) ?_
     refine EVO.p1 (aI64 (wrapF .i64 (x_30 + 1))) ?_
     refine EVO.done ?_
     exact loopF_back (out_28.set (wrapF .i64 (x_5 + x_30)).toNat (wrapF .u32 ((wrapF .u64 ((wrapF .u64 ((wrapF .u64 (gt out_28 (wrapF .i64 (x_5 + x_30)))) + (wrapF .u64 ((wrapF .u64 (gt a x_5)) * (wrapF .u64 (gt b x_30)))))) + carry_29)).tmod 1000000000)), wrapF .u64 ((wrapF .u64 ((wrapF .u64 ((wrapF .u64 (gt out_28 (wrapF .i64 (x_5 + x_30)))) + (wrapF .u64 ((wrapF .u64 (gt a x_5)) * (wrapF .u64 (gt b x_30)))))) + carry_29)).tdiv 1000000000), wrapF .i64 (x_30 + 1)) hr ((Wk.relen 5 (b := 0) (es := 1) (len := out_28.length) (out_28.set (wrapF .i64 (x_5 + x_30)).toNat (wrapF .u32 ((wrapF .u64 ((wrapF .u64 ((wrapF .u64 (gt out_28 (wrapF .i64 (x_5 + x_30)))) + (wrapF .u64 ((wrapF .u64 (gt a x_5)) * (wrapF .u64 (gt b x_30)))))) + carry_29)).tmod 1000000000))).length (by kernel_rfl) (by simp)).trans ((Wk.gc [1, 5, 6, 7, 8, 18, 19, 20, 25, 26, 27] [(0, false)] rfl ⟨ids_flat (iC_pure _) _, trivial⟩).to (by kernel_rfl)))
    ·replace hr := cd_f hb37 hr
     refine CQ.leave rfl ?_
     obtain rfl := Option.some.inj hr
     exact ⟨rfl, ((Wk.gc [1, 5, 6, 8, 18, 19, 20] [(0, false)] rfl ⟨ids_flat (iC_pure _) _, trivial⟩).to (by kernel_rfl))⟩
   ·rcases o40 with ⟨out_34, carry_35⟩
    rintro x st' hq42
    clear hL41
    obtain ⟨rfl, hq42⟩ := hq42
    refine CQ_exit _ rfl ?_
    refine CQ.wk hq42 ?_
    replace hr := gd hr; obtain ⟨hg43, hr⟩ := hr
    refine CQ.r0 fine ?_
    refine EVO.p1 (.hs 0 0 out_34.length 1) ?_
    refine EVO.p1 (aI64 x_5) ?_
    refine EVO.p1 (sU32 b) ?_
    refine EVO.p1 (aI64 (b.length : Int)) ?_
    refine EVO.p1 (aI64 (wrapF .i64 (x_5 + (b.length : Int)))) ?_
    refine EVO.p1 (aU64 carry_35) ?_
    refine EVO.p1 (aU32 (wrapF .u32 carry_35)) ?_
    refine EVO.p0 (v := .hp 0 (0 + (wrapF .i64 (x_5 + (b.length : Int))).toNat * 1)) (Eq.trans (b := ORes.ofP (guardV (inR (wrapF .i64 (x_5 + (b.length : Int))) out_34.length) (.hp 0 (0 + (wrapF .i64 (x_5 + (b.length : Int))).toNat * 1)))) (by kernel_rfl) (ofP_guard hg43)) ?_
    refine EVO.e0 (v := .unk) (ws := [(0, .own ((out_34.set (wrapF .i64 (x_5 + (b.length : Int))).toNat (wrapF .u32 carry_35)).flatMap (iC .u32)))]) (Eq.trans (b := stO (decide ((0 + (wrapF .i64 (x_5 + (b.length : Int))).toNat * 1) + 1 ≤ (out_34.flatMap (iC .u32)).length) && true) [(0, .own (setCells (out_34.flatMap (iC .u32)) (0 + (wrapF .i64 (x_5 + (b.length : Int))).toNat * 1) [aU32 (wrapF .u32 carry_35)]))]) (by kernel_rfl) (stO_t (and_t (flat_fits (iC_len _) (inR_lt hg43) (Nat.le_of_ble_eq_true rfl) (by omega : 0 + (wrapF .i64 (x_5 + (b.length : Int))).toNat * 1 = (wrapF .i64 (x_5 + (b.length : Int))).toNat * 1 + 0))) (congrArg Blk.own (flat_set (iC_len _) (inR_lt hg43) (Nat.le_of_ble_eq_true rfl) (by omega : 0 + (wrapF .i64 (x_5 + (b.length : Int))).toNat * 1 = (wrapF .i64 (x_5 + (b.length : Int))).toNat * 1 + 0) (by kernel_rfl))))) ?_
    refine EVO.done ?_
    refine CQ.pop ?_
    refine CQ.r0 fine ?_
    refine EVO.p1 (aI64 (wrapF .i64 (x_5 + 1))) ?_
    refine EVO.p1 (aI64 (wrapF .i64 (x_5 + 1))) ?_
    refine EVO.done ?_
    exact loopF_back (out_34.set (wrapF .i64 (x_5 + (b.length : Int))).toNat (wrapF .u32 carry_35), wrapF .i64 (x_5 + 1)) hr ((Wk.relen 5 (b := 0) (es := 1) (len := out_34.length) (out_34.set (wrapF .i64 (x_5 + (b.length : Int))).toNat (wrapF .u32 carry_35)).length (by kernel_rfl) (by simp)).trans ((Wk.gc [1, 5, 18, 19, 20] [(0, false)] rfl ⟨ids_flat (iC_pure _) _, trivial⟩).to (by kernel_rfl)))
  ·replace hr := cd_f hb26 hr
   refine CQ.leave rfl ?_
   obtain rfl := Option.some.inj hr
   exact ⟨rfl, ((Wk.gc [5] [(0, false)] rfl ⟨ids_flat (iC_pure _) _, trivial⟩).to (by kernel_rfl))⟩
 ·rintro x st' hq46
  clear hL45
  obtain ⟨rfl, hq46⟩ := hq46
  refine CQ_exit _ rfl ?_
  refine CQ.wk hq46 ?_
  refine CQ.seq ?_
  replace hr := bd hr; obtain ⟨v47, hc48, hr⟩ := hr
  refine CQ.region fine (callOf_1 131 [.hs 0 0 out_24.length 1] [.own (out_24.flatMap (iC .u32))] (.loc (sU32 v47) [(0, .fix (out_24.flatMap (iC .u32)))] [0] 0) (callOk_ref (l := [0]) (args' := [sU32 out_24]) (SnL.cons (Sn.hs rfl (.inl rfl) (SnC.pure (ids_flat (iC_pure _) _)) (fun h => flat_nil0 h)) SnL.nil) (integer_trim_ok n out_24 v47 hc48))) ?_
  refine EVO.p1 (.hs 0 0 out_24.length 1) ?_
  refine EVO.c0 (by kernel_rfl) (callOf_at (by kernel_rfl)) ?_
  refine EVO.p1 (sU32 v47) ?_
  refine EVO.done ?_
  refine CQ.ret ?_
  obtain rfl := Option.some.inj hr
  exact FinQ.r1 [sU32 v47]

theorem integer_long_ok (n : Nat) (a : List Int) (b : List Int) (r : List Int × List Int) (hr : integer_long n a b = some r) : FnOk Tryz.prog 167 [slT (iC .u32) a, slT (iC .u32) b] (.tup [slT (iC .u32) r.1, slT (iC .u32) r.2]) := by cases hr

theorem integer_over_ok (n : Nat) (a : List Int) (b : List Int) (r : List Int × List Int) (hr : integer_over n a b = some r) : FnOk Tryz.prog 158 [slT (iC .u32) a, slT (iC .u32) b] (.tup [slT (iC .u32) r.1, slT (iC .u32) r.2]) := by
 unfold integer_over at hr
 refine FnOk.body fine Tryz.func158 (c := (Tryz.f158.body).getD .skip) rfl (s := mkS 59 0 [(0, sU32 a), (1, sU32 b)]) (by kernel_rfl) (rs := [.tmp 4, .tmp 5]) rfl ?_
 unfold Tryz.f158
 simp only [Option.getD_some]
 refine CQ.seq ?_
 refine CQ.r0 fine ?_
 refine EVO.p1 (.at (.slice none 0 0)) ?_
 refine EVO.p1 (.at (.slice none 0 0)) ?_
 refine EVO.done ?_
 refine CQ.n1 [0, 1] (mkS 59 0 [(0, sU32 a), (1, sU32 b)]) [] ?_
 refine CQ.seq ?_
 refine CQ.seq ?_
 replace hr := bd hr; obtain ⟨v1, hc2, hr⟩ := hr
 refine CQ.region fine (callOf_1 133 [sU32 a, sU32 b] [] (.loc (aI64 v1) [] [] 0) (callOk_val (l := []) (args' := [sU32 a, sU32 b]) rfl (SnL.cons (Sn.pure rfl) (SnL.cons (Sn.pure rfl) SnL.nil)) (integer_compare_ok n a b v1 hc2))) ?_
 refine EVO.p1 (sU32 a) ?_
 refine EVO.p1 (sU32 b) ?_
 refine EVO.c0 (by kernel_rfl) (callOf_at (by kernel_rfl)) ?_
 refine EVO.p1 (aB (decide (v1 < 0))) ?_
 refine EVO.done ?_
 refine CQ.n1 [0, 1, 15] (mkS 59 0 [(0, sU32 a), (1, sU32 b), (15, aB (decide (v1 < 0)))]) [] ?_
 refine CQ.cond (t := decide (v1 < 0)) (by kernel_rfl) (fun hb3 => ?_) (fun hb3 => ?_)
 ·replace hr := cd_t hb3 hr
  refine CQ.seq ?_
  refine CQ.r0 fine ?_
  refine EVO.p1 (sU32 a) ?_
  refine EVO.p1 (.at (.slice none 0 0)) ?_
  refine EVO.p1 (sU32 a) ?_
  refine EVO.done ?_
  refine CQ.ret ?_
  obtain rfl := Option.some.inj hr
  exact FinQ.ret (vs := [.at (.slice none 0 0), sU32 a]) (by kernel_rfl) (Sn.tup (SnL.cons Sn.nilsl (SnL.cons (Sn.pure rfl) SnL.nil)))
 ·replace hr := cd_f hb3 hr
  refine CQ.skip ?_
  refine CQ.seq ?_
  replace hr := bd hr; obtain ⟨v4, hc5, hr⟩ := hr
  refine CQ.region fine (callOf_1 157 [sU32 a] [] (.loc (.tup [aU64 v4.1, aB v4.2]) [] [] 0) (callOk_val (l := []) (args' := [sU32 a]) rfl (SnL.cons (Sn.pure rfl) SnL.nil) (integer_word_ok n a v4 hc5))) ?_
  refine EVO.p1 (sU32 a) ?_
  refine EVO.c0 (by kernel_rfl) (callOf_at (by kernel_rfl)) ?_
  refine EVO.p1 (.tup [aU64 v4.1, aB v4.2]) ?_
  refine EVO.p1 (aU64 v4.1) ?_
  refine EVO.p1 (aB v4.2) ?_
  refine EVO.p1 (aU64 v4.1) ?_
  refine EVO.p1 (aB v4.2) ?_
  refine EVO.done ?_
  refine CQ.n1 [0, 1, 6, 7] (mkS 59 0 [(0, sU32 a), (1, sU32 b), (6, aU64 v4.1), (7, aB v4.2)]) [] ?_
  refine CQ.seq ?_
  replace hr := bd hr; obtain ⟨v6, hc7, hr⟩ := hr
  refine CQ.region fine (callOf_1 157 [sU32 b] [] (.loc (.tup [aU64 v6.1, aB v6.2]) [] [] 0) (callOk_val (l := []) (args' := [sU32 b]) rfl (SnL.cons (Sn.pure rfl) SnL.nil) (integer_word_ok n b v6 hc7))) ?_
  refine EVO.p1 (sU32 b) ?_
  refine EVO.c0 (by kernel_rfl) (callOf_at (by kernel_rfl)) ?_
  refine EVO.p1 (.tup [aU64 v6.1, aB v6.2]) ?_
  refine EVO.p1 (aU64 v6.1) ?_
  refine EVO.p1 (aB v6.2) ?_
  refine EVO.p1 (aU64 v6.1) ?_
  refine EVO.p1 (aB v6.2) ?_
  refine EVO.done ?_
  refine CQ.n1 [0, 1, 6, 7, 8, 9] (mkS 59 0 [(0, sU32 a), (1, sU32 b), (6, aU64 v4.1), (7, aB v4.2), (8, aU64 v6.1), (9, aB v6.2)]) [] ?_
  refine CQ.seq ?_
  refine CQ.seq ?_
  rcases Bool.eq_false_or_eq_true v4.2 with hb8 | hb8
  ·replace hr := cd_t hb8 hr
   refine CQ.r0 fine ?_
   refine EVO.p0 (v := aB true) (Eq.trans (b := some (.pure (aB v4.2))) (by kernel_rfl) (by rw [hb8])) ?_
   refine EVO.p1 (aB true) ?_
   refine EVO.q1 (aB v6.2) ?_
   refine EVO.p1 (aB v6.2) ?_
   refine EVO.done ?_
   refine CQ.n1 [0, 1, 6, 8, 30] (mkS 59 0 [(0, sU32 a), (1, sU32 b), (6, aU64 v4.1), (8, aU64 v6.1), (30, aB v6.2)]) [] ?_
   refine CQ.cond (t := v6.2) (by kernel_rfl) (fun hb9 => ?_) (fun hb9 => ?_)
   ·replace hr := cd_t hb9 hr
    refine CQ.seq ?_
    replace hr := gd hr; obtain ⟨hg10, hr⟩ := hr
    replace hr := bd hr; obtain ⟨v11, hc12, hr⟩ := hr
    replace hr := bd hr; obtain ⟨v13, hc14, hr⟩ := hr
    refine CQ.regionT fine (callOf_ok [{ f := 104, args := [aU64 (wrapF .u64 (v4.1.tdiv v6.1))], H := [], r := .loc (sU32 v11) [] [] 0 : CE }, { f := 104, args := [aU64 (v4.1.tmod v6.1)], H := [], r := .loc (sU32 v13) [] [] 0 : CE }] (List.forall_mem_cons.2 ⟨(callOk_ref (l := []) (args' := [aU64 (wrapF .u64 (v4.1.tdiv v6.1))]) (SnL.cons (Sn.pure rfl) SnL.nil) (integer_split_ok n (wrapF .u64 (v4.1.tdiv v6.1)) v11 hc12)), (List.forall_mem_cons.2 ⟨(callOk_ref (l := []) (args' := [aU64 (v4.1.tmod v6.1)]) (SnL.cons (Sn.pure rfl) SnL.nil) (integer_split_ok n (v4.1.tmod v6.1) v13 hc14)), ce0⟩)⟩)) ?_
    refine EVT.p1 (aU64 v4.1) ?_
    refine EVT.p1 (aU64 v6.1) ?_
    refine EVT.pure (v := aU64 (wrapF .u64 (v4.1.tdiv v6.1))) (by kernel_rfl) (op_quo (x := v4.1) (y := v6.1) (by kernel_rfl) (by kernel_rfl) hg10) (by kernel_rfl) ?_
    refine EVT.cal (by kernel_rfl) (by kernel_rfl) (callOf_at (by kernel_rfl)) (by kernel_rfl) ?_
    refine EVT.p1 (aU64 v4.1) ?_
    refine EVT.p1 (aU64 v6.1) ?_
    refine EVT.pure (v := aU64 (v4.1.tmod v6.1)) (by kernel_rfl) (op_rem (x := v4.1) (y := v6.1) (by kernel_rfl) (by kernel_rfl) hg10) (by kernel_rfl) ?_
    refine EVT.cal (by kernel_rfl) (by kernel_rfl) (callOf_skip (fun _ h => by obtain e0 := integer_split_inj h; rw [show v13 = v11 from Option.some.inj (hc14.symm.trans ((show integer_split n (v4.1.tmod v6.1) = integer_split n (wrapF .u64 (v4.1.tdiv v6.1)) from (congr rfl e0)).trans hc12))]) (callOf_at (by kernel_rfl))) (by kernel_rfl) ?_
    refine EVT.p1 (sU32 v11) ?_
    refine EVT.p1 (sU32 v13) ?_
    refine EVT.done ⟨by kernel_rfl, ?_⟩
    refine CQ.ret ?_
    obtain rfl := Option.some.inj hr
    exact FinQ.ret (vs := [sU32 v11, sU32 v13]) (by kernel_rfl) (Sn.tup (SnL.cons (Sn.pure rfl) (SnL.cons (Sn.pure rfl) SnL.nil)))
   ·replace hr := cd_f hb9 hr
    refine CQ.skip ?_
    refine CQ.seq ?_
    refine CQ.seq ?_
    refine CQ.r0 fine ?_
    refine EVO.p1 (sU32 b) ?_
    refine EVO.p1 (aI64 (b.length : Int)) ?_
    refine EVO.p1 (aB (((b.length : Int) : Int) == 1)) ?_
    refine EVO.done ?_
    refine CQ.n1 [0, 1, 41] (mkS 59 0 [(0, sU32 a), (1, sU32 b), (41, aB (((b.length : Int) : Int) == 1))]) [] ?_
    refine CQ.cond (t := ((b.length : Int) : Int) == 1) (by kernel_rfl) (fun hb15 => ?_) (fun hb15 => ?_)
    ·replace hr := cd_t hb15 hr
     refine CQ.seq ?_
     replace hr := gd hr; obtain ⟨hg16, hr⟩ := hr
     replace hr := bd hr; obtain ⟨v17, hc18, hr⟩ := hr
     refine CQ.region fine (callOf_1 166 [sU32 a, aU32 (gt b 0)] [] (.loc (.tup [sU32 v17.1, aU32 v17.2]) [] [] 0) (callOk_ref (l := []) (args' := [sU32 a, aU32 (gt b 0)]) (SnL.cons (Sn.pure rfl) (SnL.cons (Sn.pure rfl) SnL.nil)) (integer_short_ok n a (gt b 0) v17 hc18))) ?_
     refine EVO.p1 (sU32 a) ?_
     refine EVO.p1 (sU32 b) ?_
     refine EVO.p0 (v := .pp (b.flatMap (iC .u32)) ((0 : Int).toNat * 1)) (Eq.trans (b := ORes.ofP (guardV (inR 0 b.length) (.pp (b.flatMap (iC .u32)) ((0 : Int).toNat * 1)))) (by kernel_rfl) (ofP_guard hg16)) ?_
     refine EVO.p0 (v := aU32 (gt b 0)) (Eq.trans (b := ORes.ofP ((b.flatMap (iC .u32))[(0 : Int).toNat * 1]?)) (by kernel_rfl) (ofP_some (flat_get (iC_len _) (inR_lt hg16) (by decide : 0 < 1) (by omega : (0 : Int).toNat * 1 = (0 : Int).toNat * 1 + 0) (by kernel_rfl)))) ?_
     refine EVO.c0 (by kernel_rfl) (callOf_at (by kernel_rfl)) ?_
     refine EVO.p1 (.tup [sU32 v17.1, aU32 v17.2]) ?_
     refine EVO.p1 (sU32 v17.1) ?_
     refine EVO.p1 (aU32 v17.2) ?_
     refine EVO.p1 (sU32 v17.1) ?_
     refine EVO.p1 (aU32 v17.2) ?_
     refine EVO.done ?_
     refine CQ.n1 [10, 11] (mkS 59 0 [(10, sU32 v17.1), (11, aU32 v17.2)]) [] ?_
     refine CQ.seq ?_
     replace hr := bd hr; obtain ⟨v19, hc20, hr⟩ := hr
     refine CQ.region fine (callOf_1 104 [aU64 (wrapF .u64 v17.2)] [] (.loc (sU32 v19) [] [] 0) (callOk_ref (l := []) (args' := [aU64 (wrapF .u64 v17.2)]) (SnL.cons (Sn.pure rfl) SnL.nil) (integer_split_ok n (wrapF .u64 v17.2) v19 hc20))) ?_
     refine EVO.p1 (sU32 v17.1) ?_
     refine EVO.p1 (aU32 v17.2) ?_
     refine EVO.p1 (aU64 (wrapF .u64 v17.2)) ?_
     refine EVO.c0 (by kernel_rfl) (callOf_at (by kernel_rfl)) ?_
     refine EVO.p1 (sU32 v17.1) ?_
     refine EVO.p1 (sU32 v19) ?_
     refine EVO.done ?_
     refine CQ.ret ?_
     obtain rfl := Option.some.inj hr
     exact FinQ.ret (vs := [sU32 v17.1, sU32 v19]) (by kernel_rfl) (Sn.tup (SnL.cons (Sn.pure rfl) (SnL.cons (Sn.pure rfl) SnL.nil)))
    ·replace hr := cd_f hb15 hr
     refine CQ.skip ?_
     refine CQ.seq ?_
     replace hr := bd hr; obtain ⟨v21, hc22, hr⟩ := hr
     refine CQ.region fine (callOf_1 167 [sU32 a, sU32 b] [] (.loc (.tup [sU32 v21.1, sU32 v21.2]) [] [] 0) (callOk_ref (l := []) (args' := [sU32 a, sU32 b]) (SnL.cons (Sn.pure rfl) (SnL.cons (Sn.pure rfl) SnL.nil)) (integer_long_ok n a b v21 hc22))) ?_
     refine EVO.p1 (sU32 a) ?_
     refine EVO.p1 (sU32 b) ?_
     refine EVO.c0 (by kernel_rfl) (callOf_at (by kernel_rfl)) ?_
     refine EVO.p1 (sU32 v21.1) ?_
     refine EVO.p1 (sU32 v21.2) ?_
     refine EVO.p1 (sU32 v21.1) ?_
     refine EVO.p1 (sU32 v21.2) ?_
     refine EVO.done ?_
     refine CQ.ret ?_
     obtain rfl := Option.some.inj hr
     exact FinQ.ret (vs := [sU32 v21.1, sU32 v21.2]) (by kernel_rfl) (Sn.tup (SnL.cons (Sn.pure rfl) (SnL.cons (Sn.pure rfl) SnL.nil)))
  ·replace hr := cd_f hb8 hr
   refine CQ.r0 fine ?_
   refine EVO.p0 (v := aB false) (Eq.trans (b := some (.pure (aB v4.2))) (by kernel_rfl) (by rw [hb8])) ?_
   refine EVO.p1 (aB false) ?_
   refine EVO.s1 ?_
   refine EVO.p1 (aB false) ?_
   refine EVO.done ?_
   refine CQ.n1 [0, 1, 6, 8, 30] (mkS 59 0 [(0, sU32 a), (1, sU32 b), (6, aU64 v4.1), (8, aU64 v6.1), (30, aB false)]) [] ?_
   refine CQ.cF (by kernel_rfl) ?_
   refine CQ.skip ?_
   refine CQ.seq ?_
   refine CQ.seq ?_
   refine CQ.r0 fine ?_
   refine EVO.p1 (sU32 b) ?_
   refine EVO.p1 (aI64 (b.length : Int)) ?_
   refine EVO.p1 (aB (((b.length : Int) : Int) == 1)) ?_
   refine EVO.done ?_
   refine CQ.n1 [0, 1, 41] (mkS 59 0 [(0, sU32 a), (1, sU32 b), (41, aB (((b.length : Int) : Int) == 1))]) [] ?_
   refine CQ.cond (t := ((b.length : Int) : Int) == 1) (by kernel_rfl) (fun hb23 => ?_) (fun hb23 => ?_)
   ·replace hr := cd_t hb23 hr
    refine CQ.seq ?_
    replace hr := gd hr; obtain ⟨hg24, hr⟩ := hr
    replace hr := bd hr; obtain ⟨v25, hc26, hr⟩ := hr
    refine CQ.region fine (callOf_1 166 [sU32 a, aU32 (gt b 0)] [] (.loc (.tup [sU32 v25.1, aU32 v25.2]) [] [] 0) (callOk_ref (l := []) (args' := [sU32 a, aU32 (gt b 0)]) (SnL.cons (Sn.pure rfl) (SnL.cons (Sn.pure rfl) SnL.nil)) (integer_short_ok n a (gt b 0) v25 hc26))) ?_
    refine EVO.p1 (sU32 a) ?_
    refine EVO.p1 (sU32 b) ?_
    refine EVO.p0 (v := .pp (b.flatMap (iC .u32)) ((0 : Int).toNat * 1)) (Eq.trans (b := ORes.ofP (guardV (inR 0 b.length) (.pp (b.flatMap (iC .u32)) ((0 : Int).toNat * 1)))) (by kernel_rfl) (ofP_guard hg24)) ?_
    refine EVO.p0 (v := aU32 (gt b 0)) (Eq.trans (b := ORes.ofP ((b.flatMap (iC .u32))[(0 : Int).toNat * 1]?)) (by kernel_rfl) (ofP_some (flat_get (iC_len _) (inR_lt hg24) (by decide : 0 < 1) (by omega : (0 : Int).toNat * 1 = (0 : Int).toNat * 1 + 0) (by kernel_rfl)))) ?_
    refine EVO.c0 (by kernel_rfl) (callOf_at (by kernel_rfl)) ?_
    refine EVO.p1 (.tup [sU32 v25.1, aU32 v25.2]) ?_
    refine EVO.p1 (sU32 v25.1) ?_
    refine EVO.p1 (aU32 v25.2) ?_
    refine EVO.p1 (sU32 v25.1) ?_
    refine EVO.p1 (aU32 v25.2) ?_
    refine EVO.done ?_
    refine CQ.n1 [10, 11] (mkS 59 0 [(10, sU32 v25.1), (11, aU32 v25.2)]) [] ?_
    refine CQ.seq ?_
    replace hr := bd hr; obtain ⟨v27, hc28, hr⟩ := hr
    refine CQ.region fine (callOf_1 104 [aU64 (wrapF .u64 v25.2)] [] (.loc (sU32 v27) [] [] 0) (callOk_ref (l := []) (args' := [aU64 (wrapF .u64 v25.2)]) (SnL.cons (Sn.pure rfl) SnL.nil) (integer_split_ok n (wrapF .u64 v25.2) v27 hc28))) ?_
    refine EVO.p1 (sU32 v25.1) ?_
    refine EVO.p1 (aU32 v25.2) ?_
    refine EVO.p1 (aU64 (wrapF .u64 v25.2)) ?_
    refine EVO.c0 (by kernel_rfl) (callOf_at (by kernel_rfl)) ?_
    refine EVO.p1 (sU32 v25.1) ?_
    refine EVO.p1 (sU32 v27) ?_
    refine EVO.done ?_
    refine CQ.ret ?_
    obtain rfl := Option.some.inj hr
    exact FinQ.ret (vs := [sU32 v25.1, sU32 v27]) (by kernel_rfl) (Sn.tup (SnL.cons (Sn.pure rfl) (SnL.cons (Sn.pure rfl) SnL.nil)))
   ·replace hr := cd_f hb23 hr
    refine CQ.skip ?_
    refine CQ.seq ?_
    replace hr := bd hr; obtain ⟨v29, hc30, hr⟩ := hr
    refine CQ.region fine (callOf_1 167 [sU32 a, sU32 b] [] (.loc (.tup [sU32 v29.1, sU32 v29.2]) [] [] 0) (callOk_ref (l := []) (args' := [sU32 a, sU32 b]) (SnL.cons (Sn.pure rfl) (SnL.cons (Sn.pure rfl) SnL.nil)) (integer_long_ok n a b v29 hc30))) ?_
    refine EVO.p1 (sU32 a) ?_
    refine EVO.p1 (sU32 b) ?_
    refine EVO.c0 (by kernel_rfl) (callOf_at (by kernel_rfl)) ?_
    refine EVO.p1 (sU32 v29.1) ?_
    refine EVO.p1 (sU32 v29.2) ?_
    refine EVO.p1 (sU32 v29.1) ?_
    refine EVO.p1 (sU32 v29.2) ?_
    refine EVO.done ?_
    refine CQ.ret ?_
    obtain rfl := Option.some.inj hr
    exact FinQ.ret (vs := [sU32 v29.1, sU32 v29.2]) (by kernel_rfl) (Sn.tup (SnL.cons (Sn.pure rfl) (SnL.cons (Sn.pure rfl) SnL.nil)))

theorem slices_Clone_uint32_uint32_ok (n : Nat) (s : List Int) (r : List Int) (hr : slices_Clone_uint32_uint32 n s = some r) : FnOk Tryz.prog 156 [slT (iC .u32) s] (slT (iC .u32) r) := by
 unfold slices_Clone_uint32_uint32 at hr
 refine FnOk.body fine Tryz.func156 (c := (Tryz.f156.body).getD .skip) rfl (s := mkS 8 0 [(0, sU32 s)]) (by kernel_rfl) (rs := [.tmp 2]) rfl ?_
 unfold Tryz.f156
 simp only [Option.getD_some]
 refine CQ.seq ?_
 refine CQ.r0 fine ?_
 refine EVO.p1 (.at (.slice none 0 0)) ?_
 refine EVO.done ?_
 refine CQ.n1 [0] (mkS 8 0 [(0, sU32 s)]) [] ?_
 refine CQ.seq ?_
 refine CQ.seq ?_
 refine CQ.nilcase (t := 0) (cs := s.flatMap (iC .u32)) (len := s.length) (by kernel_rfl) (fun hn3 => ?_) ?_
 ·obtain rfl : s = [] := List.length_eq_zero_iff.1 hn3
  have hx := gd hr; clear hr; obtain ⟨_, hr⟩ := hx
  have hx := gd hr; clear hr; obtain ⟨_, hr⟩ := hx
  refine CQ.r0 fine ?_
  refine EVO.p1 (.at (.slice none 0 0)) ?_
  refine EVO.p1 (aB true) ?_
  refine EVO.done ?_
  refine CQ.n1 [0, 4] (mkS 8 0 [(0, .at (.slice none 0 0)), (4, aB true)]) [] ?_
  refine CQ.cT (by kernel_rfl) ?_
  refine CQ.seq ?_
  refine CQ.r0 fine ?_
  refine EVO.p1 (.at (.slice none 0 0)) ?_
  refine EVO.done ?_
  refine CQ.ret ?_
  obtain rfl := Option.some.inj hr
  exact FinQ.ret (vs := [.at (.slice none 0 0)]) (by kernel_rfl) Sn.nilsl
 ·refine CQ.r0 fine ?_
  refine EVO.p1 (.sl false (s.flatMap (iC .u32)) s.length) ?_
  refine EVO.p1 (aB false) ?_
  refine EVO.done ?_
  refine CQ.n1 [0, 4] (mkS 8 0 [(0, .sl false (s.flatMap (iC .u32)) s.length), (4, aB false)]) [] ?_
  refine CQ.cF (by kernel_rfl) ?_
  refine CQ.skip ?_
  refine CQ.seq ?_
  replace hr := gd hr; obtain ⟨hg1, hr⟩ := hr
  replace hr := gd hr; obtain ⟨hg2, hr⟩ := hr
  refine CQ.r0 fine ?_
  refine EVO.e1 (.hs 0 0 0 1) [(0, .own [])] ?_
  refine EVO.p1 (.sl false (s.flatMap (iC .u32)) s.length) ?_
  refine EVO.e0 (v := .hs 1 0 s.length 1) (ws := [(0, .dead), (1, .own (s.flatMap (iC .u32)))]) (Eq.trans (b := appS (decide (((s.flatMap (iC .u32))).length = s.length * 1)) (s.flatMap (iC .u32)) s.length (fun z1 z2 => guardO (decide (0 + 0 * 1 ≤ (([] : List Int).flatMap (iC .u32)).length) && decide ((0 + z2) * 4 ≤ 140737488355328) && decide (0 + z2 ≤ 4611686018427387904)) (some (.eff (.hs 1 0 (0 + z2) 1) [(0, .dead), (1, .own (((([] : List Int).flatMap (iC .u32)).drop 0).take (0 * 1) ++ z1))])))) (by kernel_rfl) (appS_t (flat_lenB (iC_len _)) rfl (app_own (l := ([] : List Int)) (xs := s) (iC_len _) rfl rfl rfl hg1 hg2))) ?_
  refine EVO.p1 (.hs 1 0 s.length 1) ?_
  refine EVO.done ?_
  refine CQ.ret ?_
  obtain rfl := Option.some.inj hr
  exact FinQ.ret (vs := [.hs 1 0 s.length 1]) (by kernel_rfl) (Sn.hs rfl (.inl rfl) (SnC.pure (ids_flat (iC_pure _) _)) (fun h => flat_nil0 h))

theorem integer_Gcd_ok (n : Nat) (x' : api_Int) (y : api_Int) (r : api_Int) (hr : integer_Gcd n x' y = some r) : FnOk Tryz.prog 141 [.agg [.at (.bool x'.Negative), slT (iC .u32) x'.Groups], .agg [.at (.bool y.Negative), slT (iC .u32) y.Groups]] (.agg [.at (.bool r.Negative), slT (iC .u32) r.Groups]) := by
 unfold integer_Gcd at hr
 refine FnOk.body fine Tryz.func141 (c := (Tryz.f141.body).getD .skip) rfl (s := mkS 54 0 [(0, .agg (api_Int.c x')), (1, .agg (api_Int.c y))]) (by kernel_rfl) (rs := [.cell 4 35]) rfl ?_
 unfold Tryz.f141
 simp only [Option.getD_some]
 refine CQ.seq ?_
 refine CQ.r0 fine ?_
 refine EVO.e1 (.hp 0 0) [(0, .own (api_Int.c x'))] ?_
 refine EVO.e1 (.hp 1 0) [(1, .own (api_Int.c y))] ?_
 refine EVO.e1 (.hp 2 0) [(2, .own [aB false, .at (.slice none 0 0)])] ?_
 refine EVO.done ?_
 refine CQ.n1 [2, 3, 4] (mkS 54 0 [(2, .hp 0 0), (3, .hp 1 0), (4, .hp 2 0)]) [.own (api_Int.c x'), .own (api_Int.c y), .own [aB false, .at (.slice none 0 0)]] ?_
 refine CQ.seq ?_
 replace hr := bd hr; obtain ⟨v1, hc2, hr⟩ := hr
 replace hr := bd hr; obtain ⟨v3, hc4, hr⟩ := hr
 refine CQ.regionT fine (callOf_ok [{ f := 106, args := [.agg (api_Int.c x')], H := [.own (api_Int.c x'), .own (api_Int.c y), .own [aB false, .at (.slice none 0 0)]], r := .loc (sU32 v1) [] [] 0 : CE }, { f := 106, args := [.agg (api_Int.c y)], H := [.own (api_Int.c x'), .own (api_Int.c y), .own [aB false, .at (.slice none 0 0)]], r := .loc (sU32 v3) [] [] 0 : CE }] (List.forall_mem_cons.2 ⟨(callOk_ref (l := []) (args' := [.agg (api_Int.c x')]) (SnL.cons (Sn.pure rfl) SnL.nil) (integer_groups_ok n x' v1 hc2)), (List.forall_mem_cons.2 ⟨(callOk_ref (l := []) (args' := [.agg (api_Int.c y)]) (SnL.cons (Sn.pure rfl) SnL.nil) (integer_groups_ok n y v3 hc4)), ce0⟩)⟩)) ?_
 refine EVT.p1 (.agg (api_Int.c x')) ?_
 refine EVT.cal (by kernel_rfl) (by kernel_rfl) (callOf_at (by kernel_rfl)) (by kernel_rfl) ?_
 refine EVT.p1 (.agg (api_Int.c y)) ?_
 refine EVT.cal (by kernel_rfl) (by kernel_rfl) (callOf_skip (fun _ h => by obtain e0 := integer_groups_inj h; rw [show v3 = v1 from Option.some.inj (hc4.symm.trans ((show integer_groups n y = integer_groups n x' from (congr rfl e0)).trans hc2))]) (callOf_at (by kernel_rfl))) (by kernel_rfl) ?_
 refine EVT.p1 (sU32 v1) ?_
 refine EVT.p1 (sU32 v3) ?_
 refine EVT.done ⟨by kernel_rfl, ?_⟩
 refine CQ.n1 [4, 5, 6] (mkS 54 0 [(4, .hp 2 0), (5, sU32 v1), (6, sU32 v3)]) [.own (api_Int.c x'), .own (api_Int.c y), .own [aB false, .at (.slice none 0 0)]] ?_
 refine CQ.seq ?_
 refine CQ.block ?_
 replace hr := bd hr; obtain ⟨o61, hL62, hr⟩ := hr
 refine CQ.loopO (σ := fun z0 => match z0 with | (a_5, b_6) => ⟨mkS 54 0 [(4, .hp 0 0), (5, sU32 a_5), (6, sU32 b_6)], [.own [aB false, .at (.slice none 0 0)]]⟩) (Q := fun x st' => match (generalizing := false) o61 with | .inl a_33 => x = .exit 0 ∧ Wk st' ⟨mkS 54 0 [(4, .hp 0 0), (5, sU32 a_33)], [.own [aB false, .at (.slice none 0 0)]]⟩ | .inr (r0) => x = .ret ∧ FinQ Tryz.prog [.cell 4 35] (.agg (api_Int.c r0)) .ret st') hL62 ((Wk.gc [4, 5, 6] [(2, true)] rfl trivial).to (by kernel_rfl)) ?_ ?_
 ·clear hr
  rintro m ⟨a_5, b_6⟩ hr
  show CQ _ _ _ _ ⟨_, _⟩
  refine CQ.seq ?_
  refine CQ.seq ?_
  refine CQ.r0 fine ?_
  refine EVO.p1 (sU32 b_6) ?_
  refine EVO.p1 (aI64 (b_6.length : Int)) ?_
  refine EVO.p1 (aB (decide ((b_6.length : Int) > 0))) ?_
  refine EVO.done ?_
  refine CQ.n1 [4, 5, 6, 19] (mkS 54 0 [(4, .hp 0 0), (5, sU32 a_5), (6, sU32 b_6), (19, aB (decide ((b_6.length : Int) > 0)))]) [.own [aB false, .at (.slice none 0 0)]] ?_
  refine CQ.cond (t := decide ((b_6.length : Int) > 0)) (by kernel_rfl) (fun hb35 => ?_) (fun hb35 => ?_)
  ·replace hr := cd_t hb35 hr
   refine CQ.skip ?_
   refine CQ.block ?_
   refine CQ.seq ?_
   replace hr := bd hr; obtain ⟨v36, hc37, hr⟩ := hr
   refine CQ.region fine (callOf_1 157 [sU32 a_5] [.own [aB false, .at (.slice none 0 0)]] (.loc (.tup [aU64 v36.1, aB v36.2]) [] [] 0) (callOk_val (l := []) (args' := [sU32 a_5]) rfl (SnL.cons (Sn.pure rfl) SnL.nil) (integer_word_ok n a_5 v36 hc37))) ?_
   refine EVO.p1 (sU32 a_5) ?_
   refine EVO.c0 (by kernel_rfl) (callOf_at (by kernel_rfl)) ?_
   refine EVO.p1 (.tup [aU64 v36.1, aB v36.2]) ?_
   refine EVO.p1 (aU64 v36.1) ?_
   refine EVO.p1 (aB v36.2) ?_
   refine EVO.p1 (aU64 v36.1) ?_
   refine EVO.p1 (aB v36.2) ?_
   refine EVO.done ?_
   refine CQ.n1 [4, 5, 6, 7, 8] (mkS 54 0 [(4, .hp 0 0), (5, sU32 a_5), (6, sU32 b_6), (7, aU64 v36.1), (8, aB v36.2)]) [.own [aB false, .at (.slice none 0 0)]] ?_
   refine CQ.seq ?_
   replace hr := bd hr; obtain ⟨v38, hc39, hr⟩ := hr
   refine CQ.region fine (callOf_1 157 [sU32 b_6] [.own [aB false, .at (.slice none 0 0)]] (.loc (.tup [aU64 v38.1, aB v38.2]) [] [] 0) (callOk_val (l := []) (args' := [sU32 b_6]) rfl (SnL.cons (Sn.pure rfl) SnL.nil) (integer_word_ok n b_6 v38 hc39))) ?_
   refine EVO.p1 (sU32 b_6) ?_
   refine EVO.c0 (by kernel_rfl) (callOf_at (by kernel_rfl)) ?_
   refine EVO.p1 (.tup [aU64 v38.1, aB v38.2]) ?_
   refine EVO.p1 (aU64 v38.1) ?_
   refine EVO.p1 (aB v38.2) ?_
   refine EVO.p1 (aU64 v38.1) ?_
   refine EVO.p1 (aB v38.2) ?_
   refine EVO.done ?_
   refine CQ.n1 [4, 5, 6, 7, 8, 9, 10] (mkS 54 0 [(4, .hp 0 0), (5, sU32 a_5), (6, sU32 b_6), (7, aU64 v36.1), (8, aB v36.2), (9, aU64 v38.1), (10, aB v38.2)]) [.own [aB false, .at (.slice none 0 0)]] ?_
   refine CQ.seq ?_
   refine CQ.seq ?_
   rcases Bool.eq_false_or_eq_true v36.2 with hb40 | hb40
   ·replace hr := cd_t hb40 hr
    refine CQ.r0 fine ?_
    refine EVO.p0 (v := aB true) (Eq.trans (b := some (.pure (aB v36.2))) (by kernel_rfl) (by rw [hb40])) ?_
    refine EVO.p1 (aB true) ?_
    refine EVO.q1 (aB v38.2) ?_
    refine EVO.p1 (aB v38.2) ?_
    refine EVO.done ?_
    refine CQ.n1 [4, 5, 6, 7, 9, 33] (mkS 54 0 [(4, .hp 0 0), (5, sU32 a_5), (6, sU32 b_6), (7, aU64 v36.1), (9, aU64 v38.1), (33, aB v38.2)]) [.own [aB false, .at (.slice none 0 0)]] ?_
    refine CQ.cond (t := v38.2) (by kernel_rfl) (fun hb41 => ?_) (fun hb41 => ?_)
    ·replace hr := cd_t hb41 hr
     refine CQ.seq ?_
     refine CQ.block ?_
     replace hr := bd hr; obtain ⟨m_46, hL51, hr⟩ := hr
     refine CQ.loopO (σ := fun z0 => match z0 with | (m_42, n_43) => ⟨mkS 54 0 [(4, .hp 0 0), (7, aU64 m_42), (9, aU64 n_43)], [.own [aB false, .at (.slice none 0 0)]]⟩) (Q := fun x st' => x = .exit 2 ∧ Wk st' ⟨mkS 54 0 [(4, .hp 0 0), (7, aU64 m_46)], [.own [aB false, .at (.slice none 0 0)]]⟩) hL51 ((Wk.gc [4, 7, 9] [(0, true)] rfl trivial).to (by kernel_rfl)) ?_ ?_
     ·clear hr
      rintro m ⟨m_42, n_43⟩ hr
      show CQ _ _ _ _ ⟨_, _⟩
      refine CQ.seq ?_
      refine CQ.seq ?_
      refine CQ.r0 fine ?_
      refine EVO.p1 (aU64 n_43) ?_
      refine EVO.p1 (aB (decide (n_43 > 0))) ?_
      refine EVO.done ?_
      refine CQ.n1 [4, 7, 9, 35] (mkS 54 0 [(4, .hp 0 0), (7, aU64 m_42), (9, aU64 n_43), (35, aB (decide (n_43 > 0)))]) [.own [aB false, .at (.slice none 0 0)]] ?_
      refine CQ.cond (t := decide (n_43 > 0)) (by kernel_rfl) (fun hb48 => ?_) (fun hb48 => ?_)
      ·replace hr := cd_t hb48 hr
       refine CQ.skip ?_
       refine CQ.block ?_
       replace hr := gd hr; obtain ⟨hg49, hr⟩ := hr
       refine CQ.regionT fine callOf_nil ?_
       refine EVT.p1 (aU64 n_43) ?_
       refine EVT.p1 (aU64 m_42) ?_
       refine EVT.p1 (aU64 n_43) ?_
       refine EVT.pure (v := aU64 (m_42.tmod n_43)) (by kernel_rfl) (op_rem (x := m_42) (y := n_43) (by kernel_rfl) (by kernel_rfl) hg49) (by kernel_rfl) ?_
       refine EVT.p1 (aU64 n_43) ?_
       refine EVT.p1 (aU64 (m_42.tmod n_43)) ?_
       refine EVT.done ⟨by kernel_rfl, ?_⟩
       refine CQ.pop ?_
       exact loopF_back (n_43, m_42.tmod n_43) hr ((Wk.gc [4, 7, 9] [(0, true)] rfl trivial).to (by kernel_rfl))
      ·replace hr := cd_f hb48 hr
       refine CQ.leave rfl ?_
       obtain rfl := Option.some.inj hr
       exact ⟨rfl, ((Wk.gc [4, 7] [(0, true)] rfl trivial).to (by kernel_rfl))⟩
     ·rintro x st' hq52
      clear hL51
      obtain ⟨rfl, hq52⟩ := hq52
      refine CQ_exit _ rfl ?_
      refine CQ.wk hq52 ?_
      refine CQ.seq ?_
      replace hr := bd hr; obtain ⟨v53, hc54, hr⟩ := hr
      replace hr := bd hr; obtain ⟨v55, hc56, hr⟩ := hr
      refine CQ.region fine (callOf_ok [{ f := 104, args := [aU64 m_46], H := [.own [aB false, .at (.slice none 0 0)]], r := .loc (sU32 v53) [] [] 0 : CE }, { f := 103, args := [aB false, sU32 v53], H := [.own [aB false, .at (.slice none 0 0)]], r := .loc (.agg (api_Int.c v55)) [] [] 0 : CE }] (List.forall_mem_cons.2 ⟨(callOk_ref (l := []) (args' := [aU64 m_46]) (SnL.cons (Sn.pure rfl) SnL.nil) (integer_split_ok n m_46 v53 hc54)), (List.forall_mem_cons.2 ⟨(callOk_ref (l := []) (args' := [aB false, sU32 v53]) (SnL.cons (Sn.pure rfl) (SnL.cons (Sn.pure rfl) SnL.nil)) (integer_made_ok n false v53 v55 hc56)), ce0⟩)⟩)) ?_
      refine EVO.p1 (aU64 m_46) ?_
      refine EVO.c0 (by kernel_rfl) (callOf_at (by kernel_rfl)) ?_
      refine EVO.c0 (by kernel_rfl) (callOf_skip (fun h _ => absurd (show (103 : Nat) = 104 from h) (by decide)) (callOf_at (by kernel_rfl))) ?_
      refine EVO.e1 (.unk) [(0, .own (api_Int.c v55))] ?_
      refine EVO.done ?_
      refine CQ.ret ?_
      obtain rfl := Option.some.inj hr
      exact ⟨rfl, FinQ.ret (vs := [.agg (api_Int.c v55)]) (by kernel_rfl) (Sn.pure rfl)⟩
    ·replace hr := cd_f hb41 hr
     refine CQ.skip ?_
     refine CQ.seq ?_
     replace hr := bd hr; obtain ⟨v57, hc58, hr⟩ := hr
     refine CQ.region fine (callOf_1 158 [sU32 a_5, sU32 b_6] [.own [aB false, .at (.slice none 0 0)]] (.loc (.tup [sU32 v57.1, sU32 v57.2]) [] [] 0) (callOk_ref (l := []) (args' := [sU32 a_5, sU32 b_6]) (SnL.cons (Sn.pure rfl) (SnL.cons (Sn.pure rfl) SnL.nil)) (integer_over_ok n a_5 b_6 v57 hc58))) ?_
     refine EVO.p1 (sU32 a_5) ?_
     refine EVO.p1 (sU32 b_6) ?_
     refine EVO.c0 (by kernel_rfl) (callOf_at (by kernel_rfl)) ?_
     refine EVO.p1 (.tup [sU32 v57.1, sU32 v57.2]) ?_
     refine EVO.p1 (sU32 v57.1) ?_
     refine EVO.p1 (sU32 v57.2) ?_
     refine EVO.p1 (sU32 v57.1) ?_
     refine EVO.p1 (sU32 v57.2) ?_
     refine EVO.done ?_
     refine CQ.n1 [4, 6, 12] (mkS 54 0 [(4, .hp 0 0), (6, sU32 b_6), (12, sU32 v57.2)]) [.own [aB false, .at (.slice none 0 0)]] ?_
     refine CQ.r0 fine ?_
     refine EVO.p1 (sU32 b_6) ?_
     refine EVO.p1 (sU32 v57.2) ?_
     refine EVO.p1 (sU32 b_6) ?_
     refine EVO.p1 (sU32 v57.2) ?_
     refine EVO.done ?_
     refine CQ.pop ?_
     exact loopF_back (b_6, v57.2) hr ((Wk.gc [4, 5, 6] [(0, true)] rfl trivial).to (by kernel_rfl))
   ·replace hr := cd_f hb40 hr
    refine CQ.r0 fine ?_
    refine EVO.p0 (v := aB false) (Eq.trans (b := some (.pure (aB v36.2))) (by kernel_rfl) (by rw [hb40])) ?_
    refine EVO.p1 (aB false) ?_
    refine EVO.s1 ?_
    refine EVO.p1 (aB false) ?_
    refine EVO.done ?_
    refine CQ.n1 [4, 5, 6, 7, 9, 33] (mkS 54 0 [(4, .hp 0 0), (5, sU32 a_5), (6, sU32 b_6), (7, aU64 v36.1), (9, aU64 v38.1), (33, aB false)]) [.own [aB false, .at (.slice none 0 0)]] ?_
    refine CQ.cF (by kernel_rfl) ?_
    refine CQ.skip ?_
    refine CQ.seq ?_
    replace hr := bd hr; obtain ⟨v59, hc60, hr⟩ := hr
    refine CQ.region fine (callOf_1 158 [sU32 a_5, sU32 b_6] [.own [aB false, .at (.slice none 0 0)]] (.loc (.tup [sU32 v59.1, sU32 v59.2]) [] [] 0) (callOk_ref (l := []) (args' := [sU32 a_5, sU32 b_6]) (SnL.cons (Sn.pure rfl) (SnL.cons (Sn.pure rfl) SnL.nil)) (integer_over_ok n a_5 b_6 v59 hc60))) ?_
    refine EVO.p1 (sU32 a_5) ?_
    refine EVO.p1 (sU32 b_6) ?_
    refine EVO.c0 (by kernel_rfl) (callOf_at (by kernel_rfl)) ?_
    refine EVO.p1 (.tup [sU32 v59.1, sU32 v59.2]) ?_
    refine EVO.p1 (sU32 v59.1) ?_
    refine EVO.p1 (sU32 v59.2) ?_
    refine EVO.p1 (sU32 v59.1) ?_
    refine EVO.p1 (sU32 v59.2) ?_
    refine EVO.done ?_
    refine CQ.n1 [4, 6, 12] (mkS 54 0 [(4, .hp 0 0), (6, sU32 b_6), (12, sU32 v59.2)]) [.own [aB false, .at (.slice none 0 0)]] ?_
    refine CQ.r0 fine ?_
    refine EVO.p1 (sU32 b_6) ?_
    refine EVO.p1 (sU32 v59.2) ?_
    refine EVO.p1 (sU32 b_6) ?_
    refine EVO.p1 (sU32 v59.2) ?_
    refine EVO.done ?_
    refine CQ.pop ?_
    exact loopF_back (b_6, v59.2) hr ((Wk.gc [4, 5, 6] [(0, true)] rfl trivial).to (by kernel_rfl))
  ·replace hr := cd_f hb35 hr
   refine CQ.leave rfl ?_
   obtain rfl := Option.some.inj hr
   exact ⟨rfl, ((Wk.gc [4, 5] [(0, true)] rfl trivial).to (by kernel_rfl))⟩
 ·rcases o61 with a_33 | r0
  ·rintro x st' hq63
   clear hL62
   obtain ⟨rfl, hq63⟩ := hq63
   refine CQ_exit _ rfl ?_
   refine CQ.wk hq63 ?_
   refine CQ.seq ?_
   replace hr := bd hr; obtain ⟨v64, hc65, hr⟩ := hr
   replace hr := bd hr; obtain ⟨v66, hc67, hr⟩ := hr
   refine CQ.region fine (callOf_ok [{ f := 156, args := [sU32 a_33], H := [.own [aB false, .at (.slice none 0 0)]], r := .loc (sU32 v64) [] [] 0 : CE }, { f := 103, args := [aB false, sU32 v64], H := [.own [aB false, .at (.slice none 0 0)]], r := .loc (.agg (api_Int.c v66)) [] [] 0 : CE }] (List.forall_mem_cons.2 ⟨(callOk_ref (l := []) (args' := [sU32 a_33]) (SnL.cons (Sn.pure rfl) SnL.nil) (slices_Clone_uint32_uint32_ok n a_33 v64 hc65)), (List.forall_mem_cons.2 ⟨(callOk_ref (l := []) (args' := [aB false, sU32 v64]) (SnL.cons (Sn.pure rfl) (SnL.cons (Sn.pure rfl) SnL.nil)) (integer_made_ok n false v64 v66 hc67)), ce0⟩)⟩)) ?_
   refine EVO.p1 (sU32 a_33) ?_
   refine EVO.c0 (by kernel_rfl) (callOf_at (by kernel_rfl)) ?_
   refine EVO.c0 (by kernel_rfl) (callOf_skip (fun h _ => absurd (show (103 : Nat) = 156 from h) (by decide)) (callOf_at (by kernel_rfl))) ?_
   refine EVO.e1 (.unk) [(0, .own (api_Int.c v66))] ?_
   refine EVO.done ?_
   refine CQ.ret ?_
   obtain rfl := Option.some.inj hr
   exact FinQ.r1 [.agg (api_Int.c v66)]
  ·rintro x st' hq63
   clear hL62
   obtain ⟨rfl, hq63⟩ := hq63
   obtain rfl := Option.some.inj hr
   exact CQ_ret _ hq63

theorem cmp_isNaN_int_ok (n : Nat) (x' : Int) (r : Bool) (hr : cmp_isNaN_int n x' = some r) : FnOk Tryz.prog 129 [.at (.int .i64 x')] (.at (.bool r)) := by
 unfold cmp_isNaN_int at hr
 refine FnOk.body fine Tryz.func129 (c := (Tryz.f129.body).getD .skip) rfl (s := mkS 6 0 [(0, aI64 x')]) (by kernel_rfl) (rs := [.tmp 2]) rfl ?_
 unfold Tryz.f129
 simp only [Option.getD_some]
 refine CQ.seq ?_
 refine CQ.r0 fine ?_
 refine EVO.p1 (aB false) ?_
 refine EVO.done ?_
 refine CQ.n1 [0] (mkS 6 0 [(0, aI64 x')]) [] ?_
 refine CQ.seq ?_
 refine CQ.r0 fine ?_
 refine EVO.p1 (aI64 x') ?_
 refine EVO.p1 (aI64 x') ?_
 refine EVO.p1 (aB ((x' : Int) != x')) ?_
 refine EVO.p1 (aB ((x' : Int) != x')) ?_
 refine EVO.done ?_
 refine CQ.ret ?_
 obtain rfl := Option.some.inj hr
 exact FinQ.r1 [aB ((x' : Int) != x')]

theorem cmp_Compare_int_ok (n : Nat) (x' : Int) (y : Int) (r : Int) (hr : cmp_Compare_int n x' y = some r) : FnOk Tryz.prog 99 [.at (.int .i64 x'), .at (.int .i64 y)] (.at (.int .i64 r)) := by
 unfold cmp_Compare_int at hr
 refine FnOk.body fine Tryz.func99 (c := (Tryz.f99.body).getD .skip) rfl (s := mkS 20 0 [(0, aI64 x'), (1, aI64 y)]) (by kernel_rfl) (rs := [.tmp 4]) rfl ?_
 unfold Tryz.f99
 simp only [Option.getD_some]
 refine CQ.seq ?_
 refine CQ.r0 fine ?_
 refine EVO.p1 (aI64 0) ?_
 refine EVO.done ?_
 refine CQ.n1 [0, 1] (mkS 20 0 [(0, aI64 x'), (1, aI64 y)]) [] ?_
 refine CQ.seq ?_
 replace hr := bd hr; obtain ⟨v1, hc2, hr⟩ := hr
 refine CQ.region fine (callOf_1 129 [aI64 x'] [] (.loc (aB v1) [] [] 0) (callOk_val (l := []) (args' := [aI64 x']) rfl (SnL.cons (Sn.pure rfl) SnL.nil) (cmp_isNaN_int_ok n x' v1 hc2))) ?_
 refine EVO.p1 (aI64 x') ?_
 refine EVO.c0 (by kernel_rfl) (callOf_at (by kernel_rfl)) ?_
 refine EVO.p1 (aB v1) ?_
 refine EVO.done ?_
 refine CQ.n1 [0, 1, 5] (mkS 20 0 [(0, aI64 x'), (1, aI64 y), (5, aB v1)]) [] ?_
 refine CQ.seq ?_
 replace hr := bd hr; obtain ⟨v3, hc4, hr⟩ := hr
 refine CQ.region fine (callOf_1 129 [aI64 y] [] (.loc (aB v3) [] [] 0) (callOk_val (l := []) (args' := [aI64 y]) rfl (SnL.cons (Sn.pure rfl) SnL.nil) (cmp_isNaN_int_ok n y v3 hc4))) ?_
 refine EVO.p1 (aI64 y) ?_
 refine EVO.c0 (by kernel_rfl) (callOf_at (by kernel_rfl)) ?_
 refine EVO.p1 (aB v3) ?_
 refine EVO.done ?_
 refine CQ.n1 [0, 1, 5, 6] (mkS 20 0 [(0, aI64 x'), (1, aI64 y), (5, aB v1), (6, aB v3)]) [] ?_
 refine CQ.seq ?_
 refine CQ.seq ?_
 refine CQ.r0 fine ?_
 refine EVO.p1 (aB v1) ?_
 refine EVO.done ?_
 refine CQ.n1 [0, 1, 6, 11] (mkS 20 0 [(0, aI64 x'), (1, aI64 y), (6, aB v3), (11, aB v1)]) [] ?_
 refine CQ.cond (t := v1) (by kernel_rfl) (fun hb5 => ?_) (fun hb5 => ?_)
 ·replace hr := cd_t hb5 hr
  refine CQ.seq ?_
  refine CQ.seq ?_
  refine CQ.r0 fine ?_
  refine EVO.p1 (aB v3) ?_
  refine EVO.done ?_
  refine CQ.n1 [12] (mkS 20 0 [(12, aB v3)]) [] ?_
  refine CQ.cond (t := v3) (by kernel_rfl) (fun hb6 => ?_) (fun hb6 => ?_)
  ·replace hr := cd_t hb6 hr
   refine CQ.seq ?_
   refine CQ.r0 fine ?_
   refine EVO.p1 (aI64 0) ?_
   refine EVO.done ?_
   refine CQ.ret ?_
   obtain rfl := Option.some.inj hr
   exact FinQ.r1 [aI64 0]
  ·replace hr := cd_f hb6 hr
   refine CQ.skip ?_
   refine CQ.seq ?_
   refine CQ.r0 fine ?_
   refine EVO.p1 (aI64 (-1)) ?_
   refine EVO.done ?_
   refine CQ.ret ?_
   obtain rfl := Option.some.inj hr
   exact FinQ.r1 [aI64 (-1)]
 ·replace hr := cd_f hb5 hr
  refine CQ.skip ?_
  refine CQ.seq ?_
  refine CQ.seq ?_
  refine CQ.r0 fine ?_
  refine EVO.p1 (aB v3) ?_
  refine EVO.done ?_
  refine CQ.n1 [0, 1, 13] (mkS 20 0 [(0, aI64 x'), (1, aI64 y), (13, aB v3)]) [] ?_
  refine CQ.cond (t := v3) (by kernel_rfl) (fun hb7 => ?_) (fun hb7 => ?_)
  ·replace hr := cd_t hb7 hr
   refine CQ.seq ?_
   refine CQ.r0 fine ?_
   refine EVO.p1 (aI64 1) ?_
   refine EVO.done ?_
   refine CQ.ret ?_
   obtain rfl := Option.some.inj hr
   exact FinQ.r1 [aI64 1]
  ·replace hr := cd_f hb7 hr
   refine CQ.skip ?_
   refine CQ.seq ?_
   refine CQ.seq ?_
   refine CQ.r0 fine ?_
   refine EVO.p1 (aI64 x') ?_
   refine EVO.p1 (aI64 y) ?_
   refine EVO.p1 (aB (decide (x' < y))) ?_
   refine EVO.done ?_
   refine CQ.n1 [0, 1, 16] (mkS 20 0 [(0, aI64 x'), (1, aI64 y), (16, aB (decide (x' < y)))]) [] ?_
   refine CQ.cond (t := decide (x' < y)) (by kernel_rfl) (fun hb8 => ?_) (fun hb8 => ?_)
   ·replace hr := cd_t hb8 hr
    refine CQ.seq ?_
    refine CQ.r0 fine ?_
    refine EVO.p1 (aI64 (-1)) ?_
    refine EVO.done ?_
    refine CQ.ret ?_
    obtain rfl := Option.some.inj hr
    exact FinQ.r1 [aI64 (-1)]
   ·replace hr := cd_f hb8 hr
    refine CQ.skip ?_
    refine CQ.seq ?_
    refine CQ.seq ?_
    refine CQ.r0 fine ?_
    refine EVO.p1 (aI64 x') ?_
    refine EVO.p1 (aI64 y) ?_
    refine EVO.p1 (aB (decide (x' > y))) ?_
    refine EVO.done ?_
    refine CQ.n1 [19] (mkS 20 0 [(19, aB (decide (x' > y)))]) [] ?_
    refine CQ.cond (t := decide (x' > y)) (by kernel_rfl) (fun hb9 => ?_) (fun hb9 => ?_)
    ·replace hr := cd_t hb9 hr
     refine CQ.seq ?_
     refine CQ.r0 fine ?_
     refine EVO.p1 (aI64 1) ?_
     refine EVO.done ?_
     refine CQ.ret ?_
     obtain rfl := Option.some.inj hr
     exact FinQ.r1 [aI64 1]
    ·replace hr := cd_f hb9 hr
     refine CQ.skip ?_
     refine CQ.seq ?_
     refine CQ.r0 fine ?_
     refine EVO.p1 (aI64 0) ?_
     refine EVO.done ?_
     refine CQ.ret ?_
     obtain rfl := Option.some.inj hr
     exact FinQ.r1 [aI64 0]

theorem integer_Compare_ok (n : Nat) (x' : api_Int) (y : api_Int) (r : Int) (hr : integer_Compare n x' y = some r) : FnOk Tryz.prog 155 [.agg [.at (.bool x'.Negative), slT (iC .u32) x'.Groups], .agg [.at (.bool y.Negative), slT (iC .u32) y.Groups]] (.at (.int .i64 r)) := by
 unfold integer_Compare at hr
 refine FnOk.body fine Tryz.func155 (c := (Tryz.f155.body).getD .skip) rfl (s := mkS 28 0 [(0, .agg (api_Int.c x')), (1, .agg (api_Int.c y))]) (by kernel_rfl) (rs := [.tmp 4]) rfl ?_
 unfold Tryz.f155
 simp only [Option.getD_some]
 refine CQ.seq ?_
 refine CQ.r0 fine ?_
 refine EVO.e1 (.hp 0 0) [(0, .own (api_Int.c x'))] ?_
 refine EVO.e1 (.hp 1 0) [(1, .own (api_Int.c y))] ?_
 refine EVO.p1 (aI64 0) ?_
 refine EVO.done ?_
 refine CQ.n1 [2, 3] (mkS 28 0 [(2, .hp 0 0), (3, .hp 1 0)]) [.own (api_Int.c x'), .own (api_Int.c y)] ?_
 refine CQ.seq ?_
 refine CQ.seq ?_
 replace hr := bd hr; obtain ⟨v1, hc2, hr⟩ := hr
 replace hr := bd hr; obtain ⟨v3, hc4, hr⟩ := hr
 refine CQ.regionT fine (callOf_ok [{ f := 69, args := [.agg (api_Int.c x')], H := [.own (api_Int.c x'), .own (api_Int.c y)], r := .loc (aI64 v1) [] [] 0 : CE }, { f := 69, args := [.agg (api_Int.c y)], H := [.own (api_Int.c x'), .own (api_Int.c y)], r := .loc (aI64 v3) [] [] 0 : CE }] (List.forall_mem_cons.2 ⟨(callOk_val (l := []) (args' := [.agg (api_Int.c x')]) rfl (SnL.cons (Sn.pure rfl) SnL.nil) (integer_Sign_ok n x' v1 hc2)), (List.forall_mem_cons.2 ⟨(callOk_val (l := []) (args' := [.agg (api_Int.c y)]) rfl (SnL.cons (Sn.pure rfl) SnL.nil) (integer_Sign_ok n y v3 hc4)), ce0⟩)⟩)) ?_
 refine EVT.p1 (.agg (api_Int.c x')) ?_
 refine EVT.cal (by kernel_rfl) (by kernel_rfl) (callOf_at (by kernel_rfl)) (by kernel_rfl) ?_
 refine EVT.p1 (.agg (api_Int.c y)) ?_
 refine EVT.cal (by kernel_rfl) (by kernel_rfl) (callOf_skip (fun _ h => by obtain e0 := integer_Sign_inj h; rw [show v3 = v1 from Option.some.inj (hc4.symm.trans ((show integer_Sign n y = integer_Sign n x' from (congr rfl e0)).trans hc2))]) (callOf_at (by kernel_rfl))) (by kernel_rfl) ?_
 refine EVT.p1 (aI64 v1) ?_
 refine EVT.p1 (aI64 v3) ?_
 refine EVT.done ⟨by kernel_rfl, ?_⟩
 refine CQ.n1 [2, 3, 5, 6] (mkS 28 0 [(2, .hp 0 0), (3, .hp 1 0), (5, aI64 v1), (6, aI64 v3)]) [.own (api_Int.c x'), .own (api_Int.c y)] ?_
 refine CQ.seq ?_
 refine CQ.r0 fine ?_
 refine EVO.p1 (aI64 v1) ?_
 refine EVO.p1 (aI64 v3) ?_
 refine EVO.p1 (aB ((v1 : Int) != v3)) ?_
 refine EVO.done ?_
 refine CQ.n1 [2, 3, 5, 6, 14] (mkS 28 0 [(2, .hp 0 0), (3, .hp 1 0), (5, aI64 v1), (6, aI64 v3), (14, aB ((v1 : Int) != v3))]) [.own (api_Int.c x'), .own (api_Int.c y)] ?_
 refine CQ.cond (t := (v1 : Int) != v3) (by kernel_rfl) (fun hb5 => ?_) (fun hb5 => ?_)
 ·replace hr := cd_t hb5 hr
  refine CQ.seq ?_
  replace hr := bd hr; obtain ⟨v6, hc7, hr⟩ := hr
  refine CQ.region fine (callOf_1 99 [aI64 v1, aI64 v3] [.own (api_Int.c x'), .own (api_Int.c y)] (.loc (aI64 v6) [] [] 0) (callOk_val (l := []) (args' := [aI64 v1, aI64 v3]) rfl (SnL.cons (Sn.pure rfl) (SnL.cons (Sn.pure rfl) SnL.nil)) (cmp_Compare_int_ok n v1 v3 v6 hc7))) ?_
  refine EVO.p1 (aI64 v1) ?_
  refine EVO.p1 (aI64 v3) ?_
  refine EVO.c0 (by kernel_rfl) (callOf_at (by kernel_rfl)) ?_
  refine EVO.p1 (aI64 v6) ?_
  refine EVO.done ?_
  refine CQ.ret ?_
  obtain rfl := Option.some.inj hr
  exact FinQ.r1 [aI64 v6]
 ·replace hr := cd_f hb5 hr
  refine CQ.skip ?_
  refine CQ.seq ?_
  replace hr := bd hr; obtain ⟨v8, hc9, hr⟩ := hr
  replace hr := bd hr; obtain ⟨v10, hc11, hr⟩ := hr
  replace hr := bd hr; obtain ⟨v12, hc13, hr⟩ := hr
  refine CQ.regionT fine (callOf_ok [{ f := 106, args := [.agg (api_Int.c x')], H := [.own (api_Int.c x'), .own (api_Int.c y)], r := .loc (sU32 v8) [] [] 0 : CE }, { f := 106, args := [.agg (api_Int.c y)], H := [.own (api_Int.c x'), .own (api_Int.c y)], r := .loc (sU32 v10) [] [] 0 : CE }, { f := 133, args := [sU32 v8, sU32 v10], H := [.own (api_Int.c x'), .own (api_Int.c y)], r := .loc (aI64 v12) [] [] 0 : CE }] (List.forall_mem_cons.2 ⟨(callOk_ref (l := []) (args' := [.agg (api_Int.c x')]) (SnL.cons (Sn.pure rfl) SnL.nil) (integer_groups_ok n x' v8 hc9)), (List.forall_mem_cons.2 ⟨(callOk_ref (l := []) (args' := [.agg (api_Int.c y)]) (SnL.cons (Sn.pure rfl) SnL.nil) (integer_groups_ok n y v10 hc11)), (List.forall_mem_cons.2 ⟨(callOk_val (l := []) (args' := [sU32 v8, sU32 v10]) rfl (SnL.cons (Sn.pure rfl) (SnL.cons (Sn.pure rfl) SnL.nil)) (integer_compare_ok n v8 v10 v12 hc13)), ce0⟩)⟩)⟩)) ?_
  refine EVT.p1 (.agg (api_Int.c x')) ?_
  refine EVT.cal (by kernel_rfl) (by kernel_rfl) (callOf_at (by kernel_rfl)) (by kernel_rfl) ?_
  refine EVT.p1 (.agg (api_Int.c y)) ?_
  refine EVT.cal (by kernel_rfl) (by kernel_rfl) (callOf_skip (fun _ h => by obtain e0 := integer_groups_inj h; rw [show v10 = v8 from Option.some.inj (hc11.symm.trans ((show integer_groups n y = integer_groups n x' from (congr rfl e0)).trans hc9))]) (callOf_at (by kernel_rfl))) (by kernel_rfl) ?_
  refine EVT.cal (by kernel_rfl) (by kernel_rfl) (callOf_skip (fun h _ => absurd (show (133 : Nat) = 106 from h) (by decide)) (callOf_skip (fun h _ => absurd (show (133 : Nat) = 106 from h) (by decide)) (callOf_at (by kernel_rfl)))) (by kernel_rfl) ?_
  refine EVT.p1 (aI64 v12) ?_
  refine EVT.done ⟨by kernel_rfl, ?_⟩
  refine CQ.n1 [2, 7] (mkS 28 0 [(2, .hp 0 0), (7, aI64 v12)]) [.own (api_Int.c x'), .own (api_Int.c y)] ?_
  refine CQ.seq ?_
  refine CQ.seq ?_
  refine CQ.r0 fine ?_
  refine EVO.p1 (.hp 0 0) ?_
  refine EVO.p1 (aB x'.Negative) ?_
  refine EVO.done ?_
  refine CQ.n1 [7, 24] (mkS 28 0 [(7, aI64 v12), (24, aB x'.Negative)]) [.own (api_Int.c x'), .own (api_Int.c y)] ?_
  refine CQ.cond (t := x'.Negative) (by kernel_rfl) (fun hb14 => ?_) (fun hb14 => ?_)
  ·replace hr := cd_t hb14 hr
   refine CQ.seq ?_
   refine CQ.r0 fine ?_
   refine EVO.p1 (aI64 v12) ?_
   refine EVO.p0 (v := aI64 (wrapF .i64 (0 - v12))) (Eq.trans (b := some (.pure (aI64 (IntKind.wrap .i64 (0 - v12))))) (by kernel_rfl) wrap_at) ?_
   refine EVO.p1 (aI64 (wrapF .i64 (0 - v12))) ?_
   refine EVO.done ?_
   refine CQ.ret ?_
   obtain rfl := Option.some.inj hr
   exact FinQ.r1 [aI64 (wrapF .i64 (0 - v12))]
  ·replace hr := cd_f hb14 hr
   refine CQ.skip ?_
   refine CQ.seq ?_
   refine CQ.r0 fine ?_
   refine EVO.p1 (aI64 v12) ?_
   refine EVO.p1 (aI64 v12) ?_
   refine EVO.done ?_
   refine CQ.ret ?_
   obtain rfl := Option.some.inj hr
   exact FinQ.r1 [aI64 v12]
end Go.L
