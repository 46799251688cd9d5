/- The program's functions compute what the plain Lean programs compute, part 5; printed by a program. -/
import Derived.Test.YtlajgmapmocpbaaExchLP4
import Derived.Test.YtlajgmapmocpbaaL0b
import Derived.Test.YtlajgmapmocpbaaChecked
import Derived.KernelRfl
set_option linter.unusedVariables false
set_option linter.unusedSimpArgs false
set_option maxRecDepth 100000
namespace Go.L
open Go Go.Eng Go.Proofs
theorem fiduciallaw59_ChangeExchanges_ok (n : Nat) (a : api_Banded) (b : api_Banded) (less : List Int) (r : Bool) (hr : fiduciallaw59_ChangeExchanges n a b less = some r) : FnOk Try.prog 5 [.agg [.at (.int .i64 a.Grid.X0), .at (.int .i64 a.Grid.Y0), .at (.int .i64 a.Grid.Step), .at (.int .i64 a.Grid.Width), .at (.int .i64 a.Grid.Height), slT (iC .i64) a.Grid.Z, slT (iC .i64) a.Err], .agg [.at (.int .i64 b.Grid.X0), .at (.int .i64 b.Grid.Y0), .at (.int .i64 b.Grid.Step), .at (.int .i64 b.Grid.Width), .at (.int .i64 b.Grid.Height), slT (iC .i64) b.Grid.Z, slT (iC .i64) b.Err], slT (iC .u8) less] (.at (.bool r)) := by
 unfold fiduciallaw59_ChangeExchanges at hr
 refine FnOk.body fine Try.func5 (c := (Try.f5.body).getD .skip) rfl (s := mkS 136 0 [(0, .agg (api_Banded.c a)), (1, .agg (api_Banded.c b)), (2, sU8 less)]) (by kernel_rfl) (rs := [.tmp 6]) rfl ?_
 unfold Try.f5
 simp only [Option.getD_some]
 refine CQ.seq ?_
 refine CQ.r0 fine ?_
 refine EVO.e1 (.hp 0 0) [(0, .own (api_Banded.c a))] ?_
 refine EVO.e1 (.hp 1 0) [(1, .own (api_Banded.c b))] ?_
 refine EVO.p1 (aB false) ?_
 refine EVO.done ?_
 refine CQ.n1 [2, 3, 4] (mkS 136 0 [(2, sU8 less), (3, .hp 0 0), (4, .hp 1 0)]) [.own (api_Banded.c a), .own (api_Banded.c b)] ?_
 refine CQ.seq ?_
 refine CQ.seq ?_
 replace hr := bd hr; obtain ⟨v1, hc2, hr⟩ := hr
 refine CQ.region fine (callOf_1 6 [] [.own (api_Banded.c a), .own (api_Banded.c b)] (.loc (aB v1) [] [] 0) (callOk_val (l := []) (args' := []) rfl SnL.nil (fiduciallaw59_known_ok n v1 hc2))) ?_
 refine EVO.c0 (by kernel_rfl) (callOf_at (by kernel_rfl)) ?_
 refine EVO.p1 (aB (!v1)) ?_
 refine EVO.done ?_
 refine CQ.n1 [2, 3, 4, 19] (mkS 136 0 [(2, sU8 less), (3, .hp 0 0), (4, .hp 1 0), (19, aB (!v1))]) [.own (api_Banded.c a), .own (api_Banded.c b)] ?_
 refine CQ.cond (t := !v1) (by kernel_rfl) (fun hb3 => ?_) (fun hb3 => ?_)
 ·replace hr := cd_t hb3 hr
  refine CQ.seq ?_
  refine CQ.r0 fine ?_
  refine EVO.p1 (aB false) ?_
  refine EVO.done ?_
  refine CQ.ret ?_
  obtain rfl := Option.some.inj hr
  exact FinQ.r1 [aB false]
 ·replace hr := cd_f hb3 hr
  refine CQ.skip ?_
  refine CQ.seq ?_
  refine CQ.seq ?_
  replace hr := bd hr; obtain ⟨v4, hc5, hr⟩ := hr
  rcases Bool.eq_false_or_eq_true (!v4) with hb6 | hb6
  ·replace hr := cd_t hb6 hr
   refine CQ.region fine (callOf_1 7 [.hs 2 0 2 7] [.own (api_Banded.c a), .own (api_Banded.c b), .own [aI64 a.Grid.X0, aI64 a.Grid.Y0, aI64 a.Grid.Step, aI64 a.Grid.Width, aI64 a.Grid.Height, sI64 a.Grid.Z, sI64 a.Err, aI64 b.Grid.X0, aI64 b.Grid.Y0, aI64 b.Grid.Step, aI64 b.Grid.Width, aI64 b.Grid.Height, sI64 b.Grid.Z, sI64 b.Err]] (.loc (aB v4) [] [2] 0) (callOk_val (l := [2]) (args' := [slT api_Banded.c [a, b]]) rfl (SnL.cons (Sn.hs rfl (.inl rfl) (SnC.cons (Sn.pure rfl) (SnC.cons (Sn.pure rfl) (SnC.cons (Sn.pure rfl) (SnC.cons (Sn.pure rfl) (SnC.cons (Sn.pure rfl) (SnC.cons (Sn.pure rfl) (SnC.cons (Sn.pure rfl) (SnC.cons (Sn.pure rfl) (SnC.cons (Sn.pure rfl) (SnC.cons (Sn.pure rfl) (SnC.cons (Sn.pure rfl) (SnC.cons (Sn.pure rfl) (SnC.cons (Sn.pure rfl) (SnC.cons (Sn.pure rfl) SnC.nil)))))))))))))) (fun h => nomatch h)) SnL.nil) (fiduciallaw59_few_ok n [a, b] v4 hc5))) ?_
   refine EVO.p1 (.agg (api_Banded.c a)) ?_
   refine EVO.p1 (.agg (api_Banded.c b)) ?_
   refine EVO.e1 (.hs 2 0 2 7) [(2, .own [aI64 a.Grid.X0, aI64 a.Grid.Y0, aI64 a.Grid.Step, aI64 a.Grid.Width, aI64 a.Grid.Height, sI64 a.Grid.Z, sI64 a.Err, aI64 b.Grid.X0, aI64 b.Grid.Y0, aI64 b.Grid.Step, aI64 b.Grid.Width, aI64 b.Grid.Height, sI64 b.Grid.Z, sI64 b.Err])] ?_
   refine EVO.c0 (by kernel_rfl) (callOf_at (by kernel_rfl)) ?_
   refine EVO.p0 (v := aB true) (Eq.trans (b := some (.pure (aB (!v4)))) (by kernel_rfl) (by rw [hb6])) ?_
   refine EVO.p1 (aB true) ?_
   refine EVO.s1 ?_
   refine EVO.s1 ?_
   refine EVO.s1 ?_
   refine EVO.s1 ?_
   refine EVO.s1 ?_
   refine EVO.p1 (aB true) ?_
   refine EVO.done ?_
   refine CQ.n1 [2, 3, 4, 31] (mkS 136 0 [(2, sU8 less), (3, .hp 0 0), (4, .hp 1 0), (31, aB true)]) [.own (api_Banded.c a), .own (api_Banded.c b), .own [aI64 a.Grid.X0, aI64 a.Grid.Y0, aI64 a.Grid.Step, aI64 a.Grid.Width, aI64 a.Grid.Height, sI64 a.Grid.Z, sI64 a.Err, aI64 b.Grid.X0, aI64 b.Grid.Y0, aI64 b.Grid.Step, aI64 b.Grid.Width, aI64 b.Grid.Height, sI64 b.Grid.Z, sI64 b.Err]] ?_
   refine CQ.cT (by kernel_rfl) ?_
   refine CQ.seq ?_
   refine CQ.r0 fine ?_
   refine EVO.p1 (aB true) ?_
   refine EVO.done ?_
   refine CQ.ret ?_
   obtain rfl := Option.some.inj hr
   exact FinQ.r1 [aB true]
  ·replace hr := cd_f hb6 hr
   replace hr := bd hr; obtain ⟨v7, hc8, hr⟩ := hr
   refine CQ.region fine (callOf_ok [{ f := 7, args := [.hs 2 0 2 7], H := [.own (api_Banded.c a), .own (api_Banded.c b), .own [aI64 a.Grid.X0, aI64 a.Grid.Y0, aI64 a.Grid.Step, aI64 a.Grid.Width, aI64 a.Grid.Height, sI64 a.Grid.Z, sI64 a.Err, aI64 b.Grid.X0, aI64 b.Grid.Y0, aI64 b.Grid.Step, aI64 b.Grid.Width, aI64 b.Grid.Height, sI64 b.Grid.Z, sI64 b.Err]], r := .loc (aB v4) [] [2] 0 : CE }, { f := 10, args := [.hs 3 0 2 7], H := [.own (api_Banded.c a), .own (api_Banded.c b), .own [aI64 a.Grid.X0, aI64 a.Grid.Y0, aI64 a.Grid.Step, aI64 a.Grid.Width, aI64 a.Grid.Height, sI64 a.Grid.Z, sI64 a.Err, aI64 b.Grid.X0, aI64 b.Grid.Y0, aI64 b.Grid.Step, aI64 b.Grid.Width, aI64 b.Grid.Height, sI64 b.Grid.Z, sI64 b.Err], .own [aI64 a.Grid.X0, aI64 a.Grid.Y0, aI64 a.Grid.Step, aI64 a.Grid.Width, aI64 a.Grid.Height, sI64 a.Grid.Z, sI64 a.Err, aI64 b.Grid.X0, aI64 b.Grid.Y0, aI64 b.Grid.Step, aI64 b.Grid.Width, aI64 b.Grid.Height, sI64 b.Grid.Z, sI64 b.Err]], r := .loc (aI64 v7) [] [3] 0 : CE }] (List.forall_mem_cons.2 ⟨(callOk_val (l := [2]) (args' := [slT api_Banded.c [a, b]]) rfl (SnL.cons (Sn.hs rfl (.inl rfl) (SnC.cons (Sn.pure rfl) (SnC.cons (Sn.pure rfl) (SnC.cons (Sn.pure rfl) (SnC.cons (Sn.pure rfl) (SnC.cons (Sn.pure rfl) (SnC.cons (Sn.pure rfl) (SnC.cons (Sn.pure rfl) (SnC.cons (Sn.pure rfl) (SnC.cons (Sn.pure rfl) (SnC.cons (Sn.pure rfl) (SnC.cons (Sn.pure rfl) (SnC.cons (Sn.pure rfl) (SnC.cons (Sn.pure rfl) (SnC.cons (Sn.pure rfl) SnC.nil)))))))))))))) (fun h => nomatch h)) SnL.nil) (fiduciallaw59_few_ok n [a, b] v4 hc5)), (List.forall_mem_cons.2 ⟨(callOk_val (l := [3]) (args' := [slT api_Banded.c [a, b]]) rfl (SnL.cons (Sn.hs rfl (.inl rfl) (SnC.cons (Sn.pure rfl) (SnC.cons (Sn.pure rfl) (SnC.cons (Sn.pure rfl) (SnC.cons (Sn.pure rfl) (SnC.cons (Sn.pure rfl) (SnC.cons (Sn.pure rfl) (SnC.cons (Sn.pure rfl) (SnC.cons (Sn.pure rfl) (SnC.cons (Sn.pure rfl) (SnC.cons (Sn.pure rfl) (SnC.cons (Sn.pure rfl) (SnC.cons (Sn.pure rfl) (SnC.cons (Sn.pure rfl) (SnC.cons (Sn.pure rfl) SnC.nil)))))))))))))) (fun h => nomatch h)) SnL.nil) (fiduciallaw59_fits_ok n [a, b] v7 hc8)), ce0⟩)⟩)) ?_
   refine EVO.p1 (.agg (api_Banded.c a)) ?_
   refine EVO.p1 (.agg (api_Banded.c b)) ?_
   refine EVO.e1 (.hs 2 0 2 7) [(2, .own [aI64 a.Grid.X0, aI64 a.Grid.Y0, aI64 a.Grid.Step, aI64 a.Grid.Width, aI64 a.Grid.Height, sI64 a.Grid.Z, sI64 a.Err, aI64 b.Grid.X0, aI64 b.Grid.Y0, aI64 b.Grid.Step, aI64 b.Grid.Width, aI64 b.Grid.Height, sI64 b.Grid.Z, sI64 b.Err])] ?_
   refine EVO.c0 (by kernel_rfl) (callOf_at (by kernel_rfl)) ?_
   refine EVO.p0 (v := aB false) (Eq.trans (b := some (.pure (aB (!v4)))) (by kernel_rfl) (by rw [hb6])) ?_
   refine EVO.p1 (aB false) ?_
   refine EVO.q1 (.agg (api_Banded.c a)) ?_
   refine EVO.q1 (.agg (api_Banded.c b)) ?_
   refine EVO.eff (v := .hs 3 0 2 7) (ws := [(3, .own [aI64 a.Grid.X0, aI64 a.Grid.Y0, aI64 a.Grid.Step, aI64 a.Grid.Width, aI64 a.Grid.Height, sI64 a.Grid.Z, sI64 a.Err, aI64 b.Grid.X0, aI64 b.Grid.Y0, aI64 b.Grid.Step, aI64 b.Grid.Width, aI64 b.Grid.Height, sI64 b.Grid.Z, sI64 b.Err])]) (by kernel_rfl) (by kernel_rfl) ?_
   refine EVO.cal (by kernel_rfl) (by kernel_rfl) (callOf_skip (fun h _ => absurd (show (10 : Nat) = 7 from h) (by decide)) (callOf_at (by kernel_rfl))) ?_
   refine EVO.q1 (aB ((v7 : Int) != 0)) ?_
   refine EVO.p1 (aB ((v7 : Int) != 0)) ?_
   refine EVO.done ?_
   refine CQ.n1 [2, 3, 4, 31] (mkS 136 0 [(2, sU8 less), (3, .hp 0 0), (4, .hp 1 0), (31, aB ((v7 : Int) != 0))]) [.own (api_Banded.c a), .own (api_Banded.c b), .own [aI64 a.Grid.X0, aI64 a.Grid.Y0, aI64 a.Grid.Step, aI64 a.Grid.Width, aI64 a.Grid.Height, sI64 a.Grid.Z, sI64 a.Err, aI64 b.Grid.X0, aI64 b.Grid.Y0, aI64 b.Grid.Step, aI64 b.Grid.Width, aI64 b.Grid.Height, sI64 b.Grid.Z, sI64 b.Err], .own [aI64 a.Grid.X0, aI64 a.Grid.Y0, aI64 a.Grid.Step, aI64 a.Grid.Width, aI64 a.Grid.Height, sI64 a.Grid.Z, sI64 a.Err, aI64 b.Grid.X0, aI64 b.Grid.Y0, aI64 b.Grid.Step, aI64 b.Grid.Width, aI64 b.Grid.Height, sI64 b.Grid.Z, sI64 b.Err]] ?_
   refine CQ.cond (t := (v7 : Int) != 0) (by kernel_rfl) (fun hb9 => ?_) (fun hb9 => ?_)
   ·replace hr := cd_t hb9 hr
    refine CQ.seq ?_
    refine CQ.r0 fine ?_
    refine EVO.p1 (aB true) ?_
    refine EVO.done ?_
    refine CQ.ret ?_
    obtain rfl := Option.some.inj hr
    exact FinQ.r1 [aB true]
   ·replace hr := cd_f hb9 hr
    refine CQ.skip ?_
    refine CQ.seq ?_
    replace hr := bd hr; obtain ⟨v10, hc11, hr⟩ := hr
    refine CQ.region fine (callOf_1 11 [.agg (api_Banded.c a), .agg (api_Banded.c b)] [.own (api_Banded.c a), .own (api_Banded.c b), .own [aI64 a.Grid.X0, aI64 a.Grid.Y0, aI64 a.Grid.Step, aI64 a.Grid.Width, aI64 a.Grid.Height, sI64 a.Grid.Z, sI64 a.Err, aI64 b.Grid.X0, aI64 b.Grid.Y0, aI64 b.Grid.Step, aI64 b.Grid.Width, aI64 b.Grid.Height, sI64 b.Grid.Z, sI64 b.Err], .own [aI64 a.Grid.X0, aI64 a.Grid.Y0, aI64 a.Grid.Step, aI64 a.Grid.Width, aI64 a.Grid.Height, sI64 a.Grid.Z, sI64 a.Err, aI64 b.Grid.X0, aI64 b.Grid.Y0, aI64 b.Grid.Step, aI64 b.Grid.Width, aI64 b.Grid.Height, sI64 b.Grid.Z, sI64 b.Err]] (.loc (.tup [sI64 v10.1, aI64 v10.2]) [] [] 0) (callOk_ref (l := []) (args' := [.agg (api_Banded.c a), .agg (api_Banded.c b)]) (SnL.cons (Sn.pure rfl) (SnL.cons (Sn.pure rfl) SnL.nil)) (change_Compare_ok n a b v10 hc11))) ?_
    refine EVO.p1 (.agg (api_Banded.c a)) ?_
    refine EVO.p1 (.agg (api_Banded.c b)) ?_
    refine EVO.c0 (by kernel_rfl) (callOf_at (by kernel_rfl)) ?_
    refine EVO.p1 (.tup [sI64 v10.1, aI64 v10.2]) ?_
    refine EVO.p1 (sI64 v10.1) ?_
    refine EVO.p1 (aI64 v10.2) ?_
    refine EVO.p1 (sI64 v10.1) ?_
    refine EVO.p1 (aI64 v10.2) ?_
    refine EVO.done ?_
    refine CQ.n1 [2, 3, 4, 7, 8] (mkS 136 0 [(2, sU8 less), (3, .hp 0 0), (4, .hp 1 0), (7, sI64 v10.1), (8, aI64 v10.2)]) [.own (api_Banded.c a), .own (api_Banded.c b), .own [aI64 a.Grid.X0, aI64 a.Grid.Y0, aI64 a.Grid.Step, aI64 a.Grid.Width, aI64 a.Grid.Height, sI64 a.Grid.Z, sI64 a.Err, aI64 b.Grid.X0, aI64 b.Grid.Y0, aI64 b.Grid.Step, aI64 b.Grid.Width, aI64 b.Grid.Height, sI64 b.Grid.Z, sI64 b.Err], .own [aI64 a.Grid.X0, aI64 a.Grid.Y0, aI64 a.Grid.Step, aI64 a.Grid.Width, aI64 a.Grid.Height, sI64 a.Grid.Z, sI64 a.Err, aI64 b.Grid.X0, aI64 b.Grid.Y0, aI64 b.Grid.Step, aI64 b.Grid.Width, aI64 b.Grid.Height, sI64 b.Grid.Z, sI64 b.Err]] ?_
    refine CQ.seq ?_
    replace hr := bd hr; obtain ⟨v12, hc13, hr⟩ := hr
    refine CQ.region fine (callOf_1 11 [.agg (api_Banded.c b), .agg (api_Banded.c a)] [.own (api_Banded.c a), .own (api_Banded.c b), .own [aI64 a.Grid.X0, aI64 a.Grid.Y0, aI64 a.Grid.Step, aI64 a.Grid.Width, aI64 a.Grid.Height, sI64 a.Grid.Z, sI64 a.Err, aI64 b.Grid.X0, aI64 b.Grid.Y0, aI64 b.Grid.Step, aI64 b.Grid.Width, aI64 b.Grid.Height, sI64 b.Grid.Z, sI64 b.Err], .own [aI64 a.Grid.X0, aI64 a.Grid.Y0, aI64 a.Grid.Step, aI64 a.Grid.Width, aI64 a.Grid.Height, sI64 a.Grid.Z, sI64 a.Err, aI64 b.Grid.X0, aI64 b.Grid.Y0, aI64 b.Grid.Step, aI64 b.Grid.Width, aI64 b.Grid.Height, sI64 b.Grid.Z, sI64 b.Err]] (.loc (.tup [sI64 v12.1, aI64 v12.2]) [] [] 0) (callOk_ref (l := []) (args' := [.agg (api_Banded.c b), .agg (api_Banded.c a)]) (SnL.cons (Sn.pure rfl) (SnL.cons (Sn.pure rfl) SnL.nil)) (change_Compare_ok n b a v12 hc13))) ?_
    refine EVO.p1 (.agg (api_Banded.c b)) ?_
    refine EVO.p1 (.agg (api_Banded.c a)) ?_
    refine EVO.c0 (by kernel_rfl) (callOf_at (by kernel_rfl)) ?_
    refine EVO.p1 (.tup [sI64 v12.1, aI64 v12.2]) ?_
    refine EVO.p1 (sI64 v12.1) ?_
    refine EVO.p1 (aI64 v12.2) ?_
    refine EVO.p1 (sI64 v12.1) ?_
    refine EVO.p1 (aI64 v12.2) ?_
    refine EVO.done ?_
    refine CQ.n1 [2, 3, 4, 7, 8, 9, 10] (mkS 136 0 [(2, sU8 less), (3, .hp 0 0), (4, .hp 1 0), (7, sI64 v10.1), (8, aI64 v10.2), (9, sI64 v12.1), (10, aI64 v12.2)]) [.own (api_Banded.c a), .own (api_Banded.c b), .own [aI64 a.Grid.X0, aI64 a.Grid.Y0, aI64 a.Grid.Step, aI64 a.Grid.Width, aI64 a.Grid.Height, sI64 a.Grid.Z, sI64 a.Err, aI64 b.Grid.X0, aI64 b.Grid.Y0, aI64 b.Grid.Step, aI64 b.Grid.Width, aI64 b.Grid.Height, sI64 b.Grid.Z, sI64 b.Err], .own [aI64 a.Grid.X0, aI64 a.Grid.Y0, aI64 a.Grid.Step, aI64 a.Grid.Width, aI64 a.Grid.Height, sI64 a.Grid.Z, sI64 a.Err, aI64 b.Grid.X0, aI64 b.Grid.Y0, aI64 b.Grid.Step, aI64 b.Grid.Width, aI64 b.Grid.Height, sI64 b.Grid.Z, sI64 b.Err]] ?_
    refine CQ.seq ?_
    refine CQ.r0 fine ?_
    refine EVO.p1 (.agg (api_Banded.c b)) ?_
    refine EVO.e1 (.hp 4 0) [(4, .own [aI64 0, aI64 0, aI64 0, aI64 0, aI64 0, .at (.slice none 0 0), .at (.slice none 0 0)])] ?_
    refine EVO.e1 (.unk) [(4, .own (api_Banded.c b))] ?_
    refine EVO.done ?_
    refine CQ.n1 [2, 3, 4, 7, 8, 9, 10, 11] (mkS 136 0 [(2, sU8 less), (3, .hp 0 0), (4, .hp 1 0), (7, sI64 v10.1), (8, aI64 v10.2), (9, sI64 v12.1), (10, aI64 v12.2), (11, .hp 4 0)]) [.own (api_Banded.c a), .own (api_Banded.c b), .own [aI64 a.Grid.X0, aI64 a.Grid.Y0, aI64 a.Grid.Step, aI64 a.Grid.Width, aI64 a.Grid.Height, sI64 a.Grid.Z, sI64 a.Err, aI64 b.Grid.X0, aI64 b.Grid.Y0, aI64 b.Grid.Step, aI64 b.Grid.Width, aI64 b.Grid.Height, sI64 b.Grid.Z, sI64 b.Err], .own [aI64 a.Grid.X0, aI64 a.Grid.Y0, aI64 a.Grid.Step, aI64 a.Grid.Width, aI64 a.Grid.Height, sI64 a.Grid.Z, sI64 a.Err, aI64 b.Grid.X0, aI64 b.Grid.Y0, aI64 b.Grid.Step, aI64 b.Grid.Width, aI64 b.Grid.Height, sI64 b.Grid.Z, sI64 b.Err], .own (api_Banded.c b)] ?_
    refine CQ.seq ?_
    replace hr := bd hr; obtain ⟨v14, hc15, hr⟩ := hr
    refine CQ.region fine (callOf_1 13 [sI64 b.Err] [.own (api_Banded.c a), .own (api_Banded.c b), .own [aI64 a.Grid.X0, aI64 a.Grid.Y0, aI64 a.Grid.Step, aI64 a.Grid.Width, aI64 a.Grid.Height, sI64 a.Grid.Z, sI64 a.Err, aI64 b.Grid.X0, aI64 b.Grid.Y0, aI64 b.Grid.Step, aI64 b.Grid.Width, aI64 b.Grid.Height, sI64 b.Grid.Z, sI64 b.Err], .own [aI64 a.Grid.X0, aI64 a.Grid.Y0, aI64 a.Grid.Step, aI64 a.Grid.Width, aI64 a.Grid.Height, sI64 a.Grid.Z, sI64 a.Err, aI64 b.Grid.X0, aI64 b.Grid.Y0, aI64 b.Grid.Step, aI64 b.Grid.Width, aI64 b.Grid.Height, sI64 b.Grid.Z, sI64 b.Err], .own (api_Banded.c b)] (.loc (.hs 5 0 v14.length 1) [(5, .own (v14.flatMap (iC .i64)))] [] 1) (callOk_new (l := []) (args' := [sI64 b.Err]) (SnL.cons (Sn.pure rfl) SnL.nil) (slices_Clone_int_int_new n b.Err v14 hc15))) ?_
    refine EVO.p1 (.hp 1 6) ?_
    refine EVO.p1 (sI64 b.Err) ?_
    refine EVO.c0 (by kernel_rfl) (callOf_at (by kernel_rfl)) ?_
    refine EVO.p1 (.hp 4 6) ?_
    refine EVO.e1 (.unk) [(4, .own [aI64 b.Grid.X0, aI64 b.Grid.Y0, aI64 b.Grid.Step, aI64 b.Grid.Width, aI64 b.Grid.Height, sI64 b.Grid.Z, .hs 5 0 v14.length 1])] ?_
    refine EVO.done ?_
    refine CQ.n1 [2, 3, 4, 7, 8, 9, 10, 11] (mkS 136 0 [(2, sU8 less), (3, .hp 0 0), (4, .hp 1 0), (7, sI64 v10.1), (8, aI64 v10.2), (9, sI64 v12.1), (10, aI64 v12.2), (11, .hp 4 0)]) [.own (api_Banded.c a), .own (api_Banded.c b), .own [aI64 a.Grid.X0, aI64 a.Grid.Y0, aI64 a.Grid.Step, aI64 a.Grid.Width, aI64 a.Grid.Height, sI64 a.Grid.Z, sI64 a.Err, aI64 b.Grid.X0, aI64 b.Grid.Y0, aI64 b.Grid.Step, aI64 b.Grid.Width, aI64 b.Grid.Height, sI64 b.Grid.Z, sI64 b.Err], .own [aI64 a.Grid.X0, aI64 a.Grid.Y0, aI64 a.Grid.Step, aI64 a.Grid.Width, aI64 a.Grid.Height, sI64 a.Grid.Z, sI64 a.Err, aI64 b.Grid.X0, aI64 b.Grid.Y0, aI64 b.Grid.Step, aI64 b.Grid.Width, aI64 b.Grid.Height, sI64 b.Grid.Z, sI64 b.Err], .own [aI64 b.Grid.X0, aI64 b.Grid.Y0, aI64 b.Grid.Step, aI64 b.Grid.Width, aI64 b.Grid.Height, sI64 b.Grid.Z, .hs 5 0 v14.length 1], .own (v14.flatMap (iC .i64))] ?_
    refine CQ.seq ?_
    refine CQ.seq ?_
    refine CQ.r0 fine ?_
    refine EVO.p1 (sU8 less) ?_
    refine EVO.p1 (aI64 (less.length : Int)) ?_
    refine EVO.p1 (.hp 1 6) ?_
    refine EVO.p1 (sI64 b.Err) ?_
    refine EVO.p1 (aI64 (b.Err.length : Int)) ?_
    refine EVO.p1 (aI64 (mn (less.length : Int) (b.Err.length : Int))) ?_
    refine EVO.p1 (aI64 0) ?_
    refine EVO.done ?_
    refine CQ.n1 [2, 3, 4, 7, 8, 9, 10, 11, 54, 55] (mkS 136 0 [(2, sU8 less), (3, .hp 0 0), (4, .hp 1 0), (7, sI64 v10.1), (8, aI64 v10.2), (9, sI64 v12.1), (10, aI64 v12.2), (11, .hp 4 0), (54, aI64 (mn (less.length : Int) (b.Err.length : Int))), (55, aI64 0)]) [.own (api_Banded.c a), .own (api_Banded.c b), .own [aI64 a.Grid.X0, aI64 a.Grid.Y0, aI64 a.Grid.Step, aI64 a.Grid.Width, aI64 a.Grid.Height, sI64 a.Grid.Z, sI64 a.Err, aI64 b.Grid.X0, aI64 b.Grid.Y0, aI64 b.Grid.Step, aI64 b.Grid.Width, aI64 b.Grid.Height, sI64 b.Grid.Z, sI64 b.Err], .own [aI64 a.Grid.X0, aI64 a.Grid.Y0, aI64 a.Grid.Step, aI64 a.Grid.Width, aI64 a.Grid.Height, sI64 a.Grid.Z, sI64 a.Err, aI64 b.Grid.X0, aI64 b.Grid.Y0, aI64 b.Grid.Step, aI64 b.Grid.Width, aI64 b.Grid.Height, sI64 b.Grid.Z, sI64 b.Err], .own [aI64 b.Grid.X0, aI64 b.Grid.Y0, aI64 b.Grid.Step, aI64 b.Grid.Width, aI64 b.Grid.Height, sI64 b.Grid.Z, .hs 5 0 v14.length 1], .own (v14.flatMap (iC .i64))] ?_
    refine CQ.block ?_
    replace hr := bd hr; obtain ⟨sharp_22, hL29, hr⟩ := hr
    refine CQ.loopO (σ := fun z0 => match z0 with | (sharp_16, x_17) => ⟨mkS 136 0 [(2, sU8 less), (3, .hp 0 0), (4, .hp 1 0), (7, sI64 v10.1), (8, aI64 v10.2), (9, sI64 v12.1), (10, aI64 v12.2), (11, .hp 2 0), (54, aI64 (mn (less.length : Int) (b.Err.length : Int))), (55, aI64 x_17)], [.own (api_Banded.c a), .own (api_Banded.c b), .own [aI64 b.Grid.X0, aI64 b.Grid.Y0, aI64 b.Grid.Step, aI64 b.Grid.Width, aI64 b.Grid.Height, sI64 b.Grid.Z, .hs 3 0 sharp_16.length 1], .own (sharp_16.flatMap (iC .i64))]⟩) (Q := fun x st' => x = .exit 0 ∧ Wk st' ⟨mkS 136 0 [(3, .hp 0 0), (7, sI64 v10.1), (8, aI64 v10.2), (9, sI64 v12.1), (10, aI64 v12.2), (11, .hp 1 0)], [.own (api_Banded.c a), .own [aI64 b.Grid.X0, aI64 b.Grid.Y0, aI64 b.Grid.Step, aI64 b.Grid.Width, aI64 b.Grid.Height, sI64 b.Grid.Z, .hs 2 0 sharp_22.length 1], .own (sharp_22.flatMap (iC .i64))]⟩) hL29 ((Wk.gc [2, 3, 4, 7, 8, 9, 10, 11, 54, 55] [(0, true), (1, true), (4, true), (5, false)] rfl ⟨ids_flat (iC_pure _) _, trivial⟩).to (by kernel_rfl)) ?_ ?_
    ·clear hr
     rintro m ⟨sharp_16, x_17⟩ hr
     show CQ _ _ _ _ ⟨_, _⟩
     refine CQ.seq ?_
     refine CQ.r0 fine ?_
     refine EVO.p1 (aB (decide (x_17 < (mn (less.length : Int) (b.Err.length : Int))))) ?_
     refine EVO.done ?_
     refine CQ.seq ?_
     refine CQ.cond (t := decide (x_17 < (mn (less.length : Int) (b.Err.length : Int)))) (by kernel_rfl) (fun hb24 => ?_) (fun hb24 => ?_)
     ·replace hr := cd_t hb24 hr
      refine CQ.skip ?_
      refine CQ.seq ?_
      refine CQ.block ?_
      refine CQ.seq ?_
      refine CQ.r0 fine ?_
      refine EVO.p1 (aI64 x_17) ?_
      refine EVO.p1 (aI64 x_17) ?_
      refine EVO.done ?_
      refine CQ.n1 [2, 3, 4, 7, 8, 9, 10, 11, 12, 54, 55] (mkS 136 0 [(2, sU8 less), (3, .hp 0 0), (4, .hp 1 0), (7, sI64 v10.1), (8, aI64 v10.2), (9, sI64 v12.1), (10, aI64 v12.2), (11, .hp 2 0), (12, aI64 x_17), (54, aI64 (mn (less.length : Int) (b.Err.length : Int))), (55, aI64 x_17)]) [.own (api_Banded.c a), .own (api_Banded.c b), .own [aI64 b.Grid.X0, aI64 b.Grid.Y0, aI64 b.Grid.Step, aI64 b.Grid.Width, aI64 b.Grid.Height, sI64 b.Grid.Z, .hs 3 0 sharp_16.length 1], .own (sharp_16.flatMap (iC .i64))] ?_
      replace hr := gd hr; obtain ⟨hg25, hr⟩ := hr
      replace hr := gd hr; obtain ⟨hg26, hr⟩ := hr
      replace hr := gd hr; obtain ⟨hg27, hr⟩ := hr
      refine CQ.regionT fine callOf_nil ?_
      refine EVT.p1 (.hp 2 6) ?_
      refine EVT.p1 (.hs 3 0 sharp_16.length 1) ?_
      refine EVT.p1 (aI64 x_17) ?_
      refine EVT.p1 (.hp 1 6) ?_
      refine EVT.p1 (sI64 b.Err) ?_
      refine EVT.p1 (aI64 x_17) ?_
      refine EVT.pure (v := .pp (b.Err.flatMap (iC .i64)) (x_17.toNat * 1)) (by kernel_rfl) (Eq.trans (b := ORes.ofP (guardV (inR x_17 b.Err.length) (.pp (b.Err.flatMap (iC .i64)) (x_17.toNat * 1)))) (by kernel_rfl) (ofP_guard hg25)) (by kernel_rfl) ?_
      refine EVT.pure (v := aI64 (gt b.Err x_17)) (by kernel_rfl) (Eq.trans (b := ORes.ofP ((b.Err.flatMap (iC .i64))[x_17.toNat * 1]?)) (by kernel_rfl) (ofP_some (flat_get (iC_len _) (inR_lt hg25) (by decide : 0 < 1) (by omega : x_17.toNat * 1 = x_17.toNat * 1 + 0) (by kernel_rfl)))) (by kernel_rfl) ?_
      refine EVT.p1 (sU8 less) ?_
      refine EVT.p1 (aI64 x_17) ?_
      refine EVT.pure (v := .pp (less.flatMap (iC .u8)) (x_17.toNat * 1)) (by kernel_rfl) (Eq.trans (b := ORes.ofP (guardV (inR x_17 less.length) (.pp (less.flatMap (iC .u8)) (x_17.toNat * 1)))) (by kernel_rfl) (ofP_guard hg26)) (by kernel_rfl) ?_
      refine EVT.pure (v := aU8 (gt less x_17)) (by kernel_rfl) (Eq.trans (b := ORes.ofP ((less.flatMap (iC .u8))[x_17.toNat * 1]?)) (by kernel_rfl) (ofP_some (flat_get (iC_len _) (inR_lt hg26) (by decide : 0 < 1) (by omega : x_17.toNat * 1 = x_17.toNat * 1 + 0) (by kernel_rfl)))) (by kernel_rfl) ?_
      refine EVT.p1 (aI64 (wrapF .i64 (gt less x_17))) ?_
      refine EVT.p1 (aI64 (wrapF .i64 ((gt b.Err x_17) * (wrapF .i64 (gt less x_17))))) ?_
      refine EVT.p1 (aI64 (wrapF .i64 ((wrapF .i64 ((gt b.Err x_17) * (wrapF .i64 (gt less x_17)))).tdiv 255))) ?_
      refine EVT.pure (v := .hp 3 (0 + x_17.toNat * 1)) (by kernel_rfl) (Eq.trans (b := ORes.ofP (guardV (inR x_17 sharp_16.length) (.hp 3 (0 + x_17.toNat * 1)))) (by kernel_rfl) (ofP_guard hg27)) (by kernel_rfl) ?_
      refine EVT.eff (v := .unk) (ws := [(3, .own ((sharp_16.set x_17.toNat (wrapF .i64 ((wrapF .i64 ((gt b.Err x_17) * (wrapF .i64 (gt less x_17)))).tdiv 255))).flatMap (iC .i64)))]) (by kernel_rfl) (Eq.trans (b := stO (decide ((0 + x_17.toNat * 1) + 1 ≤ (sharp_16.flatMap (iC .i64)).length) && true) [(3, .own (setCells (sharp_16.flatMap (iC .i64)) (0 + x_17.toNat * 1) [aI64 (wrapF .i64 ((wrapF .i64 ((gt b.Err x_17) * (wrapF .i64 (gt less x_17)))).tdiv 255))]))]) (by kernel_rfl) (stO_t (and_t (flat_fits (iC_len _) (inR_lt hg27) (Nat.le_of_ble_eq_true rfl) (by omega : 0 + x_17.toNat * 1 = x_17.toNat * 1 + 0))) (congrArg Blk.own (flat_set (iC_len _) (inR_lt hg27) (Nat.le_of_ble_eq_true rfl) (by omega : 0 + x_17.toNat * 1 = x_17.toNat * 1 + 0) (by kernel_rfl))))) (by kernel_rfl) ?_
      refine EVT.done ⟨by kernel_rfl, ?_⟩
      refine CQ.pop ?_
      refine CQ.r0 fine ?_
      refine EVO.p1 (aI64 (wrapF .i64 (x_17 + 1))) ?_
      refine EVO.p1 (aI64 (wrapF .i64 (x_17 + 1))) ?_
      refine EVO.done ?_
      exact loopF_back (sharp_16.set x_17.toNat (wrapF .i64 ((wrapF .i64 ((gt b.Err x_17) * (wrapF .i64 (gt less x_17)))).tdiv 255)), wrapF .i64 (x_17 + 1)) hr ((Wk.recell 2 6 (b := 3) (es := 1) (len := sharp_16.length) (cs := [aI64 b.Grid.X0, aI64 b.Grid.Y0, aI64 b.Grid.Step, aI64 b.Grid.Width, aI64 b.Grid.Height, sI64 b.Grid.Z, .hs 3 0 sharp_16.length 1]) (sharp_16.set x_17.toNat (wrapF .i64 ((wrapF .i64 ((gt b.Err x_17) * (wrapF .i64 (gt less x_17)))).tdiv 255))).length (by kernel_rfl) (by kernel_rfl) (by simp)).trans ((Wk.gc [2, 3, 4, 7, 8, 9, 10, 11, 54, 55] [(0, true), (1, true), (2, true), (3, false)] rfl ⟨ids_flat (iC_pure _) _, trivial⟩).to (by kernel_rfl)))
     ·replace hr := cd_f hb24 hr
      refine CQ.leave rfl ?_
      obtain rfl := Option.some.inj hr
      exact ⟨rfl, ((Wk.gc [3, 7, 8, 9, 10, 11] [(0, true), (2, true), (3, false)] rfl ⟨ids_flat (iC_pure _) _, trivial⟩).to (by kernel_rfl))⟩
    ·rintro x st' hq30
     clear hL29
     obtain ⟨rfl, hq30⟩ := hq30
     refine CQ_exit _ rfl ?_
     refine CQ.wk hq30 ?_
     refine CQ.seq ?_
     replace hr := bd hr; obtain ⟨v31, hc32, hr⟩ := hr
     refine CQ.region fine (callOf_1 11 [.agg (api_Banded.c a), .agg [aI64 b.Grid.X0, aI64 b.Grid.Y0, aI64 b.Grid.Step, aI64 b.Grid.Width, aI64 b.Grid.Height, sI64 b.Grid.Z, .hs 2 0 sharp_22.length 1]] [.own (api_Banded.c a), .own [aI64 b.Grid.X0, aI64 b.Grid.Y0, aI64 b.Grid.Step, aI64 b.Grid.Width, aI64 b.Grid.Height, sI64 b.Grid.Z, .hs 2 0 sharp_22.length 1], .own (sharp_22.flatMap (iC .i64))] (.loc (.tup [sI64 v31.1, aI64 v31.2]) [(2, .fix (sharp_22.flatMap (iC .i64)))] [2] 0) (callOk_ref (l := [2]) (args' := [.agg (api_Banded.c a), .agg (api_Banded.c (api_Banded.mk b.Grid sharp_22))]) (SnL.cons (Sn.pure rfl) (SnL.cons (Sn.agg (SnL.cons (Sn.pure rfl) (SnL.cons (Sn.pure rfl) (SnL.cons (Sn.pure rfl) (SnL.cons (Sn.pure rfl) (SnL.cons (Sn.pure rfl) (SnL.cons (Sn.pure rfl) (SnL.cons (Sn.hs rfl (.inl rfl) (SnC.pure (ids_flat (iC_pure _) _)) (fun h => flat_nil0 h)) SnL.nil)))))))) SnL.nil)) (change_Compare_ok n a (api_Banded.mk b.Grid sharp_22) v31 hc32))) ?_
     refine EVO.p1 (.agg (api_Banded.c a)) ?_
     refine EVO.p1 (.agg [aI64 b.Grid.X0, aI64 b.Grid.Y0, aI64 b.Grid.Step, aI64 b.Grid.Width, aI64 b.Grid.Height, sI64 b.Grid.Z, .hs 2 0 sharp_22.length 1]) ?_
     refine EVO.c0 (by kernel_rfl) (callOf_at (by kernel_rfl)) ?_
     refine EVO.p1 (.tup [sI64 v31.1, aI64 v31.2]) ?_
     refine EVO.p1 (sI64 v31.1) ?_
     refine EVO.p1 (aI64 v31.2) ?_
     refine EVO.p1 (sI64 v31.1) ?_
     refine EVO.p1 (aI64 v31.2) ?_
     refine EVO.done ?_
     refine CQ.n1 [7, 8, 9, 10, 13, 14] (mkS 136 0 [(7, sI64 v10.1), (8, aI64 v10.2), (9, sI64 v12.1), (10, aI64 v12.2), (13, sI64 v31.1), (14, aI64 v31.2)]) [.own (api_Banded.c a), .own [aI64 b.Grid.X0, aI64 b.Grid.Y0, aI64 b.Grid.Step, aI64 b.Grid.Width, aI64 b.Grid.Height, sI64 b.Grid.Z, .hs 2 0 sharp_22.length 1], .fix (sharp_22.flatMap (iC .i64))] ?_
     refine CQ.seq ?_
     refine CQ.seq ?_
     rcases Bool.eq_false_or_eq_true ((v10.2 : Int) != 0) with hb33 | hb33
     ·replace hr := cd_t hb33 hr
      refine CQ.r0 fine ?_
      refine EVO.p1 (aI64 v10.2) ?_
      refine EVO.p0 (v := aB true) (Eq.trans (b := some (.pure (aB ((v10.2 : Int) != 0)))) (by kernel_rfl) (by rw [hb33])) ?_
      refine EVO.p1 (aB true) ?_
      refine EVO.s1 ?_
      refine EVO.s1 ?_
      refine EVO.p1 (aB true) ?_
      refine EVO.p1 (aB true) ?_
      refine EVO.s1 ?_
      refine EVO.s1 ?_
      refine EVO.p1 (aB true) ?_
      refine EVO.p1 (aB true) ?_
      refine EVO.s1 ?_
      refine EVO.s1 ?_
      refine EVO.s1 ?_
      refine EVO.s1 ?_
      refine EVO.s1 ?_
      refine EVO.p1 (aB true) ?_
      refine EVO.p1 (aB true) ?_
      refine EVO.s1 ?_
      refine EVO.s1 ?_
      refine EVO.s1 ?_
      refine EVO.s1 ?_
      refine EVO.s1 ?_
      refine EVO.p1 (aB true) ?_
      refine EVO.done ?_
      refine CQ.n1 [7, 9, 13, 104] (mkS 136 0 [(7, sI64 v10.1), (9, sI64 v12.1), (13, sI64 v31.1), (104, aB true)]) [.own (api_Banded.c a), .own [aI64 b.Grid.X0, aI64 b.Grid.Y0, aI64 b.Grid.Step, aI64 b.Grid.Width, aI64 b.Grid.Height, sI64 b.Grid.Z, .hs 2 0 sharp_22.length 1], .fix (sharp_22.flatMap (iC .i64))] ?_
      refine CQ.cT (by kernel_rfl) ?_
      refine CQ.seq ?_
      refine CQ.r0 fine ?_
      refine EVO.p1 (aB false) ?_
      refine EVO.done ?_
      refine CQ.ret ?_
      obtain rfl := Option.some.inj hr
      exact FinQ.r1 [aB false]
     ·replace hr := cd_f hb33 hr
      rcases Bool.eq_false_or_eq_true ((v12.2 : Int) != 0) with hb34 | hb34
      ·replace hr := cd_t hb34 hr
       refine CQ.r0 fine ?_
       refine EVO.p1 (aI64 v10.2) ?_
       refine EVO.p0 (v := aB false) (Eq.trans (b := some (.pure (aB ((v10.2 : Int) != 0)))) (by kernel_rfl) (by rw [hb33])) ?_
       refine EVO.p1 (aB false) ?_
       refine EVO.q1 (aI64 v12.2) ?_
       refine EVO.pure (v := aB true) (by kernel_rfl) (Eq.trans (b := some (.pure (aB ((v12.2 : Int) != 0)))) (by kernel_rfl) (by rw [hb34])) ?_
       refine EVO.p1 (aB true) ?_
       refine EVO.p1 (aB true) ?_
       refine EVO.s1 ?_
       refine EVO.s1 ?_
       refine EVO.p1 (aB true) ?_
       refine EVO.p1 (aB true) ?_
       refine EVO.s1 ?_
       refine EVO.s1 ?_
       refine EVO.s1 ?_
       refine EVO.s1 ?_
       refine EVO.s1 ?_
       refine EVO.p1 (aB true) ?_
       refine EVO.p1 (aB true) ?_
       refine EVO.s1 ?_
       refine EVO.s1 ?_
       refine EVO.s1 ?_
       refine EVO.s1 ?_
       refine EVO.s1 ?_
       refine EVO.p1 (aB true) ?_
       refine EVO.done ?_
       refine CQ.n1 [7, 9, 13, 104] (mkS 136 0 [(7, sI64 v10.1), (9, sI64 v12.1), (13, sI64 v31.1), (104, aB true)]) [.own (api_Banded.c a), .own [aI64 b.Grid.X0, aI64 b.Grid.Y0, aI64 b.Grid.Step, aI64 b.Grid.Width, aI64 b.Grid.Height, sI64 b.Grid.Z, .hs 2 0 sharp_22.length 1], .fix (sharp_22.flatMap (iC .i64))] ?_
       refine CQ.cT (by kernel_rfl) ?_
       refine CQ.seq ?_
       refine CQ.r0 fine ?_
       refine EVO.p1 (aB false) ?_
       refine EVO.done ?_
       refine CQ.ret ?_
       obtain rfl := Option.some.inj hr
       exact FinQ.r1 [aB false]
      ·replace hr := cd_f hb34 hr
       rcases Bool.eq_false_or_eq_true ((v31.2 : Int) != 0) with hb35 | hb35
       ·replace hr := cd_t hb35 hr
        refine CQ.r0 fine ?_
        refine EVO.p1 (aI64 v10.2) ?_
        refine EVO.p0 (v := aB false) (Eq.trans (b := some (.pure (aB ((v10.2 : Int) != 0)))) (by kernel_rfl) (by rw [hb33])) ?_
        refine EVO.p1 (aB false) ?_
        refine EVO.q1 (aI64 v12.2) ?_
        refine EVO.pure (v := aB false) (by kernel_rfl) (Eq.trans (b := some (.pure (aB ((v12.2 : Int) != 0)))) (by kernel_rfl) (by rw [hb34])) ?_
        refine EVO.p1 (aB false) ?_
        refine EVO.p1 (aB false) ?_
        refine EVO.q1 (aI64 v31.2) ?_
        refine EVO.pure (v := aB true) (by kernel_rfl) (Eq.trans (b := some (.pure (aB ((v31.2 : Int) != 0)))) (by kernel_rfl) (by rw [hb35])) ?_
        refine EVO.p1 (aB true) ?_
        refine EVO.p1 (aB true) ?_
        refine EVO.s1 ?_
        refine EVO.s1 ?_
        refine EVO.s1 ?_
        refine EVO.s1 ?_
        refine EVO.s1 ?_
        refine EVO.p1 (aB true) ?_
        refine EVO.p1 (aB true) ?_
        refine EVO.s1 ?_
        refine EVO.s1 ?_
        refine EVO.s1 ?_
        refine EVO.s1 ?_
        refine EVO.s1 ?_
        refine EVO.p1 (aB true) ?_
        refine EVO.done ?_
        refine CQ.n1 [7, 9, 13, 104] (mkS 136 0 [(7, sI64 v10.1), (9, sI64 v12.1), (13, sI64 v31.1), (104, aB true)]) [.own (api_Banded.c a), .own [aI64 b.Grid.X0, aI64 b.Grid.Y0, aI64 b.Grid.Step, aI64 b.Grid.Width, aI64 b.Grid.Height, sI64 b.Grid.Z, .hs 2 0 sharp_22.length 1], .fix (sharp_22.flatMap (iC .i64))] ?_
        refine CQ.cT (by kernel_rfl) ?_
        refine CQ.seq ?_
        refine CQ.r0 fine ?_
        refine EVO.p1 (aB false) ?_
        refine EVO.done ?_
        refine CQ.ret ?_
        obtain rfl := Option.some.inj hr
        exact FinQ.r1 [aB false]
       ·replace hr := cd_f hb35 hr
        rcases Bool.eq_false_or_eq_true (((v10.1.length : Int) : Int) != (v12.1.length : Int)) with hb36 | hb36
        ·replace hr := cd_t hb36 hr
         refine CQ.r0 fine ?_
         refine EVO.p1 (aI64 v10.2) ?_
         refine EVO.p0 (v := aB false) (Eq.trans (b := some (.pure (aB ((v10.2 : Int) != 0)))) (by kernel_rfl) (by rw [hb33])) ?_
         refine EVO.p1 (aB false) ?_
         refine EVO.q1 (aI64 v12.2) ?_
         refine EVO.pure (v := aB false) (by kernel_rfl) (Eq.trans (b := some (.pure (aB ((v12.2 : Int) != 0)))) (by kernel_rfl) (by rw [hb34])) ?_
         refine EVO.p1 (aB false) ?_
         refine EVO.p1 (aB false) ?_
         refine EVO.q1 (aI64 v31.2) ?_
         refine EVO.pure (v := aB false) (by kernel_rfl) (Eq.trans (b := some (.pure (aB ((v31.2 : Int) != 0)))) (by kernel_rfl) (by rw [hb35])) ?_
         refine EVO.p1 (aB false) ?_
         refine EVO.p1 (aB false) ?_
         refine EVO.q1 (sI64 v10.1) ?_
         refine EVO.q1 (aI64 (v10.1.length : Int)) ?_
         refine EVO.q1 (sI64 v12.1) ?_
         refine EVO.q1 (aI64 (v12.1.length : Int)) ?_
         refine EVO.pure (v := aB true) (by kernel_rfl) (Eq.trans (b := some (.pure (aB (((v10.1.length : Int) : Int) != (v12.1.length : Int))))) (by kernel_rfl) (by rw [hb36])) ?_
         refine EVO.p1 (aB true) ?_
         refine EVO.p1 (aB true) ?_
         refine EVO.s1 ?_
         refine EVO.s1 ?_
         refine EVO.s1 ?_
         refine EVO.s1 ?_
         refine EVO.s1 ?_
         refine EVO.p1 (aB true) ?_
         refine EVO.done ?_
         refine CQ.n1 [7, 9, 13, 104] (mkS 136 0 [(7, sI64 v10.1), (9, sI64 v12.1), (13, sI64 v31.1), (104, aB true)]) [.own (api_Banded.c a), .own [aI64 b.Grid.X0, aI64 b.Grid.Y0, aI64 b.Grid.Step, aI64 b.Grid.Width, aI64 b.Grid.Height, sI64 b.Grid.Z, .hs 2 0 sharp_22.length 1], .fix (sharp_22.flatMap (iC .i64))] ?_
         refine CQ.cT (by kernel_rfl) ?_
         refine CQ.seq ?_
         refine CQ.r0 fine ?_
         refine EVO.p1 (aB false) ?_
         refine EVO.done ?_
         refine CQ.ret ?_
         obtain rfl := Option.some.inj hr
         exact FinQ.r1 [aB false]
        ·replace hr := cd_f hb36 hr
         refine CQ.r0 fine ?_
         refine EVO.p1 (aI64 v10.2) ?_
         refine EVO.p0 (v := aB false) (Eq.trans (b := some (.pure (aB ((v10.2 : Int) != 0)))) (by kernel_rfl) (by rw [hb33])) ?_
         refine EVO.p1 (aB false) ?_
         refine EVO.q1 (aI64 v12.2) ?_
         refine EVO.pure (v := aB false) (by kernel_rfl) (Eq.trans (b := some (.pure (aB ((v12.2 : Int) != 0)))) (by kernel_rfl) (by rw [hb34])) ?_
         refine EVO.p1 (aB false) ?_
         refine EVO.p1 (aB false) ?_
         refine EVO.q1 (aI64 v31.2) ?_
         refine EVO.pure (v := aB false) (by kernel_rfl) (Eq.trans (b := some (.pure (aB ((v31.2 : Int) != 0)))) (by kernel_rfl) (by rw [hb35])) ?_
         refine EVO.p1 (aB false) ?_
         refine EVO.p1 (aB false) ?_
         refine EVO.q1 (sI64 v10.1) ?_
         refine EVO.q1 (aI64 (v10.1.length : Int)) ?_
         refine EVO.q1 (sI64 v12.1) ?_
         refine EVO.q1 (aI64 (v12.1.length : Int)) ?_
         refine EVO.pure (v := aB false) (by kernel_rfl) (Eq.trans (b := some (.pure (aB (((v10.1.length : Int) : Int) != (v12.1.length : Int))))) (by kernel_rfl) (by rw [hb36])) ?_
         refine EVO.p1 (aB false) ?_
         refine EVO.p1 (aB false) ?_
         refine EVO.q1 (sI64 v10.1) ?_
         refine EVO.q1 (aI64 (v10.1.length : Int)) ?_
         refine EVO.q1 (sI64 v31.1) ?_
         refine EVO.q1 (aI64 (v31.1.length : Int)) ?_
         refine EVO.q1 (aB (((v10.1.length : Int) : Int) != (v31.1.length : Int))) ?_
         refine EVO.p1 (aB (((v10.1.length : Int) : Int) != (v31.1.length : Int))) ?_
         refine EVO.done ?_
         refine CQ.n1 [7, 9, 13, 104] (mkS 136 0 [(7, sI64 v10.1), (9, sI64 v12.1), (13, sI64 v31.1), (104, aB (((v10.1.length : Int) : Int) != (v31.1.length : Int)))]) [.own (api_Banded.c a), .own [aI64 b.Grid.X0, aI64 b.Grid.Y0, aI64 b.Grid.Step, aI64 b.Grid.Width, aI64 b.Grid.Height, sI64 b.Grid.Z, .hs 2 0 sharp_22.length 1], .fix (sharp_22.flatMap (iC .i64))] ?_
         refine CQ.cond (t := ((v10.1.length : Int) : Int) != (v31.1.length : Int)) (by kernel_rfl) (fun hb37 => ?_) (fun hb37 => ?_)
         ·replace hr := cd_t hb37 hr
          refine CQ.seq ?_
          refine CQ.r0 fine ?_
          refine EVO.p1 (aB false) ?_
          refine EVO.done ?_
          refine CQ.ret ?_
          obtain rfl := Option.some.inj hr
          exact FinQ.r1 [aB false]
         ·replace hr := cd_f hb37 hr
          refine CQ.skip ?_
          refine CQ.seq ?_
          refine CQ.seq ?_
          refine CQ.r0 fine ?_
          refine EVO.p1 (sI64 v10.1) ?_
          refine EVO.p1 (aI64 (v10.1.length : Int)) ?_
          refine EVO.p1 (aI64 0) ?_
          refine EVO.done ?_
          refine CQ.n1 [9, 13, 105, 106, 107] (mkS 136 0 [(9, sI64 v12.1), (13, sI64 v31.1), (105, sI64 v10.1), (106, aI64 (v10.1.length : Int)), (107, aI64 0)]) [.own (api_Banded.c a), .own [aI64 b.Grid.X0, aI64 b.Grid.Y0, aI64 b.Grid.Step, aI64 b.Grid.Width, aI64 b.Grid.Height, sI64 b.Grid.Z, .hs 2 0 sharp_22.length 1], .fix (sharp_22.flatMap (iC .i64))] ?_
          refine CQ.block ?_
          replace hr := bd hr; obtain ⟨o90, hL91, hr⟩ := hr
          refine CQ.loopO (σ := fun z0 => match z0 with | x_38 => ⟨mkS 136 0 [(9, sI64 v12.1), (13, sI64 v31.1), (105, sI64 v10.1), (106, aI64 (v10.1.length : Int)), (107, aI64 x_38)], []⟩) (Q := fun x st' => match (generalizing := false) o90 with | .inl _ => x = .exit 2 ∧ Wk st' ⟨mkS 136 0 [], []⟩ | .inr (r0) => x = .ret ∧ FinQ Try.prog [.tmp 6] (aB r0) .ret st') hL91 ((Wk.gc [9, 13, 105, 106, 107] [] rfl trivial).to (by kernel_rfl)) ?_ ?_
          ·clear hr
           rintro m x_38 hr
           show CQ _ _ _ _ ⟨_, _⟩
           refine CQ.seq ?_
           refine CQ.r0 fine ?_
           refine EVO.p1 (aB (decide (x_38 < (v10.1.length : Int)))) ?_
           refine EVO.done ?_
           refine CQ.seq ?_
           refine CQ.cond (t := decide (x_38 < (v10.1.length : Int))) (by kernel_rfl) (fun hb65 => ?_) (fun hb65 => ?_)
           ·replace hr := cd_t hb65 hr
            refine CQ.skip ?_
            refine CQ.seq ?_
            refine CQ.block ?_
            refine CQ.seq ?_
            replace hr := gd hr; obtain ⟨hg66, hr⟩ := hr
            refine CQ.r0 fine ?_
            refine EVO.p1 (aI64 x_38) ?_
            refine EVO.p0 (v := .pp (v10.1.flatMap (iC .i64)) (x_38.toNat * 1)) (Eq.trans (b := ORes.ofP (guardV (inR x_38 v10.1.length) (.pp (v10.1.flatMap (iC .i64)) (x_38.toNat * 1)))) (by kernel_rfl) (ofP_guard hg66)) ?_
            refine EVO.p0 (v := aI64 (gt v10.1 x_38)) (Eq.trans (b := ORes.ofP ((v10.1.flatMap (iC .i64))[x_38.toNat * 1]?)) (by kernel_rfl) (ofP_some (flat_get (iC_len _) (inR_lt hg66) (by decide : 0 < 1) (by omega : x_38.toNat * 1 = x_38.toNat * 1 + 0) (by kernel_rfl)))) ?_
            refine EVO.p1 (aI64 x_38) ?_
            refine EVO.p1 (aI64 (gt v10.1 x_38)) ?_
            refine EVO.done ?_
            refine CQ.n1 [9, 13, 15, 16, 105, 106, 107] (mkS 136 0 [(9, sI64 v12.1), (13, sI64 v31.1), (15, aI64 x_38), (16, aI64 (gt v10.1 x_38)), (105, sI64 v10.1), (106, aI64 (v10.1.length : Int)), (107, aI64 x_38)]) [] ?_
            refine CQ.seq ?_
            refine CQ.r0 fine ?_
            refine EVO.p1 (aI64 (gt v10.1 x_38)) ?_
            refine EVO.p1 (aI64 (gt v10.1 x_38)) ?_
            refine EVO.done ?_
            refine CQ.n1 [9, 13, 15, 16, 17, 105, 106, 107] (mkS 136 0 [(9, sI64 v12.1), (13, sI64 v31.1), (15, aI64 x_38), (16, aI64 (gt v10.1 x_38)), (17, aI64 (gt v10.1 x_38)), (105, sI64 v10.1), (106, aI64 (v10.1.length : Int)), (107, aI64 x_38)]) [] ?_
            refine CQ.seq ?_
            refine CQ.seq ?_
            refine CQ.r0 fine ?_
            refine EVO.p1 (aI64 (gt v10.1 x_38)) ?_
            refine EVO.p1 (aB (((gt v10.1 x_38) : Int) == 1)) ?_
            refine EVO.done ?_
            refine CQ.n1 [9, 13, 15, 16, 17, 105, 106, 107, 114] (mkS 136 0 [(9, sI64 v12.1), (13, sI64 v31.1), (15, aI64 x_38), (16, aI64 (gt v10.1 x_38)), (17, aI64 (gt v10.1 x_38)), (105, sI64 v10.1), (106, aI64 (v10.1.length : Int)), (107, aI64 x_38), (114, aB (((gt v10.1 x_38) : Int) == 1))]) [] ?_
            refine CQ.cond (t := ((gt v10.1 x_38) : Int) == 1) (by kernel_rfl) (fun hb67 => ?_) (fun hb67 => ?_)
            ·replace hr := cd_t hb67 hr
             refine CQ.r0 fine ?_
             refine EVO.p1 (aI64 2) ?_
             refine EVO.done ?_
             refine CQ.n1 [9, 13, 15, 16, 17, 105, 106, 107] (mkS 136 0 [(9, sI64 v12.1), (13, sI64 v31.1), (15, aI64 x_38), (16, aI64 (gt v10.1 x_38)), (17, aI64 2), (105, sI64 v10.1), (106, aI64 (v10.1.length : Int)), (107, aI64 x_38)]) [] ?_
             refine CQ.seq ?_
             refine CQ.seq ?_
             refine CQ.r0 fine ?_
             refine EVO.p1 (aI64 (gt v10.1 x_38)) ?_
             refine EVO.p1 (aB (((gt v10.1 x_38) : Int) == 2)) ?_
             refine EVO.done ?_
             refine CQ.n1 [9, 13, 15, 16, 17, 105, 106, 107, 116] (mkS 136 0 [(9, sI64 v12.1), (13, sI64 v31.1), (15, aI64 x_38), (16, aI64 (gt v10.1 x_38)), (17, aI64 2), (105, sI64 v10.1), (106, aI64 (v10.1.length : Int)), (107, aI64 x_38), (116, aB (((gt v10.1 x_38) : Int) == 2))]) [] ?_
             refine CQ.cond (t := ((gt v10.1 x_38) : Int) == 2) (by kernel_rfl) (fun hb68 => ?_) (fun hb68 => ?_)
             ·replace hr := cd_t hb68 hr
              refine CQ.r0 fine ?_
              refine EVO.p1 (aI64 1) ?_
              refine EVO.done ?_
              refine CQ.n1 [9, 13, 15, 16, 17, 105, 106, 107] (mkS 136 0 [(9, sI64 v12.1), (13, sI64 v31.1), (15, aI64 x_38), (16, aI64 (gt v10.1 x_38)), (17, aI64 1), (105, sI64 v10.1), (106, aI64 (v10.1.length : Int)), (107, aI64 x_38)]) [] ?_
              refine CQ.seq ?_
              replace hr := gd hr; obtain ⟨hg69, hr⟩ := hr
              rcases Bool.eq_false_or_eq_true (((gt v12.1 x_38) : Int) != 1) with hb70 | hb70
              ·replace hr := cd_t hb70 hr
               refine CQ.r0 fine ?_
               refine EVO.p1 (sI64 v12.1) ?_
               refine EVO.p1 (aI64 x_38) ?_
               refine EVO.p0 (v := .pp (v12.1.flatMap (iC .i64)) (x_38.toNat * 1)) (Eq.trans (b := ORes.ofP (guardV (inR x_38 v12.1.length) (.pp (v12.1.flatMap (iC .i64)) (x_38.toNat * 1)))) (by kernel_rfl) (ofP_guard hg69)) ?_
               refine EVO.p0 (v := aI64 (gt v12.1 x_38)) (Eq.trans (b := ORes.ofP ((v12.1.flatMap (iC .i64))[x_38.toNat * 1]?)) (by kernel_rfl) (ofP_some (flat_get (iC_len _) (inR_lt hg69) (by decide : 0 < 1) (by omega : x_38.toNat * 1 = x_38.toNat * 1 + 0) (by kernel_rfl)))) ?_
               refine EVO.p1 (aI64 1) ?_
               refine EVO.p0 (v := aB true) (Eq.trans (b := some (.pure (aB (((gt v12.1 x_38) : Int) != 1)))) (by kernel_rfl) (by rw [hb70])) ?_
               refine EVO.p1 (aB true) ?_
               refine EVO.s1 ?_
               refine EVO.s1 ?_
               refine EVO.s1 ?_
               refine EVO.s1 ?_
               refine EVO.s1 ?_
               refine EVO.s1 ?_
               refine EVO.s1 ?_
               refine EVO.s1 ?_
               refine EVO.s1 ?_
               refine EVO.s1 ?_
               refine EVO.p1 (aB true) ?_
               refine EVO.done ?_
               refine CQ.n1 [9, 13, 105, 106, 107, 134] (mkS 136 0 [(9, sI64 v12.1), (13, sI64 v31.1), (105, sI64 v10.1), (106, aI64 (v10.1.length : Int)), (107, aI64 x_38), (134, aB true)]) [] ?_
               refine CQ.cT (by kernel_rfl) ?_
               refine CQ.seq ?_
               refine CQ.r0 fine ?_
               refine EVO.p1 (aB false) ?_
               refine EVO.done ?_
               refine CQ.ret ?_
               obtain rfl := Option.some.inj hr
               exact ⟨rfl, FinQ.ret (vs := [aB false]) (by kernel_rfl) (Sn.pure rfl)⟩
              ·replace hr := cd_f hb70 hr
               rcases Bool.eq_false_or_eq_true (((gt v10.1 x_38) : Int) != 0) with hb71 | hb71
               ·replace hr := cd_t hb71 hr
                replace hr := gd hr; obtain ⟨hg72, hr⟩ := hr
                refine CQ.r0 fine ?_
                refine EVO.p1 (sI64 v12.1) ?_
                refine EVO.p1 (aI64 x_38) ?_
                refine EVO.p0 (v := .pp (v12.1.flatMap (iC .i64)) (x_38.toNat * 1)) (Eq.trans (b := ORes.ofP (guardV (inR x_38 v12.1.length) (.pp (v12.1.flatMap (iC .i64)) (x_38.toNat * 1)))) (by kernel_rfl) (ofP_guard hg69)) ?_
                refine EVO.p0 (v := aI64 (gt v12.1 x_38)) (Eq.trans (b := ORes.ofP ((v12.1.flatMap (iC .i64))[x_38.toNat * 1]?)) (by kernel_rfl) (ofP_some (flat_get (iC_len _) (inR_lt hg69) (by decide : 0 < 1) (by omega : x_38.toNat * 1 = x_38.toNat * 1 + 0) (by kernel_rfl)))) ?_
                refine EVO.p1 (aI64 1) ?_
                refine EVO.p0 (v := aB false) (Eq.trans (b := some (.pure (aB (((gt v12.1 x_38) : Int) != 1)))) (by kernel_rfl) (by rw [hb70])) ?_
                refine EVO.p1 (aB false) ?_
                refine EVO.q1 (aI64 (gt v10.1 x_38)) ?_
                refine EVO.pure (v := aB true) (by kernel_rfl) (Eq.trans (b := some (.pure (aB (((gt v10.1 x_38) : Int) != 0)))) (by kernel_rfl) (by rw [hb71])) ?_
                refine EVO.q1 (aB true) ?_
                refine EVO.q1 (sI64 v31.1) ?_
                refine EVO.q1 (aI64 x_38) ?_
                refine EVO.pure (v := .pp (v31.1.flatMap (iC .i64)) (x_38.toNat * 1)) (by kernel_rfl) (Eq.trans (b := ORes.ofP (guardV (inR x_38 v31.1.length) (.pp (v31.1.flatMap (iC .i64)) (x_38.toNat * 1)))) (by kernel_rfl) (ofP_guard hg72)) ?_
                refine EVO.pure (v := aI64 (gt v31.1 x_38)) (by kernel_rfl) (Eq.trans (b := ORes.ofP ((v31.1.flatMap (iC .i64))[x_38.toNat * 1]?)) (by kernel_rfl) (ofP_some (flat_get (iC_len _) (inR_lt hg72) (by decide : 0 < 1) (by omega : x_38.toNat * 1 = x_38.toNat * 1 + 0) (by kernel_rfl)))) ?_
                refine EVO.q1 (aI64 (gt v10.1 x_38)) ?_
                refine EVO.q1 (aB (((gt v31.1 x_38) : Int) != (gt v10.1 x_38))) ?_
                refine EVO.q1 (aB (((gt v31.1 x_38) : Int) != (gt v10.1 x_38))) ?_
                refine EVO.p1 (aB (((gt v31.1 x_38) : Int) != (gt v10.1 x_38))) ?_
                refine EVO.done ?_
                refine CQ.n1 [9, 13, 105, 106, 107, 134] (mkS 136 0 [(9, sI64 v12.1), (13, sI64 v31.1), (105, sI64 v10.1), (106, aI64 (v10.1.length : Int)), (107, aI64 x_38), (134, aB (((gt v31.1 x_38) : Int) != (gt v10.1 x_38)))]) [] ?_
                refine CQ.cond (t := ((gt v31.1 x_38) : Int) != (gt v10.1 x_38)) (by kernel_rfl) (fun hb73 => ?_) (fun hb73 => ?_)
                ·replace hr := cd_t hb73 hr
                 refine CQ.seq ?_
                 refine CQ.r0 fine ?_
                 refine EVO.p1 (aB false) ?_
                 refine EVO.done ?_
                 refine CQ.ret ?_
                 obtain rfl := Option.some.inj hr
                 exact ⟨rfl, FinQ.ret (vs := [aB false]) (by kernel_rfl) (Sn.pure rfl)⟩
                ·replace hr := cd_f hb73 hr
                 refine CQ.skip ?_
                 refine CQ.pop ?_
                 refine CQ.r0 fine ?_
                 refine EVO.p1 (aI64 (wrapF .i64 (x_38 + 1))) ?_
                 refine EVO.p1 (aI64 (wrapF .i64 (x_38 + 1))) ?_
                 refine EVO.done ?_
                 exact loopF_back (wrapF .i64 (x_38 + 1)) hr ((Wk.gc [9, 13, 105, 106, 107] [] rfl trivial).to (by kernel_rfl))
               ·replace hr := cd_f hb71 hr
                refine CQ.r0 fine ?_
                refine EVO.p1 (sI64 v12.1) ?_
                refine EVO.p1 (aI64 x_38) ?_
                refine EVO.p0 (v := .pp (v12.1.flatMap (iC .i64)) (x_38.toNat * 1)) (Eq.trans (b := ORes.ofP (guardV (inR x_38 v12.1.length) (.pp (v12.1.flatMap (iC .i64)) (x_38.toNat * 1)))) (by kernel_rfl) (ofP_guard hg69)) ?_
                refine EVO.p0 (v := aI64 (gt v12.1 x_38)) (Eq.trans (b := ORes.ofP ((v12.1.flatMap (iC .i64))[x_38.toNat * 1]?)) (by kernel_rfl) (ofP_some (flat_get (iC_len _) (inR_lt hg69) (by decide : 0 < 1) (by omega : x_38.toNat * 1 = x_38.toNat * 1 + 0) (by kernel_rfl)))) ?_
                refine EVO.p1 (aI64 1) ?_
                refine EVO.p0 (v := aB false) (Eq.trans (b := some (.pure (aB (((gt v12.1 x_38) : Int) != 1)))) (by kernel_rfl) (by rw [hb70])) ?_
                refine EVO.p1 (aB false) ?_
                refine EVO.q1 (aI64 (gt v10.1 x_38)) ?_
                refine EVO.pure (v := aB false) (by kernel_rfl) (Eq.trans (b := some (.pure (aB (((gt v10.1 x_38) : Int) != 0)))) (by kernel_rfl) (by rw [hb71])) ?_
                refine EVO.q1 (aB false) ?_
                refine EVO.s1 ?_
                refine EVO.s1 ?_
                refine EVO.s1 ?_
                refine EVO.s1 ?_
                refine EVO.s1 ?_
                refine EVO.s1 ?_
                refine EVO.q1 (aB false) ?_
                refine EVO.p1 (aB false) ?_
                refine EVO.done ?_
                refine CQ.n1 [9, 13, 105, 106, 107, 134] (mkS 136 0 [(9, sI64 v12.1), (13, sI64 v31.1), (105, sI64 v10.1), (106, aI64 (v10.1.length : Int)), (107, aI64 x_38), (134, aB false)]) [] ?_
                refine CQ.cF (by kernel_rfl) ?_
                refine CQ.skip ?_
                refine CQ.pop ?_
                refine CQ.r0 fine ?_
                refine EVO.p1 (aI64 (wrapF .i64 (x_38 + 1))) ?_
                refine EVO.p1 (aI64 (wrapF .i64 (x_38 + 1))) ?_
                refine EVO.done ?_
                exact loopF_back (wrapF .i64 (x_38 + 1)) hr ((Wk.gc [9, 13, 105, 106, 107] [] rfl trivial).to (by kernel_rfl))
             ·replace hr := cd_f hb68 hr
              refine CQ.skip ?_
              refine CQ.seq ?_
              replace hr := gd hr; obtain ⟨hg74, hr⟩ := hr
              rcases Bool.eq_false_or_eq_true (((gt v12.1 x_38) : Int) != 2) with hb75 | hb75
              ·replace hr := cd_t hb75 hr
               refine CQ.r0 fine ?_
               refine EVO.p1 (sI64 v12.1) ?_
               refine EVO.p1 (aI64 x_38) ?_
               refine EVO.p0 (v := .pp (v12.1.flatMap (iC .i64)) (x_38.toNat * 1)) (Eq.trans (b := ORes.ofP (guardV (inR x_38 v12.1.length) (.pp (v12.1.flatMap (iC .i64)) (x_38.toNat * 1)))) (by kernel_rfl) (ofP_guard hg74)) ?_
               refine EVO.p0 (v := aI64 (gt v12.1 x_38)) (Eq.trans (b := ORes.ofP ((v12.1.flatMap (iC .i64))[x_38.toNat * 1]?)) (by kernel_rfl) (ofP_some (flat_get (iC_len _) (inR_lt hg74) (by decide : 0 < 1) (by omega : x_38.toNat * 1 = x_38.toNat * 1 + 0) (by kernel_rfl)))) ?_
               refine EVO.p1 (aI64 2) ?_
               refine EVO.p0 (v := aB true) (Eq.trans (b := some (.pure (aB (((gt v12.1 x_38) : Int) != 2)))) (by kernel_rfl) (by rw [hb75])) ?_
               refine EVO.p1 (aB true) ?_
               refine EVO.s1 ?_
               refine EVO.s1 ?_
               refine EVO.s1 ?_
               refine EVO.s1 ?_
               refine EVO.s1 ?_
               refine EVO.s1 ?_
               refine EVO.s1 ?_
               refine EVO.s1 ?_
               refine EVO.s1 ?_
               refine EVO.s1 ?_
               refine EVO.p1 (aB true) ?_
               refine EVO.done ?_
               refine CQ.n1 [9, 13, 105, 106, 107, 134] (mkS 136 0 [(9, sI64 v12.1), (13, sI64 v31.1), (105, sI64 v10.1), (106, aI64 (v10.1.length : Int)), (107, aI64 x_38), (134, aB true)]) [] ?_
               refine CQ.cT (by kernel_rfl) ?_
               refine CQ.seq ?_
               refine CQ.r0 fine ?_
               refine EVO.p1 (aB false) ?_
               refine EVO.done ?_
               refine CQ.ret ?_
               obtain rfl := Option.some.inj hr
               exact ⟨rfl, FinQ.ret (vs := [aB false]) (by kernel_rfl) (Sn.pure rfl)⟩
              ·replace hr := cd_f hb75 hr
               rcases Bool.eq_false_or_eq_true (((gt v10.1 x_38) : Int) != 0) with hb76 | hb76
               ·replace hr := cd_t hb76 hr
                replace hr := gd hr; obtain ⟨hg77, hr⟩ := hr
                refine CQ.r0 fine ?_
                refine EVO.p1 (sI64 v12.1) ?_
                refine EVO.p1 (aI64 x_38) ?_
                refine EVO.p0 (v := .pp (v12.1.flatMap (iC .i64)) (x_38.toNat * 1)) (Eq.trans (b := ORes.ofP (guardV (inR x_38 v12.1.length) (.pp (v12.1.flatMap (iC .i64)) (x_38.toNat * 1)))) (by kernel_rfl) (ofP_guard hg74)) ?_
                refine EVO.p0 (v := aI64 (gt v12.1 x_38)) (Eq.trans (b := ORes.ofP ((v12.1.flatMap (iC .i64))[x_38.toNat * 1]?)) (by kernel_rfl) (ofP_some (flat_get (iC_len _) (inR_lt hg74) (by decide : 0 < 1) (by omega : x_38.toNat * 1 = x_38.toNat * 1 + 0) (by kernel_rfl)))) ?_
                refine EVO.p1 (aI64 2) ?_
                refine EVO.p0 (v := aB false) (Eq.trans (b := some (.pure (aB (((gt v12.1 x_38) : Int) != 2)))) (by kernel_rfl) (by rw [hb75])) ?_
                refine EVO.p1 (aB false) ?_
                refine EVO.q1 (aI64 (gt v10.1 x_38)) ?_
                refine EVO.pure (v := aB true) (by kernel_rfl) (Eq.trans (b := some (.pure (aB (((gt v10.1 x_38) : Int) != 0)))) (by kernel_rfl) (by rw [hb76])) ?_
                refine EVO.q1 (aB true) ?_
                refine EVO.q1 (sI64 v31.1) ?_
                refine EVO.q1 (aI64 x_38) ?_
                refine EVO.pure (v := .pp (v31.1.flatMap (iC .i64)) (x_38.toNat * 1)) (by kernel_rfl) (Eq.trans (b := ORes.ofP (guardV (inR x_38 v31.1.length) (.pp (v31.1.flatMap (iC .i64)) (x_38.toNat * 1)))) (by kernel_rfl) (ofP_guard hg77)) ?_
                refine EVO.pure (v := aI64 (gt v31.1 x_38)) (by kernel_rfl) (Eq.trans (b := ORes.ofP ((v31.1.flatMap (iC .i64))[x_38.toNat * 1]?)) (by kernel_rfl) (ofP_some (flat_get (iC_len _) (inR_lt hg77) (by decide : 0 < 1) (by omega : x_38.toNat * 1 = x_38.toNat * 1 + 0) (by kernel_rfl)))) ?_
                refine EVO.q1 (aI64 (gt v10.1 x_38)) ?_
                refine EVO.q1 (aB (((gt v31.1 x_38) : Int) != (gt v10.1 x_38))) ?_
                refine EVO.q1 (aB (((gt v31.1 x_38) : Int) != (gt v10.1 x_38))) ?_
                refine EVO.p1 (aB (((gt v31.1 x_38) : Int) != (gt v10.1 x_38))) ?_
                refine EVO.done ?_
                refine CQ.n1 [9, 13, 105, 106, 107, 134] (mkS 136 0 [(9, sI64 v12.1), (13, sI64 v31.1), (105, sI64 v10.1), (106, aI64 (v10.1.length : Int)), (107, aI64 x_38), (134, aB (((gt v31.1 x_38) : Int) != (gt v10.1 x_38)))]) [] ?_
                refine CQ.cond (t := ((gt v31.1 x_38) : Int) != (gt v10.1 x_38)) (by kernel_rfl) (fun hb78 => ?_) (fun hb78 => ?_)
                ·replace hr := cd_t hb78 hr
                 refine CQ.seq ?_
                 refine CQ.r0 fine ?_
                 refine EVO.p1 (aB false) ?_
                 refine EVO.done ?_
                 refine CQ.ret ?_
                 obtain rfl := Option.some.inj hr
                 exact ⟨rfl, FinQ.ret (vs := [aB false]) (by kernel_rfl) (Sn.pure rfl)⟩
                ·replace hr := cd_f hb78 hr
                 refine CQ.skip ?_
                 refine CQ.pop ?_
                 refine CQ.r0 fine ?_
                 refine EVO.p1 (aI64 (wrapF .i64 (x_38 + 1))) ?_
                 refine EVO.p1 (aI64 (wrapF .i64 (x_38 + 1))) ?_
                 refine EVO.done ?_
                 exact loopF_back (wrapF .i64 (x_38 + 1)) hr ((Wk.gc [9, 13, 105, 106, 107] [] rfl trivial).to (by kernel_rfl))
               ·replace hr := cd_f hb76 hr
                refine CQ.r0 fine ?_
                refine EVO.p1 (sI64 v12.1) ?_
                refine EVO.p1 (aI64 x_38) ?_
                refine EVO.p0 (v := .pp (v12.1.flatMap (iC .i64)) (x_38.toNat * 1)) (Eq.trans (b := ORes.ofP (guardV (inR x_38 v12.1.length) (.pp (v12.1.flatMap (iC .i64)) (x_38.toNat * 1)))) (by kernel_rfl) (ofP_guard hg74)) ?_
                refine EVO.p0 (v := aI64 (gt v12.1 x_38)) (Eq.trans (b := ORes.ofP ((v12.1.flatMap (iC .i64))[x_38.toNat * 1]?)) (by kernel_rfl) (ofP_some (flat_get (iC_len _) (inR_lt hg74) (by decide : 0 < 1) (by omega : x_38.toNat * 1 = x_38.toNat * 1 + 0) (by kernel_rfl)))) ?_
                refine EVO.p1 (aI64 2) ?_
                refine EVO.p0 (v := aB false) (Eq.trans (b := some (.pure (aB (((gt v12.1 x_38) : Int) != 2)))) (by kernel_rfl) (by rw [hb75])) ?_
                refine EVO.p1 (aB false) ?_
                refine EVO.q1 (aI64 (gt v10.1 x_38)) ?_
                refine EVO.pure (v := aB false) (by kernel_rfl) (Eq.trans (b := some (.pure (aB (((gt v10.1 x_38) : Int) != 0)))) (by kernel_rfl) (by rw [hb76])) ?_
                refine EVO.q1 (aB false) ?_
                refine EVO.s1 ?_
                refine EVO.s1 ?_
                refine EVO.s1 ?_
                refine EVO.s1 ?_
                refine EVO.s1 ?_
                refine EVO.s1 ?_
                refine EVO.q1 (aB false) ?_
                refine EVO.p1 (aB false) ?_
                refine EVO.done ?_
                refine CQ.n1 [9, 13, 105, 106, 107, 134] (mkS 136 0 [(9, sI64 v12.1), (13, sI64 v31.1), (105, sI64 v10.1), (106, aI64 (v10.1.length : Int)), (107, aI64 x_38), (134, aB false)]) [] ?_
                refine CQ.cF (by kernel_rfl) ?_
                refine CQ.skip ?_
                refine CQ.pop ?_
                refine CQ.r0 fine ?_
                refine EVO.p1 (aI64 (wrapF .i64 (x_38 + 1))) ?_
                refine EVO.p1 (aI64 (wrapF .i64 (x_38 + 1))) ?_
                refine EVO.done ?_
                exact loopF_back (wrapF .i64 (x_38 + 1)) hr ((Wk.gc [9, 13, 105, 106, 107] [] rfl trivial).to (by kernel_rfl))
            ·replace hr := cd_f hb67 hr
             refine CQ.skip ?_
             refine CQ.seq ?_
             refine CQ.seq ?_
             refine CQ.r0 fine ?_
             refine EVO.p1 (aI64 (gt v10.1 x_38)) ?_
             refine EVO.p1 (aB (((gt v10.1 x_38) : Int) == 2)) ?_
             refine EVO.done ?_
             refine CQ.n1 [9, 13, 15, 16, 17, 105, 106, 107, 116] (mkS 136 0 [(9, sI64 v12.1), (13, sI64 v31.1), (15, aI64 x_38), (16, aI64 (gt v10.1 x_38)), (17, aI64 (gt v10.1 x_38)), (105, sI64 v10.1), (106, aI64 (v10.1.length : Int)), (107, aI64 x_38), (116, aB (((gt v10.1 x_38) : Int) == 2))]) [] ?_
             refine CQ.cond (t := ((gt v10.1 x_38) : Int) == 2) (by kernel_rfl) (fun hb79 => ?_) (fun hb79 => ?_)
             ·replace hr := cd_t hb79 hr
              refine CQ.r0 fine ?_
              refine EVO.p1 (aI64 1) ?_
              refine EVO.done ?_
              refine CQ.n1 [9, 13, 15, 16, 17, 105, 106, 107] (mkS 136 0 [(9, sI64 v12.1), (13, sI64 v31.1), (15, aI64 x_38), (16, aI64 (gt v10.1 x_38)), (17, aI64 1), (105, sI64 v10.1), (106, aI64 (v10.1.length : Int)), (107, aI64 x_38)]) [] ?_
              refine CQ.seq ?_
              replace hr := gd hr; obtain ⟨hg80, hr⟩ := hr
              rcases Bool.eq_false_or_eq_true (((gt v12.1 x_38) : Int) != 1) with hb81 | hb81
              ·replace hr := cd_t hb81 hr
               refine CQ.r0 fine ?_
               refine EVO.p1 (sI64 v12.1) ?_
               refine EVO.p1 (aI64 x_38) ?_
               refine EVO.p0 (v := .pp (v12.1.flatMap (iC .i64)) (x_38.toNat * 1)) (Eq.trans (b := ORes.ofP (guardV (inR x_38 v12.1.length) (.pp (v12.1.flatMap (iC .i64)) (x_38.toNat * 1)))) (by kernel_rfl) (ofP_guard hg80)) ?_
               refine EVO.p0 (v := aI64 (gt v12.1 x_38)) (Eq.trans (b := ORes.ofP ((v12.1.flatMap (iC .i64))[x_38.toNat * 1]?)) (by kernel_rfl) (ofP_some (flat_get (iC_len _) (inR_lt hg80) (by decide : 0 < 1) (by omega : x_38.toNat * 1 = x_38.toNat * 1 + 0) (by kernel_rfl)))) ?_
               refine EVO.p1 (aI64 1) ?_
               refine EVO.p0 (v := aB true) (Eq.trans (b := some (.pure (aB (((gt v12.1 x_38) : Int) != 1)))) (by kernel_rfl) (by rw [hb81])) ?_
               refine EVO.p1 (aB true) ?_
               refine EVO.s1 ?_
               refine EVO.s1 ?_
               refine EVO.s1 ?_
               refine EVO.s1 ?_
               refine EVO.s1 ?_
               refine EVO.s1 ?_
               refine EVO.s1 ?_
               refine EVO.s1 ?_
               refine EVO.s1 ?_
               refine EVO.s1 ?_
               refine EVO.p1 (aB true) ?_
               refine EVO.done ?_
               refine CQ.n1 [9, 13, 105, 106, 107, 134] (mkS 136 0 [(9, sI64 v12.1), (13, sI64 v31.1), (105, sI64 v10.1), (106, aI64 (v10.1.length : Int)), (107, aI64 x_38), (134, aB true)]) [] ?_
               refine CQ.cT (by kernel_rfl) ?_
               refine CQ.seq ?_
               refine CQ.r0 fine ?_
               refine EVO.p1 (aB false) ?_
               refine EVO.done ?_
               refine CQ.ret ?_
               obtain rfl := Option.some.inj hr
               exact ⟨rfl, FinQ.ret (vs := [aB false]) (by kernel_rfl) (Sn.pure rfl)⟩
              ·replace hr := cd_f hb81 hr
               rcases Bool.eq_false_or_eq_true (((gt v10.1 x_38) : Int) != 0) with hb82 | hb82
               ·replace hr := cd_t hb82 hr
                replace hr := gd hr; obtain ⟨hg83, hr⟩ := hr
                refine CQ.r0 fine ?_
                refine EVO.p1 (sI64 v12.1) ?_
                refine EVO.p1 (aI64 x_38) ?_
                refine EVO.p0 (v := .pp (v12.1.flatMap (iC .i64)) (x_38.toNat * 1)) (Eq.trans (b := ORes.ofP (guardV (inR x_38 v12.1.length) (.pp (v12.1.flatMap (iC .i64)) (x_38.toNat * 1)))) (by kernel_rfl) (ofP_guard hg80)) ?_
                refine EVO.p0 (v := aI64 (gt v12.1 x_38)) (Eq.trans (b := ORes.ofP ((v12.1.flatMap (iC .i64))[x_38.toNat * 1]?)) (by kernel_rfl) (ofP_some (flat_get (iC_len _) (inR_lt hg80) (by decide : 0 < 1) (by omega : x_38.toNat * 1 = x_38.toNat * 1 + 0) (by kernel_rfl)))) ?_
                refine EVO.p1 (aI64 1) ?_
                refine EVO.p0 (v := aB false) (Eq.trans (b := some (.pure (aB (((gt v12.1 x_38) : Int) != 1)))) (by kernel_rfl) (by rw [hb81])) ?_
                refine EVO.p1 (aB false) ?_
                refine EVO.q1 (aI64 (gt v10.1 x_38)) ?_
                refine EVO.pure (v := aB true) (by kernel_rfl) (Eq.trans (b := some (.pure (aB (((gt v10.1 x_38) : Int) != 0)))) (by kernel_rfl) (by rw [hb82])) ?_
                refine EVO.q1 (aB true) ?_
                refine EVO.q1 (sI64 v31.1) ?_
                refine EVO.q1 (aI64 x_38) ?_
                refine EVO.pure (v := .pp (v31.1.flatMap (iC .i64)) (x_38.toNat * 1)) (by kernel_rfl) (Eq.trans (b := ORes.ofP (guardV (inR x_38 v31.1.length) (.pp (v31.1.flatMap (iC .i64)) (x_38.toNat * 1)))) (by kernel_rfl) (ofP_guard hg83)) ?_
                refine EVO.pure (v := aI64 (gt v31.1 x_38)) (by kernel_rfl) (Eq.trans (b := ORes.ofP ((v31.1.flatMap (iC .i64))[x_38.toNat * 1]?)) (by kernel_rfl) (ofP_some (flat_get (iC_len _) (inR_lt hg83) (by decide : 0 < 1) (by omega : x_38.toNat * 1 = x_38.toNat * 1 + 0) (by kernel_rfl)))) ?_
                refine EVO.q1 (aI64 (gt v10.1 x_38)) ?_
                refine EVO.q1 (aB (((gt v31.1 x_38) : Int) != (gt v10.1 x_38))) ?_
                refine EVO.q1 (aB (((gt v31.1 x_38) : Int) != (gt v10.1 x_38))) ?_
                refine EVO.p1 (aB (((gt v31.1 x_38) : Int) != (gt v10.1 x_38))) ?_
                refine EVO.done ?_
                refine CQ.n1 [9, 13, 105, 106, 107, 134] (mkS 136 0 [(9, sI64 v12.1), (13, sI64 v31.1), (105, sI64 v10.1), (106, aI64 (v10.1.length : Int)), (107, aI64 x_38), (134, aB (((gt v31.1 x_38) : Int) != (gt v10.1 x_38)))]) [] ?_
                refine CQ.cond (t := ((gt v31.1 x_38) : Int) != (gt v10.1 x_38)) (by kernel_rfl) (fun hb84 => ?_) (fun hb84 => ?_)
                ·replace hr := cd_t hb84 hr
                 refine CQ.seq ?_
                 refine CQ.r0 fine ?_
                 refine EVO.p1 (aB false) ?_
                 refine EVO.done ?_
                 refine CQ.ret ?_
                 obtain rfl := Option.some.inj hr
                 exact ⟨rfl, FinQ.ret (vs := [aB false]) (by kernel_rfl) (Sn.pure rfl)⟩
                ·replace hr := cd_f hb84 hr
                 refine CQ.skip ?_
                 refine CQ.pop ?_
                 refine CQ.r0 fine ?_
                 refine EVO.p1 (aI64 (wrapF .i64 (x_38 + 1))) ?_
                 refine EVO.p1 (aI64 (wrapF .i64 (x_38 + 1))) ?_
                 refine EVO.done ?_
                 exact loopF_back (wrapF .i64 (x_38 + 1)) hr ((Wk.gc [9, 13, 105, 106, 107] [] rfl trivial).to (by kernel_rfl))
               ·replace hr := cd_f hb82 hr
                refine CQ.r0 fine ?_
                refine EVO.p1 (sI64 v12.1) ?_
                refine EVO.p1 (aI64 x_38) ?_
                refine EVO.p0 (v := .pp (v12.1.flatMap (iC .i64)) (x_38.toNat * 1)) (Eq.trans (b := ORes.ofP (guardV (inR x_38 v12.1.length) (.pp (v12.1.flatMap (iC .i64)) (x_38.toNat * 1)))) (by kernel_rfl) (ofP_guard hg80)) ?_
                refine EVO.p0 (v := aI64 (gt v12.1 x_38)) (Eq.trans (b := ORes.ofP ((v12.1.flatMap (iC .i64))[x_38.toNat * 1]?)) (by kernel_rfl) (ofP_some (flat_get (iC_len _) (inR_lt hg80) (by decide : 0 < 1) (by omega : x_38.toNat * 1 = x_38.toNat * 1 + 0) (by kernel_rfl)))) ?_
                refine EVO.p1 (aI64 1) ?_
                refine EVO.p0 (v := aB false) (Eq.trans (b := some (.pure (aB (((gt v12.1 x_38) : Int) != 1)))) (by kernel_rfl) (by rw [hb81])) ?_
                refine EVO.p1 (aB false) ?_
                refine EVO.q1 (aI64 (gt v10.1 x_38)) ?_
                refine EVO.pure (v := aB false) (by kernel_rfl) (Eq.trans (b := some (.pure (aB (((gt v10.1 x_38) : Int) != 0)))) (by kernel_rfl) (by rw [hb82])) ?_
                refine EVO.q1 (aB false) ?_
                refine EVO.s1 ?_
                refine EVO.s1 ?_
                refine EVO.s1 ?_
                refine EVO.s1 ?_
                refine EVO.s1 ?_
                refine EVO.s1 ?_
                refine EVO.q1 (aB false) ?_
                refine EVO.p1 (aB false) ?_
                refine EVO.done ?_
                refine CQ.n1 [9, 13, 105, 106, 107, 134] (mkS 136 0 [(9, sI64 v12.1), (13, sI64 v31.1), (105, sI64 v10.1), (106, aI64 (v10.1.length : Int)), (107, aI64 x_38), (134, aB false)]) [] ?_
                refine CQ.cF (by kernel_rfl) ?_
                refine CQ.skip ?_
                refine CQ.pop ?_
                refine CQ.r0 fine ?_
                refine EVO.p1 (aI64 (wrapF .i64 (x_38 + 1))) ?_
                refine EVO.p1 (aI64 (wrapF .i64 (x_38 + 1))) ?_
                refine EVO.done ?_
                exact loopF_back (wrapF .i64 (x_38 + 1)) hr ((Wk.gc [9, 13, 105, 106, 107] [] rfl trivial).to (by kernel_rfl))
             ·replace hr := cd_f hb79 hr
              refine CQ.skip ?_
              refine CQ.seq ?_
              replace hr := gd hr; obtain ⟨hg85, hr⟩ := hr
              rcases Bool.eq_false_or_eq_true (((gt v12.1 x_38) : Int) != (gt v10.1 x_38)) with hb86 | hb86
              ·replace hr := cd_t hb86 hr
               refine CQ.r0 fine ?_
               refine EVO.p1 (sI64 v12.1) ?_
               refine EVO.p1 (aI64 x_38) ?_
               refine EVO.p0 (v := .pp (v12.1.flatMap (iC .i64)) (x_38.toNat * 1)) (Eq.trans (b := ORes.ofP (guardV (inR x_38 v12.1.length) (.pp (v12.1.flatMap (iC .i64)) (x_38.toNat * 1)))) (by kernel_rfl) (ofP_guard hg85)) ?_
               refine EVO.p0 (v := aI64 (gt v12.1 x_38)) (Eq.trans (b := ORes.ofP ((v12.1.flatMap (iC .i64))[x_38.toNat * 1]?)) (by kernel_rfl) (ofP_some (flat_get (iC_len _) (inR_lt hg85) (by decide : 0 < 1) (by omega : x_38.toNat * 1 = x_38.toNat * 1 + 0) (by kernel_rfl)))) ?_
               refine EVO.p1 (aI64 (gt v10.1 x_38)) ?_
               refine EVO.p0 (v := aB true) (Eq.trans (b := some (.pure (aB (((gt v12.1 x_38) : Int) != (gt v10.1 x_38))))) (by kernel_rfl) (by rw [hb86])) ?_
               refine EVO.p1 (aB true) ?_
               refine EVO.s1 ?_
               refine EVO.s1 ?_
               refine EVO.s1 ?_
               refine EVO.s1 ?_
               refine EVO.s1 ?_
               refine EVO.s1 ?_
               refine EVO.s1 ?_
               refine EVO.s1 ?_
               refine EVO.s1 ?_
               refine EVO.s1 ?_
               refine EVO.p1 (aB true) ?_
               refine EVO.done ?_
               refine CQ.n1 [9, 13, 105, 106, 107, 134] (mkS 136 0 [(9, sI64 v12.1), (13, sI64 v31.1), (105, sI64 v10.1), (106, aI64 (v10.1.length : Int)), (107, aI64 x_38), (134, aB true)]) [] ?_
               refine CQ.cT (by kernel_rfl) ?_
               refine CQ.seq ?_
               refine CQ.r0 fine ?_
               refine EVO.p1 (aB false) ?_
               refine EVO.done ?_
               refine CQ.ret ?_
               obtain rfl := Option.some.inj hr
               exact ⟨rfl, FinQ.ret (vs := [aB false]) (by kernel_rfl) (Sn.pure rfl)⟩
              ·replace hr := cd_f hb86 hr
               rcases Bool.eq_false_or_eq_true (((gt v10.1 x_38) : Int) != 0) with hb87 | hb87
               ·replace hr := cd_t hb87 hr
                replace hr := gd hr; obtain ⟨hg88, hr⟩ := hr
                refine CQ.r0 fine ?_
                refine EVO.p1 (sI64 v12.1) ?_
                refine EVO.p1 (aI64 x_38) ?_
                refine EVO.p0 (v := .pp (v12.1.flatMap (iC .i64)) (x_38.toNat * 1)) (Eq.trans (b := ORes.ofP (guardV (inR x_38 v12.1.length) (.pp (v12.1.flatMap (iC .i64)) (x_38.toNat * 1)))) (by kernel_rfl) (ofP_guard hg85)) ?_
                refine EVO.p0 (v := aI64 (gt v12.1 x_38)) (Eq.trans (b := ORes.ofP ((v12.1.flatMap (iC .i64))[x_38.toNat * 1]?)) (by kernel_rfl) (ofP_some (flat_get (iC_len _) (inR_lt hg85) (by decide : 0 < 1) (by omega : x_38.toNat * 1 = x_38.toNat * 1 + 0) (by kernel_rfl)))) ?_
                refine EVO.p1 (aI64 (gt v10.1 x_38)) ?_
                refine EVO.p0 (v := aB false) (Eq.trans (b := some (.pure (aB (((gt v12.1 x_38) : Int) != (gt v10.1 x_38))))) (by kernel_rfl) (by rw [hb86])) ?_
                refine EVO.p1 (aB false) ?_
                refine EVO.q1 (aI64 (gt v10.1 x_38)) ?_
                refine EVO.pure (v := aB true) (by kernel_rfl) (Eq.trans (b := some (.pure (aB (((gt v10.1 x_38) : Int) != 0)))) (by kernel_rfl) (by rw [hb87])) ?_
                refine EVO.q1 (aB true) ?_
                refine EVO.q1 (sI64 v31.1) ?_
                refine EVO.q1 (aI64 x_38) ?_
                refine EVO.pure (v := .pp (v31.1.flatMap (iC .i64)) (x_38.toNat * 1)) (by kernel_rfl) (Eq.trans (b := ORes.ofP (guardV (inR x_38 v31.1.length) (.pp (v31.1.flatMap (iC .i64)) (x_38.toNat * 1)))) (by kernel_rfl) (ofP_guard hg88)) ?_
                refine EVO.pure (v := aI64 (gt v31.1 x_38)) (by kernel_rfl) (Eq.trans (b := ORes.ofP ((v31.1.flatMap (iC .i64))[x_38.toNat * 1]?)) (by kernel_rfl) (ofP_some (flat_get (iC_len _) (inR_lt hg88) (by decide : 0 < 1) (by omega : x_38.toNat * 1 = x_38.toNat * 1 + 0) (by kernel_rfl)))) ?_
                refine EVO.q1 (aI64 (gt v10.1 x_38)) ?_
                refine EVO.q1 (aB (((gt v31.1 x_38) : Int) != (gt v10.1 x_38))) ?_
                refine EVO.q1 (aB (((gt v31.1 x_38) : Int) != (gt v10.1 x_38))) ?_
                refine EVO.p1 (aB (((gt v31.1 x_38) : Int) != (gt v10.1 x_38))) ?_
                refine EVO.done ?_
                refine CQ.n1 [9, 13, 105, 106, 107, 134] (mkS 136 0 [(9, sI64 v12.1), (13, sI64 v31.1), (105, sI64 v10.1), (106, aI64 (v10.1.length : Int)), (107, aI64 x_38), (134, aB (((gt v31.1 x_38) : Int) != (gt v10.1 x_38)))]) [] ?_
                refine CQ.cond (t := ((gt v31.1 x_38) : Int) != (gt v10.1 x_38)) (by kernel_rfl) (fun hb89 => ?_) (fun hb89 => ?_)
                ·replace hr := cd_t hb89 hr
                 refine CQ.seq ?_
                 refine CQ.r0 fine ?_
                 refine EVO.p1 (aB false) ?_
                 refine EVO.done ?_
                 refine CQ.ret ?_
                 obtain rfl := Option.some.inj hr
                 exact ⟨rfl, FinQ.ret (vs := [aB false]) (by kernel_rfl) (Sn.pure rfl)⟩
                ·replace hr := cd_f hb89 hr
                 refine CQ.skip ?_
                 refine CQ.pop ?_
                 refine CQ.r0 fine ?_
                 refine EVO.p1 (aI64 (wrapF .i64 (x_38 + 1))) ?_
                 refine EVO.p1 (aI64 (wrapF .i64 (x_38 + 1))) ?_
                 refine EVO.done ?_
                 exact loopF_back (wrapF .i64 (x_38 + 1)) hr ((Wk.gc [9, 13, 105, 106, 107] [] rfl trivial).to (by kernel_rfl))
               ·replace hr := cd_f hb87 hr
                refine CQ.r0 fine ?_
                refine EVO.p1 (sI64 v12.1) ?_
                refine EVO.p1 (aI64 x_38) ?_
                refine EVO.p0 (v := .pp (v12.1.flatMap (iC .i64)) (x_38.toNat * 1)) (Eq.trans (b := ORes.ofP (guardV (inR x_38 v12.1.length) (.pp (v12.1.flatMap (iC .i64)) (x_38.toNat * 1)))) (by kernel_rfl) (ofP_guard hg85)) ?_
                refine EVO.p0 (v := aI64 (gt v12.1 x_38)) (Eq.trans (b := ORes.ofP ((v12.1.flatMap (iC .i64))[x_38.toNat * 1]?)) (by kernel_rfl) (ofP_some (flat_get (iC_len _) (inR_lt hg85) (by decide : 0 < 1) (by omega : x_38.toNat * 1 = x_38.toNat * 1 + 0) (by kernel_rfl)))) ?_
                refine EVO.p1 (aI64 (gt v10.1 x_38)) ?_
                refine EVO.p0 (v := aB false) (Eq.trans (b := some (.pure (aB (((gt v12.1 x_38) : Int) != (gt v10.1 x_38))))) (by kernel_rfl) (by rw [hb86])) ?_
                refine EVO.p1 (aB false) ?_
                refine EVO.q1 (aI64 (gt v10.1 x_38)) ?_
                refine EVO.pure (v := aB false) (by kernel_rfl) (Eq.trans (b := some (.pure (aB (((gt v10.1 x_38) : Int) != 0)))) (by kernel_rfl) (by rw [hb87])) ?_
                refine EVO.q1 (aB false) ?_
                refine EVO.s1 ?_
                refine EVO.s1 ?_
                refine EVO.s1 ?_
                refine EVO.s1 ?_
                refine EVO.s1 ?_
                refine EVO.s1 ?_
                refine EVO.q1 (aB false) ?_
                refine EVO.p1 (aB false) ?_
                refine EVO.done ?_
                refine CQ.n1 [9, 13, 105, 106, 107, 134] (mkS 136 0 [(9, sI64 v12.1), (13, sI64 v31.1), (105, sI64 v10.1), (106, aI64 (v10.1.length : Int)), (107, aI64 x_38), (134, aB false)]) [] ?_
                refine CQ.cF (by kernel_rfl) ?_
                refine CQ.skip ?_
                refine CQ.pop ?_
                refine CQ.r0 fine ?_
                refine EVO.p1 (aI64 (wrapF .i64 (x_38 + 1))) ?_
                refine EVO.p1 (aI64 (wrapF .i64 (x_38 + 1))) ?_
                refine EVO.done ?_
                exact loopF_back (wrapF .i64 (x_38 + 1)) hr ((Wk.gc [9, 13, 105, 106, 107] [] rfl trivial).to (by kernel_rfl))
           ·replace hr := cd_f hb65 hr
            refine CQ.leave rfl ?_
            obtain rfl := Option.some.inj hr
            exact ⟨rfl, ((Wk.gc [] [] rfl trivial).to (by kernel_rfl))⟩
          ·rcases o90 with ⟨⟩ | r0
           ·rintro x st' hq92
            clear hL91
            obtain ⟨rfl, hq92⟩ := hq92
            refine CQ_exit _ rfl ?_
            refine CQ.wk hq92 ?_
            refine CQ.seq ?_
            refine CQ.r0 fine ?_
            refine EVO.p1 (aB true) ?_
            refine EVO.done ?_
            refine CQ.ret ?_
            obtain rfl := Option.some.inj hr
            exact FinQ.r1 [aB true]
           ·rintro x st' hq92
            clear hL91
            obtain ⟨rfl, hq92⟩ := hq92
            obtain rfl := Option.some.inj hr
            exact CQ_ret _ hq92
end Go.L
