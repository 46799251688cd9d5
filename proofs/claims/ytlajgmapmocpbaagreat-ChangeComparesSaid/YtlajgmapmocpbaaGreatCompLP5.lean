/- The program's functions compute what the plain Lean programs compute, part 5; printed by a program. -/
import Derived.Test.YtlajgmapmocpbaaGreatCompLP4
import Derived.Test.YtlajgmapmocpbaaGreatL0b
import Derived.Test.YtlajgmapmocpbaaGreatChecked
import Derived.KernelRfl
set_option linter.unusedVariables false
set_option linter.unusedSimpArgs false
set_option maxRecDepth 100000
namespace Go.L
open Go Go.Eng Go.Proofs
theorem fiduciallaw59_ChangeCompares_ok (n : Nat) (a : api_Banded) (b : api_Banded) (r : Bool) (hr : fiduciallaw59_ChangeCompares n a b = some r) : FnOk Tryz.prog 5 [.agg [.at (.int .i64 a.Grid.X0), .at (.int .i64 a.Grid.Y0), .at (.int .i64 a.Grid.Step), .at (.int .i64 a.Grid.Width), .at (.int .i64 a.Grid.Height), slT (iC .i64) a.Grid.Z, slT (iC .i64) a.Err], .agg [.at (.int .i64 b.Grid.X0), .at (.int .i64 b.Grid.Y0), .at (.int .i64 b.Grid.Step), .at (.int .i64 b.Grid.Width), .at (.int .i64 b.Grid.Height), slT (iC .i64) b.Grid.Z, slT (iC .i64) b.Err]] (.at (.bool r)) := by
 unfold fiduciallaw59_ChangeCompares at hr
 refine FnOk.body fine Tryz.func5 (c := (Tryz.f5.body).getD .skip) rfl (s := mkS 132 0 [(0, .agg (api_Banded.c a)), (1, .agg (api_Banded.c b))]) (by kernel_rfl) (rs := [.tmp 4]) rfl ?_
 unfold Tryz.f5
 simp only [Option.getD_some]
 refine CQ.seq ?_
 refine CQ.r0 fine ?_
 refine EVO.e1 (.hp 0 0) [(0, .own (api_Banded.c a))] ?_
 refine EVO.e1 (.hp 1 0) [(1, .own (api_Banded.c b))] ?_
 refine EVO.p1 (aB false) ?_
 refine EVO.done ?_
 refine CQ.n1 [2, 3] (mkS 132 0 [(2, .hp 0 0), (3, .hp 1 0)]) [.own (api_Banded.c a), .own (api_Banded.c b)] ?_
 refine CQ.seq ?_
 refine CQ.seq ?_
 replace hr := bd hr; obtain ⟨v1, hc2, hr⟩ := hr
 refine CQ.region fine (callOf_1 12 [] [.own (api_Banded.c a), .own (api_Banded.c b)] (.loc (aB v1) [] [] 0) (callOk_val (l := []) (args' := []) rfl SnL.nil (fiduciallaw59_known_ok n v1 hc2))) ?_
 refine EVO.c0 (by kernel_rfl) (callOf_at (by kernel_rfl)) ?_
 refine EVO.p1 (aB (!v1)) ?_
 refine EVO.done ?_
 refine CQ.n1 [2, 3, 17] (mkS 132 0 [(2, .hp 0 0), (3, .hp 1 0), (17, aB (!v1))]) [.own (api_Banded.c a), .own (api_Banded.c b)] ?_
 refine CQ.cond (t := !v1) (by kernel_rfl) (fun hb3 => ?_) (fun hb3 => ?_)
 ·replace hr := cd_t hb3 hr
  refine CQ.seq ?_
  refine CQ.r0 fine ?_
  refine EVO.p1 (aB false) ?_
  refine EVO.done ?_
  refine CQ.ret ?_
  obtain rfl := Option.some.inj hr
  exact FinQ.r1 [aB false]
 ·replace hr := cd_f hb3 hr
  refine CQ.skip ?_
  refine CQ.seq ?_
  refine CQ.seq ?_
  replace hr := bd hr; obtain ⟨v4, hc5, hr⟩ := hr
  refine CQ.region fine (callOf_1 13 [.hs 2 0 2 7] [.own (api_Banded.c a), .own (api_Banded.c b), .own [aI64 a.Grid.X0, aI64 a.Grid.Y0, aI64 a.Grid.Step, aI64 a.Grid.Width, aI64 a.Grid.Height, sI64 a.Grid.Z, sI64 a.Err, aI64 b.Grid.X0, aI64 b.Grid.Y0, aI64 b.Grid.Step, aI64 b.Grid.Width, aI64 b.Grid.Height, sI64 b.Grid.Z, sI64 b.Err]] (.loc (aB v4) [] [2] 0) (callOk_val (l := [2]) (args' := [slT api_Banded.c [a, b]]) rfl (SnL.cons (Sn.hs rfl (.inl rfl) (SnC.cons (Sn.pure rfl) (SnC.cons (Sn.pure rfl) (SnC.cons (Sn.pure rfl) (SnC.cons (Sn.pure rfl) (SnC.cons (Sn.pure rfl) (SnC.cons (Sn.pure rfl) (SnC.cons (Sn.pure rfl) (SnC.cons (Sn.pure rfl) (SnC.cons (Sn.pure rfl) (SnC.cons (Sn.pure rfl) (SnC.cons (Sn.pure rfl) (SnC.cons (Sn.pure rfl) (SnC.cons (Sn.pure rfl) (SnC.cons (Sn.pure rfl) SnC.nil)))))))))))))) (fun h => nomatch h)) SnL.nil) (fiduciallaw59_few_ok n [a, b] v4 hc5))) ?_
  refine EVO.p1 (.agg (api_Banded.c a)) ?_
  refine EVO.p1 (.agg (api_Banded.c b)) ?_
  refine EVO.e1 (.hs 2 0 2 7) [(2, .own [aI64 a.Grid.X0, aI64 a.Grid.Y0, aI64 a.Grid.Step, aI64 a.Grid.Width, aI64 a.Grid.Height, sI64 a.Grid.Z, sI64 a.Err, aI64 b.Grid.X0, aI64 b.Grid.Y0, aI64 b.Grid.Step, aI64 b.Grid.Width, aI64 b.Grid.Height, sI64 b.Grid.Z, sI64 b.Err])] ?_
  refine EVO.c0 (by kernel_rfl) (callOf_at (by kernel_rfl)) ?_
  refine EVO.p1 (aB (!v4)) ?_
  refine EVO.done ?_
  refine CQ.n1 [2, 3, 22] (mkS 132 0 [(2, .hp 0 0), (3, .hp 1 0), (22, aB (!v4))]) [.own (api_Banded.c a), .own (api_Banded.c b), .own [aI64 a.Grid.X0, aI64 a.Grid.Y0, aI64 a.Grid.Step, aI64 a.Grid.Width, aI64 a.Grid.Height, sI64 a.Grid.Z, sI64 a.Err, aI64 b.Grid.X0, aI64 b.Grid.Y0, aI64 b.Grid.Step, aI64 b.Grid.Width, aI64 b.Grid.Height, sI64 b.Grid.Z, sI64 b.Err]] ?_
  refine CQ.cond (t := !v4) (by kernel_rfl) (fun hb6 => ?_) (fun hb6 => ?_)
  ·replace hr := cd_t hb6 hr
   refine CQ.seq ?_
   refine CQ.r0 fine ?_
   refine EVO.p1 (aB true) ?_
   refine EVO.done ?_
   refine CQ.ret ?_
   obtain rfl := Option.some.inj hr
   exact FinQ.r1 [aB true]
  ·replace hr := cd_f hb6 hr
   refine CQ.skip ?_
   refine CQ.seq ?_
   replace hr := bd hr; obtain ⟨v7, hc8, hr⟩ := hr
   refine CQ.region fine (callOf_1 25 [.agg (api_Banded.c a), .agg (api_Banded.c b)] [.own (api_Banded.c a), .own (api_Banded.c b), .own [aI64 a.Grid.X0, aI64 a.Grid.Y0, aI64 a.Grid.Step, aI64 a.Grid.Width, aI64 a.Grid.Height, sI64 a.Grid.Z, sI64 a.Err, aI64 b.Grid.X0, aI64 b.Grid.Y0, aI64 b.Grid.Step, aI64 b.Grid.Width, aI64 b.Grid.Height, sI64 b.Grid.Z, sI64 b.Err]] (.loc (.tup [sI64 v7.1, aI64 v7.2]) [] [] 0) (callOk_ref (l := []) (args' := [.agg (api_Banded.c a), .agg (api_Banded.c b)]) (SnL.cons (Sn.pure rfl) (SnL.cons (Sn.pure rfl) SnL.nil)) (change_Compare_ok n a b v7 hc8))) ?_
   refine EVO.p1 (.agg (api_Banded.c a)) ?_
   refine EVO.p1 (.agg (api_Banded.c b)) ?_
   refine EVO.c0 (by kernel_rfl) (callOf_at (by kernel_rfl)) ?_
   refine EVO.p1 (.tup [sI64 v7.1, aI64 v7.2]) ?_
   refine EVO.p1 (sI64 v7.1) ?_
   refine EVO.p1 (aI64 v7.2) ?_
   refine EVO.p1 (sI64 v7.1) ?_
   refine EVO.p1 (aI64 v7.2) ?_
   refine EVO.done ?_
   refine CQ.n1 [2, 3, 5, 6] (mkS 132 0 [(2, .hp 0 0), (3, .hp 1 0), (5, sI64 v7.1), (6, aI64 v7.2)]) [.own (api_Banded.c a), .own (api_Banded.c b), .own [aI64 a.Grid.X0, aI64 a.Grid.Y0, aI64 a.Grid.Step, aI64 a.Grid.Width, aI64 a.Grid.Height, sI64 a.Grid.Z, sI64 a.Err, aI64 b.Grid.X0, aI64 b.Grid.Y0, aI64 b.Grid.Step, aI64 b.Grid.Width, aI64 b.Grid.Height, sI64 b.Grid.Z, sI64 b.Err]] ?_
   refine CQ.seq ?_
   replace hr := bd hr; obtain ⟨v9, hc10, hr⟩ := hr
   refine CQ.region fine (callOf_1 26 [.agg (api_Banded.c a), .agg (api_Banded.c b)] [.own (api_Banded.c a), .own (api_Banded.c b), .own [aI64 a.Grid.X0, aI64 a.Grid.Y0, aI64 a.Grid.Step, aI64 a.Grid.Width, aI64 a.Grid.Height, sI64 a.Grid.Z, sI64 a.Err, aI64 b.Grid.X0, aI64 b.Grid.Y0, aI64 b.Grid.Step, aI64 b.Grid.Width, aI64 b.Grid.Height, sI64 b.Grid.Z, sI64 b.Err]] (.loc (.tup [sI64 v9.1, aI64 v9.2]) [] [] 0) (callOk_ref (l := []) (args' := [.agg (api_Banded.c a), .agg (api_Banded.c b)]) (SnL.cons (Sn.pure rfl) (SnL.cons (Sn.pure rfl) SnL.nil)) (change_Margins_ok n a b v9 hc10))) ?_
   refine EVO.p1 (.agg (api_Banded.c a)) ?_
   refine EVO.p1 (.agg (api_Banded.c b)) ?_
   refine EVO.c0 (by kernel_rfl) (callOf_at (by kernel_rfl)) ?_
   refine EVO.p1 (.tup [sI64 v9.1, aI64 v9.2]) ?_
   refine EVO.p1 (sI64 v9.1) ?_
   refine EVO.p1 (aI64 v9.2) ?_
   refine EVO.p1 (sI64 v9.1) ?_
   refine EVO.p1 (aI64 v9.2) ?_
   refine EVO.done ?_
   refine CQ.n1 [2, 3, 5, 6, 7, 8] (mkS 132 0 [(2, .hp 0 0), (3, .hp 1 0), (5, sI64 v7.1), (6, aI64 v7.2), (7, sI64 v9.1), (8, aI64 v9.2)]) [.own (api_Banded.c a), .own (api_Banded.c b), .own [aI64 a.Grid.X0, aI64 a.Grid.Y0, aI64 a.Grid.Step, aI64 a.Grid.Width, aI64 a.Grid.Height, sI64 a.Grid.Z, sI64 a.Err, aI64 b.Grid.X0, aI64 b.Grid.Y0, aI64 b.Grid.Step, aI64 b.Grid.Width, aI64 b.Grid.Height, sI64 b.Grid.Z, sI64 b.Err]] ?_
   refine CQ.seq ?_
   refine CQ.seq ?_
   replace hr := bd hr; obtain ⟨v11, hc12, hr⟩ := hr
   refine CQ.region fine (callOf_1 15 [.hs 3 0 2 7] [.own (api_Banded.c a), .own (api_Banded.c b), .own [aI64 a.Grid.X0, aI64 a.Grid.Y0, aI64 a.Grid.Step, aI64 a.Grid.Width, aI64 a.Grid.Height, sI64 a.Grid.Z, sI64 a.Err, aI64 b.Grid.X0, aI64 b.Grid.Y0, aI64 b.Grid.Step, aI64 b.Grid.Width, aI64 b.Grid.Height, sI64 b.Grid.Z, sI64 b.Err], .own [aI64 a.Grid.X0, aI64 a.Grid.Y0, aI64 a.Grid.Step, aI64 a.Grid.Width, aI64 a.Grid.Height, sI64 a.Grid.Z, sI64 a.Err, aI64 b.Grid.X0, aI64 b.Grid.Y0, aI64 b.Grid.Step, aI64 b.Grid.Width, aI64 b.Grid.Height, sI64 b.Grid.Z, sI64 b.Err]] (.loc (aI64 v11) [] [3] 0) (callOk_val (l := [3]) (args' := [slT api_Banded.c [a, b]]) rfl (SnL.cons (Sn.hs rfl (.inl rfl) (SnC.cons (Sn.pure rfl) (SnC.cons (Sn.pure rfl) (SnC.cons (Sn.pure rfl) (SnC.cons (Sn.pure rfl) (SnC.cons (Sn.pure rfl) (SnC.cons (Sn.pure rfl) (SnC.cons (Sn.pure rfl) (SnC.cons (Sn.pure rfl) (SnC.cons (Sn.pure rfl) (SnC.cons (Sn.pure rfl) (SnC.cons (Sn.pure rfl) (SnC.cons (Sn.pure rfl) (SnC.cons (Sn.pure rfl) (SnC.cons (Sn.pure rfl) SnC.nil)))))))))))))) (fun h => nomatch h)) SnL.nil) (fiduciallaw59_fits_ok n [a, b] v11 hc12))) ?_
   refine EVO.p1 (.agg (api_Banded.c a)) ?_
   refine EVO.p1 (.agg (api_Banded.c b)) ?_
   refine EVO.e1 (.hs 3 0 2 7) [(3, .own [aI64 a.Grid.X0, aI64 a.Grid.Y0, aI64 a.Grid.Step, aI64 a.Grid.Width, aI64 a.Grid.Height, sI64 a.Grid.Z, sI64 a.Err, aI64 b.Grid.X0, aI64 b.Grid.Y0, aI64 b.Grid.Step, aI64 b.Grid.Width, aI64 b.Grid.Height, sI64 b.Grid.Z, sI64 b.Err])] ?_
   refine EVO.c0 (by kernel_rfl) (callOf_at (by kernel_rfl)) ?_
   refine EVO.p1 (aI64 v11) ?_
   refine EVO.done ?_
   refine CQ.n1 [2, 3, 5, 6, 7, 8, 9] (mkS 132 0 [(2, .hp 0 0), (3, .hp 1 0), (5, sI64 v7.1), (6, aI64 v7.2), (7, sI64 v9.1), (8, aI64 v9.2), (9, aI64 v11)]) [.own (api_Banded.c a), .own (api_Banded.c b), .own [aI64 a.Grid.X0, aI64 a.Grid.Y0, aI64 a.Grid.Step, aI64 a.Grid.Width, aI64 a.Grid.Height, sI64 a.Grid.Z, sI64 a.Err, aI64 b.Grid.X0, aI64 b.Grid.Y0, aI64 b.Grid.Step, aI64 b.Grid.Width, aI64 b.Grid.Height, sI64 b.Grid.Z, sI64 b.Err], .own [aI64 a.Grid.X0, aI64 a.Grid.Y0, aI64 a.Grid.Step, aI64 a.Grid.Width, aI64 a.Grid.Height, sI64 a.Grid.Z, sI64 a.Err, aI64 b.Grid.X0, aI64 b.Grid.Y0, aI64 b.Grid.Step, aI64 b.Grid.Width, aI64 b.Grid.Height, sI64 b.Grid.Z, sI64 b.Err]] ?_
   refine CQ.seq ?_
   refine CQ.r0 fine ?_
   refine EVO.p1 (aI64 v11) ?_
   refine EVO.p1 (aB ((v11 : Int) != 0)) ?_
   refine EVO.done ?_
   refine CQ.n1 [2, 3, 5, 6, 7, 8, 9, 40] (mkS 132 0 [(2, .hp 0 0), (3, .hp 1 0), (5, sI64 v7.1), (6, aI64 v7.2), (7, sI64 v9.1), (8, aI64 v9.2), (9, aI64 v11), (40, aB ((v11 : Int) != 0))]) [.own (api_Banded.c a), .own (api_Banded.c b), .own [aI64 a.Grid.X0, aI64 a.Grid.Y0, aI64 a.Grid.Step, aI64 a.Grid.Width, aI64 a.Grid.Height, sI64 a.Grid.Z, sI64 a.Err, aI64 b.Grid.X0, aI64 b.Grid.Y0, aI64 b.Grid.Step, aI64 b.Grid.Width, aI64 b.Grid.Height, sI64 b.Grid.Z, sI64 b.Err], .own [aI64 a.Grid.X0, aI64 a.Grid.Y0, aI64 a.Grid.Step, aI64 a.Grid.Width, aI64 a.Grid.Height, sI64 a.Grid.Z, sI64 a.Err, aI64 b.Grid.X0, aI64 b.Grid.Y0, aI64 b.Grid.Step, aI64 b.Grid.Width, aI64 b.Grid.Height, sI64 b.Grid.Z, sI64 b.Err]] ?_
   refine CQ.cond (t := (v11 : Int) != 0) (by kernel_rfl) (fun hb13 => ?_) (fun hb13 => ?_)
   ·replace hr := cd_t hb13 hr
    refine CQ.seq ?_
    rcases Bool.eq_false_or_eq_true ((v7.2 : Int) == v11) with hb14 | hb14
    ·replace hr := cd_t hb14 hr
     rcases Bool.eq_false_or_eq_true ((v9.2 : Int) == v11) with hb15 | hb15
     ·replace hr := cd_t hb15 hr
      rcases Bool.eq_false_or_eq_true (((v7.1.length : Int) : Int) == 0) with hb16 | hb16
      ·replace hr := cd_t hb16 hr
       refine CQ.r0 fine ?_
       refine EVO.p1 (aI64 v7.2) ?_
       refine EVO.p1 (aI64 v11) ?_
       refine EVO.p0 (v := aB true) (Eq.trans (b := some (.pure (aB ((v7.2 : Int) == v11)))) (by kernel_rfl) (by rw [hb14])) ?_
       refine EVO.p1 (aB true) ?_
       refine EVO.q1 (aI64 v9.2) ?_
       refine EVO.q1 (aI64 v11) ?_
       refine EVO.pure (v := aB true) (by kernel_rfl) (Eq.trans (b := some (.pure (aB ((v9.2 : Int) == v11)))) (by kernel_rfl) (by rw [hb15])) ?_
       refine EVO.p1 (aB true) ?_
       refine EVO.p1 (aB true) ?_
       refine EVO.q1 (sI64 v7.1) ?_
       refine EVO.q1 (aI64 (v7.1.length : Int)) ?_
       refine EVO.pure (v := aB true) (by kernel_rfl) (Eq.trans (b := some (.pure (aB (((v7.1.length : Int) : Int) == 0)))) (by kernel_rfl) (by rw [hb16])) ?_
       refine EVO.p1 (aB true) ?_
       refine EVO.p1 (aB true) ?_
       refine EVO.q1 (sI64 v9.1) ?_
       refine EVO.q1 (aI64 (v9.1.length : Int)) ?_
       refine EVO.q1 (aB (((v9.1.length : Int) : Int) == 0)) ?_
       refine EVO.p1 (aB (((v9.1.length : Int) : Int) == 0)) ?_
       refine EVO.p1 (aB (((v9.1.length : Int) : Int) == 0)) ?_
       refine EVO.done ?_
       refine CQ.ret ?_
       obtain rfl := Option.some.inj hr
       exact FinQ.r1 [aB (((v9.1.length : Int) : Int) == 0)]
      ·replace hr := cd_f hb16 hr
       refine CQ.r0 fine ?_
       refine EVO.p1 (aI64 v7.2) ?_
       refine EVO.p1 (aI64 v11) ?_
       refine EVO.p0 (v := aB true) (Eq.trans (b := some (.pure (aB ((v7.2 : Int) == v11)))) (by kernel_rfl) (by rw [hb14])) ?_
       refine EVO.p1 (aB true) ?_
       refine EVO.q1 (aI64 v9.2) ?_
       refine EVO.q1 (aI64 v11) ?_
       refine EVO.pure (v := aB true) (by kernel_rfl) (Eq.trans (b := some (.pure (aB ((v9.2 : Int) == v11)))) (by kernel_rfl) (by rw [hb15])) ?_
       refine EVO.p1 (aB true) ?_
       refine EVO.p1 (aB true) ?_
       refine EVO.q1 (sI64 v7.1) ?_
       refine EVO.q1 (aI64 (v7.1.length : Int)) ?_
       refine EVO.pure (v := aB false) (by kernel_rfl) (Eq.trans (b := some (.pure (aB (((v7.1.length : Int) : Int) == 0)))) (by kernel_rfl) (by rw [hb16])) ?_
       refine EVO.p1 (aB false) ?_
       refine EVO.p1 (aB false) ?_
       refine EVO.s1 ?_
       refine EVO.s1 ?_
       refine EVO.s1 ?_
       refine EVO.p1 (aB false) ?_
       refine EVO.p1 (aB false) ?_
       refine EVO.done ?_
       refine CQ.ret ?_
       obtain rfl := Option.some.inj hr
       exact FinQ.r1 [aB false]
     ·replace hr := cd_f hb15 hr
      refine CQ.r0 fine ?_
      refine EVO.p1 (aI64 v7.2) ?_
      refine EVO.p1 (aI64 v11) ?_
      refine EVO.p0 (v := aB true) (Eq.trans (b := some (.pure (aB ((v7.2 : Int) == v11)))) (by kernel_rfl) (by rw [hb14])) ?_
      refine EVO.p1 (aB true) ?_
      refine EVO.q1 (aI64 v9.2) ?_
      refine EVO.q1 (aI64 v11) ?_
      refine EVO.pure (v := aB false) (by kernel_rfl) (Eq.trans (b := some (.pure (aB ((v9.2 : Int) == v11)))) (by kernel_rfl) (by rw [hb15])) ?_
      refine EVO.p1 (aB false) ?_
      refine EVO.p1 (aB false) ?_
      refine EVO.s1 ?_
      refine EVO.s1 ?_
      refine EVO.s1 ?_
      refine EVO.p1 (aB false) ?_
      refine EVO.p1 (aB false) ?_
      refine EVO.s1 ?_
      refine EVO.s1 ?_
      refine EVO.s1 ?_
      refine EVO.p1 (aB false) ?_
      refine EVO.p1 (aB false) ?_
      refine EVO.done ?_
      refine CQ.ret ?_
      obtain rfl := Option.some.inj hr
      exact FinQ.r1 [aB false]
    ·replace hr := cd_f hb14 hr
     refine CQ.r0 fine ?_
     refine EVO.p1 (aI64 v7.2) ?_
     refine EVO.p1 (aI64 v11) ?_
     refine EVO.p0 (v := aB false) (Eq.trans (b := some (.pure (aB ((v7.2 : Int) == v11)))) (by kernel_rfl) (by rw [hb14])) ?_
     refine EVO.p1 (aB false) ?_
     refine EVO.s1 ?_
     refine EVO.s1 ?_
     refine EVO.s1 ?_
     refine EVO.p1 (aB false) ?_
     refine EVO.p1 (aB false) ?_
     refine EVO.s1 ?_
     refine EVO.s1 ?_
     refine EVO.s1 ?_
     refine EVO.p1 (aB false) ?_
     refine EVO.p1 (aB false) ?_
     refine EVO.s1 ?_
     refine EVO.s1 ?_
     refine EVO.s1 ?_
     refine EVO.p1 (aB false) ?_
     refine EVO.p1 (aB false) ?_
     refine EVO.done ?_
     refine CQ.ret ?_
     obtain rfl := Option.some.inj hr
     exact FinQ.r1 [aB false]
   ·replace hr := cd_f hb13 hr
    refine CQ.skip ?_
    refine CQ.seq ?_
    refine CQ.seq ?_
    rcases Bool.eq_false_or_eq_true ((v7.2 : Int) != 0) with hb17 | hb17
    ·replace hr := cd_t hb17 hr
     refine CQ.r0 fine ?_
     refine EVO.p1 (aI64 v7.2) ?_
     refine EVO.p0 (v := aB true) (Eq.trans (b := some (.pure (aB ((v7.2 : Int) != 0)))) (by kernel_rfl) (by rw [hb17])) ?_
     refine EVO.p1 (aB true) ?_
     refine EVO.s1 ?_
     refine EVO.s1 ?_
     refine EVO.p1 (aB true) ?_
     refine EVO.p1 (aB true) ?_
     refine EVO.s1 ?_
     refine EVO.s1 ?_
     refine EVO.s1 ?_
     refine EVO.s1 ?_
     refine EVO.s1 ?_
     refine EVO.s1 ?_
     refine EVO.s1 ?_
     refine EVO.p1 (aB true) ?_
     refine EVO.p1 (aB true) ?_
     refine EVO.s1 ?_
     refine EVO.s1 ?_
     refine EVO.s1 ?_
     refine EVO.s1 ?_
     refine EVO.s1 ?_
     refine EVO.p1 (aB true) ?_
     refine EVO.done ?_
     refine CQ.n1 [2, 3, 5, 7, 80] (mkS 132 0 [(2, .hp 0 0), (3, .hp 1 0), (5, sI64 v7.1), (7, sI64 v9.1), (80, aB true)]) [.own (api_Banded.c a), .own (api_Banded.c b), .own [aI64 a.Grid.X0, aI64 a.Grid.Y0, aI64 a.Grid.Step, aI64 a.Grid.Width, aI64 a.Grid.Height, sI64 a.Grid.Z, sI64 a.Err, aI64 b.Grid.X0, aI64 b.Grid.Y0, aI64 b.Grid.Step, aI64 b.Grid.Width, aI64 b.Grid.Height, sI64 b.Grid.Z, sI64 b.Err], .own [aI64 a.Grid.X0, aI64 a.Grid.Y0, aI64 a.Grid.Step, aI64 a.Grid.Width, aI64 a.Grid.Height, sI64 a.Grid.Z, sI64 a.Err, aI64 b.Grid.X0, aI64 b.Grid.Y0, aI64 b.Grid.Step, aI64 b.Grid.Width, aI64 b.Grid.Height, sI64 b.Grid.Z, sI64 b.Err]] ?_
     refine CQ.cT (by kernel_rfl) ?_
     refine CQ.seq ?_
     refine CQ.r0 fine ?_
     refine EVO.p1 (aB false) ?_
     refine EVO.done ?_
     refine CQ.ret ?_
     obtain rfl := Option.some.inj hr
     exact FinQ.r1 [aB false]
    ·replace hr := cd_f hb17 hr
     rcases Bool.eq_false_or_eq_true ((v9.2 : Int) != 0) with hb18 | hb18
     ·replace hr := cd_t hb18 hr
      refine CQ.r0 fine ?_
      refine EVO.p1 (aI64 v7.2) ?_
      refine EVO.p0 (v := aB false) (Eq.trans (b := some (.pure (aB ((v7.2 : Int) != 0)))) (by kernel_rfl) (by rw [hb17])) ?_
      refine EVO.p1 (aB false) ?_
      refine EVO.q1 (aI64 v9.2) ?_
      refine EVO.pure (v := aB true) (by kernel_rfl) (Eq.trans (b := some (.pure (aB ((v9.2 : Int) != 0)))) (by kernel_rfl) (by rw [hb18])) ?_
      refine EVO.p1 (aB true) ?_
      refine EVO.p1 (aB true) ?_
      refine EVO.s1 ?_
      refine EVO.s1 ?_
      refine EVO.s1 ?_
      refine EVO.s1 ?_
      refine EVO.s1 ?_
      refine EVO.s1 ?_
      refine EVO.s1 ?_
      refine EVO.p1 (aB true) ?_
      refine EVO.p1 (aB true) ?_
      refine EVO.s1 ?_
      refine EVO.s1 ?_
      refine EVO.s1 ?_
      refine EVO.s1 ?_
      refine EVO.s1 ?_
      refine EVO.p1 (aB true) ?_
      refine EVO.done ?_
      refine CQ.n1 [2, 3, 5, 7, 80] (mkS 132 0 [(2, .hp 0 0), (3, .hp 1 0), (5, sI64 v7.1), (7, sI64 v9.1), (80, aB true)]) [.own (api_Banded.c a), .own (api_Banded.c b), .own [aI64 a.Grid.X0, aI64 a.Grid.Y0, aI64 a.Grid.Step, aI64 a.Grid.Width, aI64 a.Grid.Height, sI64 a.Grid.Z, sI64 a.Err, aI64 b.Grid.X0, aI64 b.Grid.Y0, aI64 b.Grid.Step, aI64 b.Grid.Width, aI64 b.Grid.Height, sI64 b.Grid.Z, sI64 b.Err], .own [aI64 a.Grid.X0, aI64 a.Grid.Y0, aI64 a.Grid.Step, aI64 a.Grid.Width, aI64 a.Grid.Height, sI64 a.Grid.Z, sI64 a.Err, aI64 b.Grid.X0, aI64 b.Grid.Y0, aI64 b.Grid.Step, aI64 b.Grid.Width, aI64 b.Grid.Height, sI64 b.Grid.Z, sI64 b.Err]] ?_
      refine CQ.cT (by kernel_rfl) ?_
      refine CQ.seq ?_
      refine CQ.r0 fine ?_
      refine EVO.p1 (aB false) ?_
      refine EVO.done ?_
      refine CQ.ret ?_
      obtain rfl := Option.some.inj hr
      exact FinQ.r1 [aB false]
     ·replace hr := cd_f hb18 hr
      rcases Bool.eq_false_or_eq_true (((v7.1.length : Int) : Int) != (a.Grid.Z.length : Int)) with hb19 | hb19
      ·replace hr := cd_t hb19 hr
       refine CQ.r0 fine ?_
       refine EVO.p1 (aI64 v7.2) ?_
       refine EVO.p0 (v := aB false) (Eq.trans (b := some (.pure (aB ((v7.2 : Int) != 0)))) (by kernel_rfl) (by rw [hb17])) ?_
       refine EVO.p1 (aB false) ?_
       refine EVO.q1 (aI64 v9.2) ?_
       refine EVO.pure (v := aB false) (by kernel_rfl) (Eq.trans (b := some (.pure (aB ((v9.2 : Int) != 0)))) (by kernel_rfl) (by rw [hb18])) ?_
       refine EVO.p1 (aB false) ?_
       refine EVO.p1 (aB false) ?_
       refine EVO.q1 (sI64 v7.1) ?_
       refine EVO.q1 (aI64 (v7.1.length : Int)) ?_
       refine EVO.q1 (.hp 0 0) ?_
       refine EVO.q1 (.hp 0 5) ?_
       refine EVO.q1 (sI64 a.Grid.Z) ?_
       refine EVO.q1 (aI64 (a.Grid.Z.length : Int)) ?_
       refine EVO.pure (v := aB true) (by kernel_rfl) (Eq.trans (b := some (.pure (aB (((v7.1.length : Int) : Int) != (a.Grid.Z.length : Int))))) (by kernel_rfl) (by rw [hb19])) ?_
       refine EVO.p1 (aB true) ?_
       refine EVO.p1 (aB true) ?_
       refine EVO.s1 ?_
       refine EVO.s1 ?_
       refine EVO.s1 ?_
       refine EVO.s1 ?_
       refine EVO.s1 ?_
       refine EVO.p1 (aB true) ?_
       refine EVO.done ?_
       refine CQ.n1 [2, 3, 5, 7, 80] (mkS 132 0 [(2, .hp 0 0), (3, .hp 1 0), (5, sI64 v7.1), (7, sI64 v9.1), (80, aB true)]) [.own (api_Banded.c a), .own (api_Banded.c b), .own [aI64 a.Grid.X0, aI64 a.Grid.Y0, aI64 a.Grid.Step, aI64 a.Grid.Width, aI64 a.Grid.Height, sI64 a.Grid.Z, sI64 a.Err, aI64 b.Grid.X0, aI64 b.Grid.Y0, aI64 b.Grid.Step, aI64 b.Grid.Width, aI64 b.Grid.Height, sI64 b.Grid.Z, sI64 b.Err], .own [aI64 a.Grid.X0, aI64 a.Grid.Y0, aI64 a.Grid.Step, aI64 a.Grid.Width, aI64 a.Grid.Height, sI64 a.Grid.Z, sI64 a.Err, aI64 b.Grid.X0, aI64 b.Grid.Y0, aI64 b.Grid.Step, aI64 b.Grid.Width, aI64 b.Grid.Height, sI64 b.Grid.Z, sI64 b.Err]] ?_
       refine CQ.cT (by kernel_rfl) ?_
       refine CQ.seq ?_
       refine CQ.r0 fine ?_
       refine EVO.p1 (aB false) ?_
       refine EVO.done ?_
       refine CQ.ret ?_
       obtain rfl := Option.some.inj hr
       exact FinQ.r1 [aB false]
      ·replace hr := cd_f hb19 hr
       refine CQ.r0 fine ?_
       refine EVO.p1 (aI64 v7.2) ?_
       refine EVO.p0 (v := aB false) (Eq.trans (b := some (.pure (aB ((v7.2 : Int) != 0)))) (by kernel_rfl) (by rw [hb17])) ?_
       refine EVO.p1 (aB false) ?_
       refine EVO.q1 (aI64 v9.2) ?_
       refine EVO.pure (v := aB false) (by kernel_rfl) (Eq.trans (b := some (.pure (aB ((v9.2 : Int) != 0)))) (by kernel_rfl) (by rw [hb18])) ?_
       refine EVO.p1 (aB false) ?_
       refine EVO.p1 (aB false) ?_
       refine EVO.q1 (sI64 v7.1) ?_
       refine EVO.q1 (aI64 (v7.1.length : Int)) ?_
       refine EVO.q1 (.hp 0 0) ?_
       refine EVO.q1 (.hp 0 5) ?_
       refine EVO.q1 (sI64 a.Grid.Z) ?_
       refine EVO.q1 (aI64 (a.Grid.Z.length : Int)) ?_
       refine EVO.pure (v := aB false) (by kernel_rfl) (Eq.trans (b := some (.pure (aB (((v7.1.length : Int) : Int) != (a.Grid.Z.length : Int))))) (by kernel_rfl) (by rw [hb19])) ?_
       refine EVO.p1 (aB false) ?_
       refine EVO.p1 (aB false) ?_
       refine EVO.q1 (sI64 v9.1) ?_
       refine EVO.q1 (aI64 (v9.1.length : Int)) ?_
       refine EVO.q1 (sI64 v7.1) ?_
       refine EVO.q1 (aI64 (v7.1.length : Int)) ?_
       refine EVO.q1 (aB (((v9.1.length : Int) : Int) != (v7.1.length : Int))) ?_
       refine EVO.p1 (aB (((v9.1.length : Int) : Int) != (v7.1.length : Int))) ?_
       refine EVO.done ?_
       refine CQ.n1 [2, 3, 5, 7, 80] (mkS 132 0 [(2, .hp 0 0), (3, .hp 1 0), (5, sI64 v7.1), (7, sI64 v9.1), (80, aB (((v9.1.length : Int) : Int) != (v7.1.length : Int)))]) [.own (api_Banded.c a), .own (api_Banded.c b), .own [aI64 a.Grid.X0, aI64 a.Grid.Y0, aI64 a.Grid.Step, aI64 a.Grid.Width, aI64 a.Grid.Height, sI64 a.Grid.Z, sI64 a.Err, aI64 b.Grid.X0, aI64 b.Grid.Y0, aI64 b.Grid.Step, aI64 b.Grid.Width, aI64 b.Grid.Height, sI64 b.Grid.Z, sI64 b.Err], .own [aI64 a.Grid.X0, aI64 a.Grid.Y0, aI64 a.Grid.Step, aI64 a.Grid.Width, aI64 a.Grid.Height, sI64 a.Grid.Z, sI64 a.Err, aI64 b.Grid.X0, aI64 b.Grid.Y0, aI64 b.Grid.Step, aI64 b.Grid.Width, aI64 b.Grid.Height, sI64 b.Grid.Z, sI64 b.Err]] ?_
       refine CQ.cond (t := ((v9.1.length : Int) : Int) != (v7.1.length : Int)) (by kernel_rfl) (fun hb20 => ?_) (fun hb20 => ?_)
       ·replace hr := cd_t hb20 hr
        refine CQ.seq ?_
        refine CQ.r0 fine ?_
        refine EVO.p1 (aB false) ?_
        refine EVO.done ?_
        refine CQ.ret ?_
        obtain rfl := Option.some.inj hr
        exact FinQ.r1 [aB false]
       ·replace hr := cd_f hb20 hr
        refine CQ.skip ?_
        refine CQ.seq ?_
        refine CQ.seq ?_
        refine CQ.r0 fine ?_
        refine EVO.p1 (sI64 v7.1) ?_
        refine EVO.p1 (aI64 (v7.1.length : Int)) ?_
        refine EVO.p1 (aI64 0) ?_
        refine EVO.done ?_
        refine CQ.n1 [2, 3, 7, 81, 82, 83] (mkS 132 0 [(2, .hp 0 0), (3, .hp 1 0), (7, sI64 v9.1), (81, sI64 v7.1), (82, aI64 (v7.1.length : Int)), (83, aI64 0)]) [.own (api_Banded.c a), .own (api_Banded.c b), .own [aI64 a.Grid.X0, aI64 a.Grid.Y0, aI64 a.Grid.Step, aI64 a.Grid.Width, aI64 a.Grid.Height, sI64 a.Grid.Z, sI64 a.Err, aI64 b.Grid.X0, aI64 b.Grid.Y0, aI64 b.Grid.Step, aI64 b.Grid.Width, aI64 b.Grid.Height, sI64 b.Grid.Z, sI64 b.Err], .own [aI64 a.Grid.X0, aI64 a.Grid.Y0, aI64 a.Grid.Step, aI64 a.Grid.Width, aI64 a.Grid.Height, sI64 a.Grid.Z, sI64 a.Err, aI64 b.Grid.X0, aI64 b.Grid.Y0, aI64 b.Grid.Step, aI64 b.Grid.Width, aI64 b.Grid.Height, sI64 b.Grid.Z, sI64 b.Err]] ?_
        refine CQ.block ?_
        replace hr := bd hr; obtain ⟨o65, hL66, hr⟩ := hr
        refine CQ.loopO (σ := fun z0 => match z0 with | x_21 => ⟨mkS 132 0 [(2, .hp 0 0), (3, .hp 1 0), (7, sI64 v9.1), (81, sI64 v7.1), (82, aI64 (v7.1.length : Int)), (83, aI64 x_21)], [.own (api_Banded.c a), .own (api_Banded.c b)]⟩) (Q := fun x st' => match (generalizing := false) o65 with | .inl _ => x = .exit 0 ∧ Wk st' ⟨mkS 132 0 [], []⟩ | .inr (r0) => x = .ret ∧ FinQ Tryz.prog [.tmp 4] (aB r0) .ret st') hL66 ((Wk.gc [2, 3, 7, 81, 82, 83] [(0, true), (1, true)] rfl trivial).to (by kernel_rfl)) ?_ ?_
        ·clear hr
         rintro m x_21 hr
         show CQ _ _ _ _ ⟨_, _⟩
         refine CQ.seq ?_
         refine CQ.r0 fine ?_
         refine EVO.p1 (aB (decide (x_21 < (v7.1.length : Int)))) ?_
         refine EVO.done ?_
         refine CQ.seq ?_
         refine CQ.cond (t := decide (x_21 < (v7.1.length : Int))) (by kernel_rfl) (fun hb44 => ?_) (fun hb44 => ?_)
         ·replace hr := cd_t hb44 hr
          refine CQ.skip ?_
          refine CQ.seq ?_
          refine CQ.block ?_
          refine CQ.seq ?_
          replace hr := gd hr; obtain ⟨hg45, hr⟩ := hr
          refine CQ.r0 fine ?_
          refine EVO.p1 (aI64 x_21) ?_
          refine EVO.p0 (v := .pp (v7.1.flatMap (iC .i64)) (x_21.toNat * 1)) (Eq.trans (b := ORes.ofP (guardV (inR x_21 v7.1.length) (.pp (v7.1.flatMap (iC .i64)) (x_21.toNat * 1)))) (by kernel_rfl) (ofP_guard hg45)) ?_
          refine EVO.p0 (v := aI64 (gt v7.1 x_21)) (Eq.trans (b := ORes.ofP ((v7.1.flatMap (iC .i64))[x_21.toNat * 1]?)) (by kernel_rfl) (ofP_some (flat_get (iC_len _) (inR_lt hg45) (by decide : 0 < 1) (by omega : x_21.toNat * 1 = x_21.toNat * 1 + 0) (by kernel_rfl)))) ?_
          refine EVO.p1 (aI64 x_21) ?_
          refine EVO.p1 (aI64 (gt v7.1 x_21)) ?_
          refine EVO.done ?_
          refine CQ.n1 [2, 3, 7, 10, 11, 81, 82, 83] (mkS 132 0 [(2, .hp 0 0), (3, .hp 1 0), (7, sI64 v9.1), (10, aI64 x_21), (11, aI64 (gt v7.1 x_21)), (81, sI64 v7.1), (82, aI64 (v7.1.length : Int)), (83, aI64 x_21)]) [.own (api_Banded.c a), .own (api_Banded.c b)] ?_
          refine CQ.seq ?_
          replace hr := bd hr; obtain ⟨v46, hc47, hr⟩ := hr
          refine CQ.region fine (callOf_1 19 [.agg (api_Banded.c a), .agg (api_Banded.c b), aI64 x_21] [.own (api_Banded.c a), .own (api_Banded.c b)] (.loc (.tup [aI64 v46.1, aI64 v46.2.1, aB v46.2.2]) [] [] 0) (callOk_val (l := []) (args' := [.agg (api_Banded.c a), .agg (api_Banded.c b), aI64 x_21]) rfl (SnL.cons (Sn.pure rfl) (SnL.cons (Sn.pure rfl) (SnL.cons (Sn.pure rfl) SnL.nil))) (fiduciallaw59_both_ok n a b x_21 v46 hc47))) ?_
          refine EVO.p1 (.agg (api_Banded.c a)) ?_
          refine EVO.p1 (.agg (api_Banded.c b)) ?_
          refine EVO.p1 (aI64 x_21) ?_
          refine EVO.c0 (by kernel_rfl) (callOf_at (by kernel_rfl)) ?_
          refine EVO.p1 (.tup [aI64 v46.1, aI64 v46.2.1, aB v46.2.2]) ?_
          refine EVO.p1 (aI64 v46.1) ?_
          refine EVO.p1 (aI64 v46.2.1) ?_
          refine EVO.p1 (aB v46.2.2) ?_
          refine EVO.p1 (aI64 v46.1) ?_
          refine EVO.p1 (aI64 v46.2.1) ?_
          refine EVO.p1 (aB v46.2.2) ?_
          refine EVO.done ?_
          refine CQ.n1 [2, 3, 7, 10, 11, 12, 13, 14, 81, 82, 83] (mkS 132 0 [(2, .hp 0 0), (3, .hp 1 0), (7, sI64 v9.1), (10, aI64 x_21), (11, aI64 (gt v7.1 x_21)), (12, aI64 v46.1), (13, aI64 v46.2.1), (14, aB v46.2.2), (81, sI64 v7.1), (82, aI64 (v7.1.length : Int)), (83, aI64 x_21)]) [.own (api_Banded.c a), .own (api_Banded.c b)] ?_
          refine CQ.seq ?_
          refine CQ.r0 fine ?_
          refine EVO.p1 (aI64 0) ?_
          refine EVO.done ?_
          refine CQ.seq ?_
          refine CQ.seq ?_
          refine CQ.r0 fine ?_
          refine EVO.p1 (aB v46.2.2) ?_
          refine EVO.done ?_
          refine CQ.n1 [2, 3, 7, 10, 11, 12, 13, 15, 81, 82, 83, 96] (mkS 132 0 [(2, .hp 0 0), (3, .hp 1 0), (7, sI64 v9.1), (10, aI64 x_21), (11, aI64 (gt v7.1 x_21)), (12, aI64 v46.1), (13, aI64 v46.2.1), (15, aI64 0), (81, sI64 v7.1), (82, aI64 (v7.1.length : Int)), (83, aI64 x_21), (96, aB v46.2.2)]) [.own (api_Banded.c a), .own (api_Banded.c b)] ?_
          refine CQ.cond (t := v46.2.2) (by kernel_rfl) (fun hb48 => ?_) (fun hb48 => ?_)
          ·replace hr := cd_t hb48 hr
           refine CQ.r0 fine ?_
           refine EVO.p1 (aI64 v46.1) ?_
           refine EVO.p1 (aI64 v46.1) ?_
           refine EVO.p0 (v := aI64 (wrapF .i64 (0 - v46.1))) (Eq.trans (b := some (.pure (aI64 (IntKind.wrap .i64 (0 - v46.1))))) (by kernel_rfl) wrap_at) ?_
           refine EVO.p1 (aI64 (mx v46.1 (wrapF .i64 (0 - v46.1)))) ?_
           refine EVO.p1 (aI64 v46.2.1) ?_
           refine EVO.p1 (aI64 (wrapF .i64 ((mx v46.1 (wrapF .i64 (0 - v46.1))) - v46.2.1))) ?_
           refine EVO.p1 (aI64 (wrapF .i64 ((mx v46.1 (wrapF .i64 (0 - v46.1))) - v46.2.1))) ?_
           refine EVO.done ?_
           refine CQ.n1 [2, 3, 7, 10, 11, 15, 81, 82, 83] (mkS 132 0 [(2, .hp 0 0), (3, .hp 1 0), (7, sI64 v9.1), (10, aI64 x_21), (11, aI64 (gt v7.1 x_21)), (15, aI64 (wrapF .i64 ((mx v46.1 (wrapF .i64 (0 - v46.1))) - v46.2.1))), (81, sI64 v7.1), (82, aI64 (v7.1.length : Int)), (83, aI64 x_21)]) [.own (api_Banded.c a), .own (api_Banded.c b)] ?_
           refine CQ.seq ?_
           replace hr := bd hr; obtain ⟨v49, hc50, hr⟩ := hr
           rcases Bool.eq_false_or_eq_true (((gt v7.1 x_21) : Int) != v49) with hb51 | hb51
           ·replace hr := cd_t hb51 hr
            refine CQ.region fine (callOf_1 27 [.agg (api_Banded.c a), .agg (api_Banded.c b), aI64 x_21] [.own (api_Banded.c a), .own (api_Banded.c b)] (.loc (aI64 v49) [] [] 0) (callOk_val (l := []) (args' := [.agg (api_Banded.c a), .agg (api_Banded.c b), aI64 x_21]) rfl (SnL.cons (Sn.pure rfl) (SnL.cons (Sn.pure rfl) (SnL.cons (Sn.pure rfl) SnL.nil))) (fiduciallaw59_verdict_ok n a b x_21 v49 hc50))) ?_
            refine EVO.p1 (aI64 (gt v7.1 x_21)) ?_
            refine EVO.p1 (.agg (api_Banded.c a)) ?_
            refine EVO.p1 (.agg (api_Banded.c b)) ?_
            refine EVO.p1 (aI64 x_21) ?_
            refine EVO.c0 (by kernel_rfl) (callOf_at (by kernel_rfl)) ?_
            refine EVO.p0 (v := aB true) (Eq.trans (b := some (.pure (aB (((gt v7.1 x_21) : Int) != v49)))) (by kernel_rfl) (by rw [hb51])) ?_
            refine EVO.p1 (aB true) ?_
            refine EVO.s1 ?_
            refine EVO.s1 ?_
            refine EVO.s1 ?_
            refine EVO.s1 ?_
            refine EVO.s1 ?_
            refine EVO.s1 ?_
            refine EVO.p1 (aB true) ?_
            refine EVO.p1 (aB true) ?_
            refine EVO.s1 ?_
            refine EVO.s1 ?_
            refine EVO.s1 ?_
            refine EVO.s1 ?_
            refine EVO.s1 ?_
            refine EVO.s1 ?_
            refine EVO.s1 ?_
            refine EVO.s1 ?_
            refine EVO.s1 ?_
            refine EVO.s1 ?_
            refine EVO.s1 ?_
            refine EVO.s1 ?_
            refine EVO.p1 (aB true) ?_
            refine EVO.done ?_
            refine CQ.n1 [2, 3, 7, 81, 82, 83, 130] (mkS 132 0 [(2, .hp 0 0), (3, .hp 1 0), (7, sI64 v9.1), (81, sI64 v7.1), (82, aI64 (v7.1.length : Int)), (83, aI64 x_21), (130, aB true)]) [.own (api_Banded.c a), .own (api_Banded.c b)] ?_
            refine CQ.cT (by kernel_rfl) ?_
            refine CQ.seq ?_
            refine CQ.r0 fine ?_
            refine EVO.p1 (aB false) ?_
            refine EVO.done ?_
            refine CQ.ret ?_
            obtain rfl := Option.some.inj hr
            exact ⟨rfl, FinQ.ret (vs := [aB false]) (by kernel_rfl) (Sn.pure rfl)⟩
           ·replace hr := cd_f hb51 hr
            replace hr := gd hr; obtain ⟨hg52, hr⟩ := hr
            rcases Bool.eq_false_or_eq_true (((gt v9.1 x_21) : Int) != (wrapF .i64 ((mx v46.1 (wrapF .i64 (0 - v46.1))) - v46.2.1))) with hb53 | hb53
            ·replace hr := cd_t hb53 hr
             refine CQ.region fine (callOf_1 27 [.agg (api_Banded.c a), .agg (api_Banded.c b), aI64 x_21] [.own (api_Banded.c a), .own (api_Banded.c b)] (.loc (aI64 v49) [] [] 0) (callOk_val (l := []) (args' := [.agg (api_Banded.c a), .agg (api_Banded.c b), aI64 x_21]) rfl (SnL.cons (Sn.pure rfl) (SnL.cons (Sn.pure rfl) (SnL.cons (Sn.pure rfl) SnL.nil))) (fiduciallaw59_verdict_ok n a b x_21 v49 hc50))) ?_
             refine EVO.p1 (aI64 (gt v7.1 x_21)) ?_
             refine EVO.p1 (.agg (api_Banded.c a)) ?_
             refine EVO.p1 (.agg (api_Banded.c b)) ?_
             refine EVO.p1 (aI64 x_21) ?_
             refine EVO.c0 (by kernel_rfl) (callOf_at (by kernel_rfl)) ?_
             refine EVO.p0 (v := aB false) (Eq.trans (b := some (.pure (aB (((gt v7.1 x_21) : Int) != v49)))) (by kernel_rfl) (by rw [hb51])) ?_
             refine EVO.p1 (aB false) ?_
             refine EVO.q1 (sI64 v9.1) ?_
             refine EVO.q1 (aI64 x_21) ?_
             refine EVO.pure (v := .pp (v9.1.flatMap (iC .i64)) (x_21.toNat * 1)) (by kernel_rfl) (Eq.trans (b := ORes.ofP (guardV (inR x_21 v9.1.length) (.pp (v9.1.flatMap (iC .i64)) (x_21.toNat * 1)))) (by kernel_rfl) (ofP_guard hg52)) ?_
             refine EVO.pure (v := aI64 (gt v9.1 x_21)) (by kernel_rfl) (Eq.trans (b := ORes.ofP ((v9.1.flatMap (iC .i64))[x_21.toNat * 1]?)) (by kernel_rfl) (ofP_some (flat_get (iC_len _) (inR_lt hg52) (by decide : 0 < 1) (by omega : x_21.toNat * 1 = x_21.toNat * 1 + 0) (by kernel_rfl)))) ?_
             refine EVO.q1 (aI64 (wrapF .i64 ((mx v46.1 (wrapF .i64 (0 - v46.1))) - v46.2.1))) ?_
             refine EVO.pure (v := aB true) (by kernel_rfl) (Eq.trans (b := some (.pure (aB (((gt v9.1 x_21) : Int) != (wrapF .i64 ((mx v46.1 (wrapF .i64 (0 - v46.1))) - v46.2.1)))))) (by kernel_rfl) (by rw [hb53])) ?_
             refine EVO.p1 (aB true) ?_
             refine EVO.p1 (aB true) ?_
             refine EVO.s1 ?_
             refine EVO.s1 ?_
             refine EVO.s1 ?_
             refine EVO.s1 ?_
             refine EVO.s1 ?_
             refine EVO.s1 ?_
             refine EVO.s1 ?_
             refine EVO.s1 ?_
             refine EVO.s1 ?_
             refine EVO.s1 ?_
             refine EVO.s1 ?_
             refine EVO.s1 ?_
             refine EVO.p1 (aB true) ?_
             refine EVO.done ?_
             refine CQ.n1 [2, 3, 7, 81, 82, 83, 130] (mkS 132 0 [(2, .hp 0 0), (3, .hp 1 0), (7, sI64 v9.1), (81, sI64 v7.1), (82, aI64 (v7.1.length : Int)), (83, aI64 x_21), (130, aB true)]) [.own (api_Banded.c a), .own (api_Banded.c b)] ?_
             refine CQ.cT (by kernel_rfl) ?_
             refine CQ.seq ?_
             refine CQ.r0 fine ?_
             refine EVO.p1 (aB false) ?_
             refine EVO.done ?_
             refine CQ.ret ?_
             obtain rfl := Option.some.inj hr
             exact ⟨rfl, FinQ.ret (vs := [aB false]) (by kernel_rfl) (Sn.pure rfl)⟩
            ·replace hr := cd_f hb53 hr
             rcases Bool.eq_false_or_eq_true (((gt v7.1 x_21) : Int) == 1) with hb54 | hb54
             ·replace hr := cd_t hb54 hr
              refine CQ.region fine (callOf_1 27 [.agg (api_Banded.c a), .agg (api_Banded.c b), aI64 x_21] [.own (api_Banded.c a), .own (api_Banded.c b)] (.loc (aI64 v49) [] [] 0) (callOk_val (l := []) (args' := [.agg (api_Banded.c a), .agg (api_Banded.c b), aI64 x_21]) rfl (SnL.cons (Sn.pure rfl) (SnL.cons (Sn.pure rfl) (SnL.cons (Sn.pure rfl) SnL.nil))) (fiduciallaw59_verdict_ok n a b x_21 v49 hc50))) ?_
              refine EVO.p1 (aI64 (gt v7.1 x_21)) ?_
              refine EVO.p1 (.agg (api_Banded.c a)) ?_
              refine EVO.p1 (.agg (api_Banded.c b)) ?_
              refine EVO.p1 (aI64 x_21) ?_
              refine EVO.c0 (by kernel_rfl) (callOf_at (by kernel_rfl)) ?_
              refine EVO.p0 (v := aB false) (Eq.trans (b := some (.pure (aB (((gt v7.1 x_21) : Int) != v49)))) (by kernel_rfl) (by rw [hb51])) ?_
              refine EVO.p1 (aB false) ?_
              refine EVO.q1 (sI64 v9.1) ?_
              refine EVO.q1 (aI64 x_21) ?_
              refine EVO.pure (v := .pp (v9.1.flatMap (iC .i64)) (x_21.toNat * 1)) (by kernel_rfl) (Eq.trans (b := ORes.ofP (guardV (inR x_21 v9.1.length) (.pp (v9.1.flatMap (iC .i64)) (x_21.toNat * 1)))) (by kernel_rfl) (ofP_guard hg52)) ?_
              refine EVO.pure (v := aI64 (gt v9.1 x_21)) (by kernel_rfl) (Eq.trans (b := ORes.ofP ((v9.1.flatMap (iC .i64))[x_21.toNat * 1]?)) (by kernel_rfl) (ofP_some (flat_get (iC_len _) (inR_lt hg52) (by decide : 0 < 1) (by omega : x_21.toNat * 1 = x_21.toNat * 1 + 0) (by kernel_rfl)))) ?_
              refine EVO.q1 (aI64 (wrapF .i64 ((mx v46.1 (wrapF .i64 (0 - v46.1))) - v46.2.1))) ?_
              refine EVO.pure (v := aB false) (by kernel_rfl) (Eq.trans (b := some (.pure (aB (((gt v9.1 x_21) : Int) != (wrapF .i64 ((mx v46.1 (wrapF .i64 (0 - v46.1))) - v46.2.1)))))) (by kernel_rfl) (by rw [hb53])) ?_
              refine EVO.p1 (aB false) ?_
              refine EVO.p1 (aB false) ?_
              refine EVO.q1 (sI64 v9.1) ?_
              refine EVO.q1 (aI64 x_21) ?_
              refine EVO.pure (v := .pp (v9.1.flatMap (iC .i64)) (x_21.toNat * 1)) (by kernel_rfl) (Eq.trans (b := ORes.ofP (guardV (inR x_21 v9.1.length) (.pp (v9.1.flatMap (iC .i64)) (x_21.toNat * 1)))) (by kernel_rfl) (ofP_guard hg52)) ?_
              refine EVO.pure (v := aI64 (gt v9.1 x_21)) (by kernel_rfl) (Eq.trans (b := ORes.ofP ((v9.1.flatMap (iC .i64))[x_21.toNat * 1]?)) (by kernel_rfl) (ofP_some (flat_get (iC_len _) (inR_lt hg52) (by decide : 0 < 1) (by omega : x_21.toNat * 1 = x_21.toNat * 1 + 0) (by kernel_rfl)))) ?_
              refine EVO.q1 (aB (decide ((gt v9.1 x_21) > 0))) ?_
              refine EVO.q1 (aI64 (gt v7.1 x_21)) ?_
              refine EVO.pure (v := aB true) (by kernel_rfl) (Eq.trans (b := some (.pure (aB (((gt v7.1 x_21) : Int) == 1)))) (by kernel_rfl) (by rw [hb54])) ?_
              refine EVO.q1 (aB true) ?_
              refine EVO.s1 ?_
              refine EVO.s1 ?_
              refine EVO.q1 (aB true) ?_
              refine EVO.q1 (aB ((decide ((gt v9.1 x_21) > 0)) != true)) ?_
              refine EVO.p1 (aB ((decide ((gt v9.1 x_21) > 0)) != true)) ?_
              refine EVO.done ?_
              refine CQ.n1 [2, 3, 7, 81, 82, 83, 130] (mkS 132 0 [(2, .hp 0 0), (3, .hp 1 0), (7, sI64 v9.1), (81, sI64 v7.1), (82, aI64 (v7.1.length : Int)), (83, aI64 x_21), (130, aB ((decide ((gt v9.1 x_21) > 0)) != true))]) [.own (api_Banded.c a), .own (api_Banded.c b)] ?_
              refine CQ.cond (t := (decide ((gt v9.1 x_21) > 0)) != true) (by kernel_rfl) (fun hb55 => ?_) (fun hb55 => ?_)
              ·replace hr := cd_t hb55 hr
               refine CQ.seq ?_
               refine CQ.r0 fine ?_
               refine EVO.p1 (aB false) ?_
               refine EVO.done ?_
               refine CQ.ret ?_
               obtain rfl := Option.some.inj hr
               exact ⟨rfl, FinQ.ret (vs := [aB false]) (by kernel_rfl) (Sn.pure rfl)⟩
              ·replace hr := cd_f hb55 hr
               refine CQ.skip ?_
               refine CQ.pop ?_
               refine CQ.r0 fine ?_
               refine EVO.p1 (aI64 (wrapF .i64 (x_21 + 1))) ?_
               refine EVO.p1 (aI64 (wrapF .i64 (x_21 + 1))) ?_
               refine EVO.done ?_
               exact loopF_back (wrapF .i64 (x_21 + 1)) hr ((Wk.gc [2, 3, 7, 81, 82, 83] [(0, true), (1, true)] rfl trivial).to (by kernel_rfl))
             ·replace hr := cd_f hb54 hr
              refine CQ.region fine (callOf_1 27 [.agg (api_Banded.c a), .agg (api_Banded.c b), aI64 x_21] [.own (api_Banded.c a), .own (api_Banded.c b)] (.loc (aI64 v49) [] [] 0) (callOk_val (l := []) (args' := [.agg (api_Banded.c a), .agg (api_Banded.c b), aI64 x_21]) rfl (SnL.cons (Sn.pure rfl) (SnL.cons (Sn.pure rfl) (SnL.cons (Sn.pure rfl) SnL.nil))) (fiduciallaw59_verdict_ok n a b x_21 v49 hc50))) ?_
              refine EVO.p1 (aI64 (gt v7.1 x_21)) ?_
              refine EVO.p1 (.agg (api_Banded.c a)) ?_
              refine EVO.p1 (.agg (api_Banded.c b)) ?_
              refine EVO.p1 (aI64 x_21) ?_
              refine EVO.c0 (by kernel_rfl) (callOf_at (by kernel_rfl)) ?_
              refine EVO.p0 (v := aB false) (Eq.trans (b := some (.pure (aB (((gt v7.1 x_21) : Int) != v49)))) (by kernel_rfl) (by rw [hb51])) ?_
              refine EVO.p1 (aB false) ?_
              refine EVO.q1 (sI64 v9.1) ?_
              refine EVO.q1 (aI64 x_21) ?_
              refine EVO.pure (v := .pp (v9.1.flatMap (iC .i64)) (x_21.toNat * 1)) (by kernel_rfl) (Eq.trans (b := ORes.ofP (guardV (inR x_21 v9.1.length) (.pp (v9.1.flatMap (iC .i64)) (x_21.toNat * 1)))) (by kernel_rfl) (ofP_guard hg52)) ?_
              refine EVO.pure (v := aI64 (gt v9.1 x_21)) (by kernel_rfl) (Eq.trans (b := ORes.ofP ((v9.1.flatMap (iC .i64))[x_21.toNat * 1]?)) (by kernel_rfl) (ofP_some (flat_get (iC_len _) (inR_lt hg52) (by decide : 0 < 1) (by omega : x_21.toNat * 1 = x_21.toNat * 1 + 0) (by kernel_rfl)))) ?_
              refine EVO.q1 (aI64 (wrapF .i64 ((mx v46.1 (wrapF .i64 (0 - v46.1))) - v46.2.1))) ?_
              refine EVO.pure (v := aB false) (by kernel_rfl) (Eq.trans (b := some (.pure (aB (((gt v9.1 x_21) : Int) != (wrapF .i64 ((mx v46.1 (wrapF .i64 (0 - v46.1))) - v46.2.1)))))) (by kernel_rfl) (by rw [hb53])) ?_
              refine EVO.p1 (aB false) ?_
              refine EVO.p1 (aB false) ?_
              refine EVO.q1 (sI64 v9.1) ?_
              refine EVO.q1 (aI64 x_21) ?_
              refine EVO.pure (v := .pp (v9.1.flatMap (iC .i64)) (x_21.toNat * 1)) (by kernel_rfl) (Eq.trans (b := ORes.ofP (guardV (inR x_21 v9.1.length) (.pp (v9.1.flatMap (iC .i64)) (x_21.toNat * 1)))) (by kernel_rfl) (ofP_guard hg52)) ?_
              refine EVO.pure (v := aI64 (gt v9.1 x_21)) (by kernel_rfl) (Eq.trans (b := ORes.ofP ((v9.1.flatMap (iC .i64))[x_21.toNat * 1]?)) (by kernel_rfl) (ofP_some (flat_get (iC_len _) (inR_lt hg52) (by decide : 0 < 1) (by omega : x_21.toNat * 1 = x_21.toNat * 1 + 0) (by kernel_rfl)))) ?_
              refine EVO.q1 (aB (decide ((gt v9.1 x_21) > 0))) ?_
              refine EVO.q1 (aI64 (gt v7.1 x_21)) ?_
              refine EVO.pure (v := aB false) (by kernel_rfl) (Eq.trans (b := some (.pure (aB (((gt v7.1 x_21) : Int) == 1)))) (by kernel_rfl) (by rw [hb54])) ?_
              refine EVO.q1 (aB false) ?_
              refine EVO.q1 (aI64 (gt v7.1 x_21)) ?_
              refine EVO.q1 (aB (((gt v7.1 x_21) : Int) == 2)) ?_
              refine EVO.q1 (aB (((gt v7.1 x_21) : Int) == 2)) ?_
              refine EVO.q1 (aB ((decide ((gt v9.1 x_21) > 0)) != (((gt v7.1 x_21) : Int) == 2))) ?_
              refine EVO.p1 (aB ((decide ((gt v9.1 x_21) > 0)) != (((gt v7.1 x_21) : Int) == 2))) ?_
              refine EVO.done ?_
              refine CQ.n1 [2, 3, 7, 81, 82, 83, 130] (mkS 132 0 [(2, .hp 0 0), (3, .hp 1 0), (7, sI64 v9.1), (81, sI64 v7.1), (82, aI64 (v7.1.length : Int)), (83, aI64 x_21), (130, aB ((decide ((gt v9.1 x_21) > 0)) != (((gt v7.1 x_21) : Int) == 2)))]) [.own (api_Banded.c a), .own (api_Banded.c b)] ?_
              refine CQ.cond (t := (decide ((gt v9.1 x_21) > 0)) != (((gt v7.1 x_21) : Int) == 2)) (by kernel_rfl) (fun hb56 => ?_) (fun hb56 => ?_)
              ·replace hr := cd_t hb56 hr
               refine CQ.seq ?_
               refine CQ.r0 fine ?_
               refine EVO.p1 (aB false) ?_
               refine EVO.done ?_
               refine CQ.ret ?_
               obtain rfl := Option.some.inj hr
               exact ⟨rfl, FinQ.ret (vs := [aB false]) (by kernel_rfl) (Sn.pure rfl)⟩
              ·replace hr := cd_f hb56 hr
               refine CQ.skip ?_
               refine CQ.pop ?_
               refine CQ.r0 fine ?_
               refine EVO.p1 (aI64 (wrapF .i64 (x_21 + 1))) ?_
               refine EVO.p1 (aI64 (wrapF .i64 (x_21 + 1))) ?_
               refine EVO.done ?_
               exact loopF_back (wrapF .i64 (x_21 + 1)) hr ((Wk.gc [2, 3, 7, 81, 82, 83] [(0, true), (1, true)] rfl trivial).to (by kernel_rfl))
          ·replace hr := cd_f hb48 hr
           refine CQ.skip ?_
           refine CQ.seq ?_
           replace hr := bd hr; obtain ⟨v57, hc58, hr⟩ := hr
           rcases Bool.eq_false_or_eq_true (((gt v7.1 x_21) : Int) != v57) with hb59 | hb59
           ·replace hr := cd_t hb59 hr
            refine CQ.region fine (callOf_1 27 [.agg (api_Banded.c a), .agg (api_Banded.c b), aI64 x_21] [.own (api_Banded.c a), .own (api_Banded.c b)] (.loc (aI64 v57) [] [] 0) (callOk_val (l := []) (args' := [.agg (api_Banded.c a), .agg (api_Banded.c b), aI64 x_21]) rfl (SnL.cons (Sn.pure rfl) (SnL.cons (Sn.pure rfl) (SnL.cons (Sn.pure rfl) SnL.nil))) (fiduciallaw59_verdict_ok n a b x_21 v57 hc58))) ?_
            refine EVO.p1 (aI64 (gt v7.1 x_21)) ?_
            refine EVO.p1 (.agg (api_Banded.c a)) ?_
            refine EVO.p1 (.agg (api_Banded.c b)) ?_
            refine EVO.p1 (aI64 x_21) ?_
            refine EVO.c0 (by kernel_rfl) (callOf_at (by kernel_rfl)) ?_
            refine EVO.p0 (v := aB true) (Eq.trans (b := some (.pure (aB (((gt v7.1 x_21) : Int) != v57)))) (by kernel_rfl) (by rw [hb59])) ?_
            refine EVO.p1 (aB true) ?_
            refine EVO.s1 ?_
            refine EVO.s1 ?_
            refine EVO.s1 ?_
            refine EVO.s1 ?_
            refine EVO.s1 ?_
            refine EVO.s1 ?_
            refine EVO.p1 (aB true) ?_
            refine EVO.p1 (aB true) ?_
            refine EVO.s1 ?_
            refine EVO.s1 ?_
            refine EVO.s1 ?_
            refine EVO.s1 ?_
            refine EVO.s1 ?_
            refine EVO.s1 ?_
            refine EVO.s1 ?_
            refine EVO.s1 ?_
            refine EVO.s1 ?_
            refine EVO.s1 ?_
            refine EVO.s1 ?_
            refine EVO.s1 ?_
            refine EVO.p1 (aB true) ?_
            refine EVO.done ?_
            refine CQ.n1 [2, 3, 7, 81, 82, 83, 130] (mkS 132 0 [(2, .hp 0 0), (3, .hp 1 0), (7, sI64 v9.1), (81, sI64 v7.1), (82, aI64 (v7.1.length : Int)), (83, aI64 x_21), (130, aB true)]) [.own (api_Banded.c a), .own (api_Banded.c b)] ?_
            refine CQ.cT (by kernel_rfl) ?_
            refine CQ.seq ?_
            refine CQ.r0 fine ?_
            refine EVO.p1 (aB false) ?_
            refine EVO.done ?_
            refine CQ.ret ?_
            obtain rfl := Option.some.inj hr
            exact ⟨rfl, FinQ.ret (vs := [aB false]) (by kernel_rfl) (Sn.pure rfl)⟩
           ·replace hr := cd_f hb59 hr
            replace hr := gd hr; obtain ⟨hg60, hr⟩ := hr
            rcases Bool.eq_false_or_eq_true (((gt v9.1 x_21) : Int) != 0) with hb61 | hb61
            ·replace hr := cd_t hb61 hr
             refine CQ.region fine (callOf_1 27 [.agg (api_Banded.c a), .agg (api_Banded.c b), aI64 x_21] [.own (api_Banded.c a), .own (api_Banded.c b)] (.loc (aI64 v57) [] [] 0) (callOk_val (l := []) (args' := [.agg (api_Banded.c a), .agg (api_Banded.c b), aI64 x_21]) rfl (SnL.cons (Sn.pure rfl) (SnL.cons (Sn.pure rfl) (SnL.cons (Sn.pure rfl) SnL.nil))) (fiduciallaw59_verdict_ok n a b x_21 v57 hc58))) ?_
             refine EVO.p1 (aI64 (gt v7.1 x_21)) ?_
             refine EVO.p1 (.agg (api_Banded.c a)) ?_
             refine EVO.p1 (.agg (api_Banded.c b)) ?_
             refine EVO.p1 (aI64 x_21) ?_
             refine EVO.c0 (by kernel_rfl) (callOf_at (by kernel_rfl)) ?_
             refine EVO.p0 (v := aB false) (Eq.trans (b := some (.pure (aB (((gt v7.1 x_21) : Int) != v57)))) (by kernel_rfl) (by rw [hb59])) ?_
             refine EVO.p1 (aB false) ?_
             refine EVO.q1 (sI64 v9.1) ?_
             refine EVO.q1 (aI64 x_21) ?_
             refine EVO.pure (v := .pp (v9.1.flatMap (iC .i64)) (x_21.toNat * 1)) (by kernel_rfl) (Eq.trans (b := ORes.ofP (guardV (inR x_21 v9.1.length) (.pp (v9.1.flatMap (iC .i64)) (x_21.toNat * 1)))) (by kernel_rfl) (ofP_guard hg60)) ?_
             refine EVO.pure (v := aI64 (gt v9.1 x_21)) (by kernel_rfl) (Eq.trans (b := ORes.ofP ((v9.1.flatMap (iC .i64))[x_21.toNat * 1]?)) (by kernel_rfl) (ofP_some (flat_get (iC_len _) (inR_lt hg60) (by decide : 0 < 1) (by omega : x_21.toNat * 1 = x_21.toNat * 1 + 0) (by kernel_rfl)))) ?_
             refine EVO.q1 (aI64 0) ?_
             refine EVO.pure (v := aB true) (by kernel_rfl) (Eq.trans (b := some (.pure (aB (((gt v9.1 x_21) : Int) != 0)))) (by kernel_rfl) (by rw [hb61])) ?_
             refine EVO.p1 (aB true) ?_
             refine EVO.p1 (aB true) ?_
             refine EVO.s1 ?_
             refine EVO.s1 ?_
             refine EVO.s1 ?_
             refine EVO.s1 ?_
             refine EVO.s1 ?_
             refine EVO.s1 ?_
             refine EVO.s1 ?_
             refine EVO.s1 ?_
             refine EVO.s1 ?_
             refine EVO.s1 ?_
             refine EVO.s1 ?_
             refine EVO.s1 ?_
             refine EVO.p1 (aB true) ?_
             refine EVO.done ?_
             refine CQ.n1 [2, 3, 7, 81, 82, 83, 130] (mkS 132 0 [(2, .hp 0 0), (3, .hp 1 0), (7, sI64 v9.1), (81, sI64 v7.1), (82, aI64 (v7.1.length : Int)), (83, aI64 x_21), (130, aB true)]) [.own (api_Banded.c a), .own (api_Banded.c b)] ?_
             refine CQ.cT (by kernel_rfl) ?_
             refine CQ.seq ?_
             refine CQ.r0 fine ?_
             refine EVO.p1 (aB false) ?_
             refine EVO.done ?_
             refine CQ.ret ?_
             obtain rfl := Option.some.inj hr
             exact ⟨rfl, FinQ.ret (vs := [aB false]) (by kernel_rfl) (Sn.pure rfl)⟩
            ·replace hr := cd_f hb61 hr
             rcases Bool.eq_false_or_eq_true (((gt v7.1 x_21) : Int) == 1) with hb62 | hb62
             ·replace hr := cd_t hb62 hr
              refine CQ.region fine (callOf_1 27 [.agg (api_Banded.c a), .agg (api_Banded.c b), aI64 x_21] [.own (api_Banded.c a), .own (api_Banded.c b)] (.loc (aI64 v57) [] [] 0) (callOk_val (l := []) (args' := [.agg (api_Banded.c a), .agg (api_Banded.c b), aI64 x_21]) rfl (SnL.cons (Sn.pure rfl) (SnL.cons (Sn.pure rfl) (SnL.cons (Sn.pure rfl) SnL.nil))) (fiduciallaw59_verdict_ok n a b x_21 v57 hc58))) ?_
              refine EVO.p1 (aI64 (gt v7.1 x_21)) ?_
              refine EVO.p1 (.agg (api_Banded.c a)) ?_
              refine EVO.p1 (.agg (api_Banded.c b)) ?_
              refine EVO.p1 (aI64 x_21) ?_
              refine EVO.c0 (by kernel_rfl) (callOf_at (by kernel_rfl)) ?_
              refine EVO.p0 (v := aB false) (Eq.trans (b := some (.pure (aB (((gt v7.1 x_21) : Int) != v57)))) (by kernel_rfl) (by rw [hb59])) ?_
              refine EVO.p1 (aB false) ?_
              refine EVO.q1 (sI64 v9.1) ?_
              refine EVO.q1 (aI64 x_21) ?_
              refine EVO.pure (v := .pp (v9.1.flatMap (iC .i64)) (x_21.toNat * 1)) (by kernel_rfl) (Eq.trans (b := ORes.ofP (guardV (inR x_21 v9.1.length) (.pp (v9.1.flatMap (iC .i64)) (x_21.toNat * 1)))) (by kernel_rfl) (ofP_guard hg60)) ?_
              refine EVO.pure (v := aI64 (gt v9.1 x_21)) (by kernel_rfl) (Eq.trans (b := ORes.ofP ((v9.1.flatMap (iC .i64))[x_21.toNat * 1]?)) (by kernel_rfl) (ofP_some (flat_get (iC_len _) (inR_lt hg60) (by decide : 0 < 1) (by omega : x_21.toNat * 1 = x_21.toNat * 1 + 0) (by kernel_rfl)))) ?_
              refine EVO.q1 (aI64 0) ?_
              refine EVO.pure (v := aB false) (by kernel_rfl) (Eq.trans (b := some (.pure (aB (((gt v9.1 x_21) : Int) != 0)))) (by kernel_rfl) (by rw [hb61])) ?_
              refine EVO.p1 (aB false) ?_
              refine EVO.p1 (aB false) ?_
              refine EVO.q1 (sI64 v9.1) ?_
              refine EVO.q1 (aI64 x_21) ?_
              refine EVO.pure (v := .pp (v9.1.flatMap (iC .i64)) (x_21.toNat * 1)) (by kernel_rfl) (Eq.trans (b := ORes.ofP (guardV (inR x_21 v9.1.length) (.pp (v9.1.flatMap (iC .i64)) (x_21.toNat * 1)))) (by kernel_rfl) (ofP_guard hg60)) ?_
              refine EVO.pure (v := aI64 (gt v9.1 x_21)) (by kernel_rfl) (Eq.trans (b := ORes.ofP ((v9.1.flatMap (iC .i64))[x_21.toNat * 1]?)) (by kernel_rfl) (ofP_some (flat_get (iC_len _) (inR_lt hg60) (by decide : 0 < 1) (by omega : x_21.toNat * 1 = x_21.toNat * 1 + 0) (by kernel_rfl)))) ?_
              refine EVO.q1 (aB (decide ((gt v9.1 x_21) > 0))) ?_
              refine EVO.q1 (aI64 (gt v7.1 x_21)) ?_
              refine EVO.pure (v := aB true) (by kernel_rfl) (Eq.trans (b := some (.pure (aB (((gt v7.1 x_21) : Int) == 1)))) (by kernel_rfl) (by rw [hb62])) ?_
              refine EVO.q1 (aB true) ?_
              refine EVO.s1 ?_
              refine EVO.s1 ?_
              refine EVO.q1 (aB true) ?_
              refine EVO.q1 (aB ((decide ((gt v9.1 x_21) > 0)) != true)) ?_
              refine EVO.p1 (aB ((decide ((gt v9.1 x_21) > 0)) != true)) ?_
              refine EVO.done ?_
              refine CQ.n1 [2, 3, 7, 81, 82, 83, 130] (mkS 132 0 [(2, .hp 0 0), (3, .hp 1 0), (7, sI64 v9.1), (81, sI64 v7.1), (82, aI64 (v7.1.length : Int)), (83, aI64 x_21), (130, aB ((decide ((gt v9.1 x_21) > 0)) != true))]) [.own (api_Banded.c a), .own (api_Banded.c b)] ?_
              refine CQ.cond (t := (decide ((gt v9.1 x_21) > 0)) != true) (by kernel_rfl) (fun hb63 => ?_) (fun hb63 => ?_)
              ·replace hr := cd_t hb63 hr
               refine CQ.seq ?_
               refine CQ.r0 fine ?_
               refine EVO.p1 (aB false) ?_
               refine EVO.done ?_
               refine CQ.ret ?_
               obtain rfl := Option.some.inj hr
               exact ⟨rfl, FinQ.ret (vs := [aB false]) (by kernel_rfl) (Sn.pure rfl)⟩
              ·replace hr := cd_f hb63 hr
               refine CQ.skip ?_
               refine CQ.pop ?_
               refine CQ.r0 fine ?_
               refine EVO.p1 (aI64 (wrapF .i64 (x_21 + 1))) ?_
               refine EVO.p1 (aI64 (wrapF .i64 (x_21 + 1))) ?_
               refine EVO.done ?_
               exact loopF_back (wrapF .i64 (x_21 + 1)) hr ((Wk.gc [2, 3, 7, 81, 82, 83] [(0, true), (1, true)] rfl trivial).to (by kernel_rfl))
             ·replace hr := cd_f hb62 hr
              refine CQ.region fine (callOf_1 27 [.agg (api_Banded.c a), .agg (api_Banded.c b), aI64 x_21] [.own (api_Banded.c a), .own (api_Banded.c b)] (.loc (aI64 v57) [] [] 0) (callOk_val (l := []) (args' := [.agg (api_Banded.c a), .agg (api_Banded.c b), aI64 x_21]) rfl (SnL.cons (Sn.pure rfl) (SnL.cons (Sn.pure rfl) (SnL.cons (Sn.pure rfl) SnL.nil))) (fiduciallaw59_verdict_ok n a b x_21 v57 hc58))) ?_
              refine EVO.p1 (aI64 (gt v7.1 x_21)) ?_
              refine EVO.p1 (.agg (api_Banded.c a)) ?_
              refine EVO.p1 (.agg (api_Banded.c b)) ?_
              refine EVO.p1 (aI64 x_21) ?_
              refine EVO.c0 (by kernel_rfl) (callOf_at (by kernel_rfl)) ?_
              refine EVO.p0 (v := aB false) (Eq.trans (b := some (.pure (aB (((gt v7.1 x_21) : Int) != v57)))) (by kernel_rfl) (by rw [hb59])) ?_
              refine EVO.p1 (aB false) ?_
              refine EVO.q1 (sI64 v9.1) ?_
              refine EVO.q1 (aI64 x_21) ?_
              refine EVO.pure (v := .pp (v9.1.flatMap (iC .i64)) (x_21.toNat * 1)) (by kernel_rfl) (Eq.trans (b := ORes.ofP (guardV (inR x_21 v9.1.length) (.pp (v9.1.flatMap (iC .i64)) (x_21.toNat * 1)))) (by kernel_rfl) (ofP_guard hg60)) ?_
              refine EVO.pure (v := aI64 (gt v9.1 x_21)) (by kernel_rfl) (Eq.trans (b := ORes.ofP ((v9.1.flatMap (iC .i64))[x_21.toNat * 1]?)) (by kernel_rfl) (ofP_some (flat_get (iC_len _) (inR_lt hg60) (by decide : 0 < 1) (by omega : x_21.toNat * 1 = x_21.toNat * 1 + 0) (by kernel_rfl)))) ?_
              refine EVO.q1 (aI64 0) ?_
              refine EVO.pure (v := aB false) (by kernel_rfl) (Eq.trans (b := some (.pure (aB (((gt v9.1 x_21) : Int) != 0)))) (by kernel_rfl) (by rw [hb61])) ?_
              refine EVO.p1 (aB false) ?_
              refine EVO.p1 (aB false) ?_
              refine EVO.q1 (sI64 v9.1) ?_
              refine EVO.q1 (aI64 x_21) ?_
              refine EVO.pure (v := .pp (v9.1.flatMap (iC .i64)) (x_21.toNat * 1)) (by kernel_rfl) (Eq.trans (b := ORes.ofP (guardV (inR x_21 v9.1.length) (.pp (v9.1.flatMap (iC .i64)) (x_21.toNat * 1)))) (by kernel_rfl) (ofP_guard hg60)) ?_
              refine EVO.pure (v := aI64 (gt v9.1 x_21)) (by kernel_rfl) (Eq.trans (b := ORes.ofP ((v9.1.flatMap (iC .i64))[x_21.toNat * 1]?)) (by kernel_rfl) (ofP_some (flat_get (iC_len _) (inR_lt hg60) (by decide : 0 < 1) (by omega : x_21.toNat * 1 = x_21.toNat * 1 + 0) (by kernel_rfl)))) ?_
              refine EVO.q1 (aB (decide ((gt v9.1 x_21) > 0))) ?_
              refine EVO.q1 (aI64 (gt v7.1 x_21)) ?_
              refine EVO.pure (v := aB false) (by kernel_rfl) (Eq.trans (b := some (.pure (aB (((gt v7.1 x_21) : Int) == 1)))) (by kernel_rfl) (by rw [hb62])) ?_
              refine EVO.q1 (aB false) ?_
              refine EVO.q1 (aI64 (gt v7.1 x_21)) ?_
              refine EVO.q1 (aB (((gt v7.1 x_21) : Int) == 2)) ?_
              refine EVO.q1 (aB (((gt v7.1 x_21) : Int) == 2)) ?_
              refine EVO.q1 (aB ((decide ((gt v9.1 x_21) > 0)) != (((gt v7.1 x_21) : Int) == 2))) ?_
              refine EVO.p1 (aB ((decide ((gt v9.1 x_21) > 0)) != (((gt v7.1 x_21) : Int) == 2))) ?_
              refine EVO.done ?_
              refine CQ.n1 [2, 3, 7, 81, 82, 83, 130] (mkS 132 0 [(2, .hp 0 0), (3, .hp 1 0), (7, sI64 v9.1), (81, sI64 v7.1), (82, aI64 (v7.1.length : Int)), (83, aI64 x_21), (130, aB ((decide ((gt v9.1 x_21) > 0)) != (((gt v7.1 x_21) : Int) == 2)))]) [.own (api_Banded.c a), .own (api_Banded.c b)] ?_
              refine CQ.cond (t := (decide ((gt v9.1 x_21) > 0)) != (((gt v7.1 x_21) : Int) == 2)) (by kernel_rfl) (fun hb64 => ?_) (fun hb64 => ?_)
              ·replace hr := cd_t hb64 hr
               refine CQ.seq ?_
               refine CQ.r0 fine ?_
               refine EVO.p1 (aB false) ?_
               refine EVO.done ?_
               refine CQ.ret ?_
               obtain rfl := Option.some.inj hr
               exact ⟨rfl, FinQ.ret (vs := [aB false]) (by kernel_rfl) (Sn.pure rfl)⟩
              ·replace hr := cd_f hb64 hr
               refine CQ.skip ?_
               refine CQ.pop ?_
               refine CQ.r0 fine ?_
               refine EVO.p1 (aI64 (wrapF .i64 (x_21 + 1))) ?_
               refine EVO.p1 (aI64 (wrapF .i64 (x_21 + 1))) ?_
               refine EVO.done ?_
               exact loopF_back (wrapF .i64 (x_21 + 1)) hr ((Wk.gc [2, 3, 7, 81, 82, 83] [(0, true), (1, true)] rfl trivial).to (by kernel_rfl))
         ·replace hr := cd_f hb44 hr
          refine CQ.leave rfl ?_
          obtain rfl := Option.some.inj hr
          exact ⟨rfl, ((Wk.gc [] [] rfl trivial).to (by kernel_rfl))⟩
        ·rcases o65 with ⟨⟩ | r0
         ·rintro x st' hq67
          clear hL66
          obtain ⟨rfl, hq67⟩ := hq67
          refine CQ_exit _ rfl ?_
          refine CQ.wk hq67 ?_
          refine CQ.seq ?_
          refine CQ.r0 fine ?_
          refine EVO.p1 (aB true) ?_
          refine EVO.done ?_
          refine CQ.ret ?_
          obtain rfl := Option.some.inj hr
          exact FinQ.r1 [aB true]
         ·rintro x st' hq67
          clear hL66
          obtain ⟨rfl, hq67⟩ := hq67
          obtain rfl := Option.some.inj hr
          exact CQ_ret _ hq67
end Go.L
