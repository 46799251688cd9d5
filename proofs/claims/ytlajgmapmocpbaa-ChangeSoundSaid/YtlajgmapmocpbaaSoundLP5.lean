/- The program's functions compute what the plain Lean programs compute, part 5; printed by a program. -/
import Derived.Test.YtlajgmapmocpbaaSoundLP4
import Derived.Test.YtlajgmapmocpbaaL0b
import Derived.Test.YtlajgmapmocpbaaChecked
import Derived.KernelRfl
set_option linter.unusedVariables false
set_option linter.unusedSimpArgs false
set_option maxRecDepth 100000
namespace Go.L
open Go Go.Eng Go.Proofs
theorem fiduciallaw59_check_ok (n : Nat) (b : api_Banded) (r : Int) (hr : fiduciallaw59_check n b = some r) : FnOk Try.prog 9 [.agg [.at (.int .i64 b.Grid.X0), .at (.int .i64 b.Grid.Y0), .at (.int .i64 b.Grid.Step), .at (.int .i64 b.Grid.Width), .at (.int .i64 b.Grid.Height), slT (iC .i64) b.Grid.Z, slT (iC .i64) b.Err]] (.at (.int .i64 r)) := by
 unfold fiduciallaw59_check at hr
 refine FnOk.body fine Try.func9 (c := (Try.f9.body).getD .skip) rfl (s := mkS 34 0 [(0, .agg [aI64 b.Grid.X0, aI64 b.Grid.Y0, aI64 b.Grid.Step, aI64 b.Grid.Width, aI64 b.Grid.Height, sI64 b.Grid.Z, sI64 b.Err])]) (by kernel_rfl) (rs := [.tmp 2]) rfl ?_
 unfold Try.f9
 simp only [Option.getD_some]
 refine CQ.seq ?_
 refine CQ.r0 fine ?_
 refine EVO.e1 (.hp 0 0) [(0, .own [aI64 b.Grid.X0, aI64 b.Grid.Y0, aI64 b.Grid.Step, aI64 b.Grid.Width, aI64 b.Grid.Height, sI64 b.Grid.Z, sI64 b.Err])] ?_
 refine EVO.p1 (aI64 0) ?_
 refine EVO.done ?_
 refine CQ.n1 [1] (mkS 34 0 [(1, .hp 0 0)]) [.own [aI64 b.Grid.X0, aI64 b.Grid.Y0, aI64 b.Grid.Step, aI64 b.Grid.Width, aI64 b.Grid.Height, sI64 b.Grid.Z, sI64 b.Err]] ?_
 refine CQ.seq ?_
 refine CQ.seq ?_
 replace hr := bd hr; obtain ⟨v1, hc2, hr⟩ := hr
 refine CQ.region fine (callOf_1 23 [.agg [aI64 b.Grid.X0, aI64 b.Grid.Y0, aI64 b.Grid.Step, aI64 b.Grid.Width, aI64 b.Grid.Height, sI64 b.Grid.Z]] [.own [aI64 b.Grid.X0, aI64 b.Grid.Y0, aI64 b.Grid.Step, aI64 b.Grid.Width, aI64 b.Grid.Height, sI64 b.Grid.Z, sI64 b.Err]] (.loc (aI64 v1) [] [] 0) (callOk_val (l := []) (args' := [.agg [aI64 b.Grid.X0, aI64 b.Grid.Y0, aI64 b.Grid.Step, aI64 b.Grid.Width, aI64 b.Grid.Height, sI64 b.Grid.Z]]) rfl (SnL.cons (Sn.pure rfl) SnL.nil) (fiduciallaw51_Checked_ok n b.Grid v1 hc2))) ?_
 refine EVO.p1 (.hp 0 0) ?_
 refine EVO.p1 (.agg [aI64 b.Grid.X0, aI64 b.Grid.Y0, aI64 b.Grid.Step, aI64 b.Grid.Width, aI64 b.Grid.Height, sI64 b.Grid.Z]) ?_
 refine EVO.c0 (by kernel_rfl) (callOf_at (by kernel_rfl)) ?_
 refine EVO.p1 (aI64 v1) ?_
 refine EVO.done ?_
 refine CQ.n1 [1, 3] (mkS 34 0 [(1, .hp 0 0), (3, aI64 v1)]) [.own [aI64 b.Grid.X0, aI64 b.Grid.Y0, aI64 b.Grid.Step, aI64 b.Grid.Width, aI64 b.Grid.Height, sI64 b.Grid.Z, sI64 b.Err]] ?_
 refine CQ.seq ?_
 refine CQ.r0 fine ?_
 refine EVO.p1 (aI64 v1) ?_
 refine EVO.p1 (aB ((v1 : Int) != 0)) ?_
 refine EVO.done ?_
 refine CQ.n1 [1, 3, 10] (mkS 34 0 [(1, .hp 0 0), (3, aI64 v1), (10, aB ((v1 : Int) != 0))]) [.own [aI64 b.Grid.X0, aI64 b.Grid.Y0, aI64 b.Grid.Step, aI64 b.Grid.Width, aI64 b.Grid.Height, sI64 b.Grid.Z, sI64 b.Err]] ?_
 refine CQ.cond (t := (v1 : Int) != 0) (by kernel_rfl) (fun hb3 => ?_) (fun hb3 => ?_)
 ·replace hr := cd_t hb3 hr
  refine CQ.seq ?_
  refine CQ.r0 fine ?_
  refine EVO.p1 (aI64 v1) ?_
  refine EVO.p1 (aI64 v1) ?_
  refine EVO.done ?_
  refine CQ.ret ?_
  obtain rfl := Option.some.inj hr
  exact FinQ.r1 [aI64 v1]
 ·replace hr := cd_f hb3 hr
  refine CQ.skip ?_
  refine CQ.seq ?_
  refine CQ.seq ?_
  refine CQ.r0 fine ?_
  refine EVO.p1 (.hp 0 6) ?_
  refine EVO.p1 (sI64 b.Err) ?_
  refine EVO.p1 (aI64 (b.Err.length : Int)) ?_
  refine EVO.p1 (.hp 0 0) ?_
  refine EVO.p1 (.hp 0 5) ?_
  refine EVO.p1 (sI64 b.Grid.Z) ?_
  refine EVO.p1 (aI64 (b.Grid.Z.length : Int)) ?_
  refine EVO.p1 (aB (((b.Err.length : Int) : Int) != (b.Grid.Z.length : Int))) ?_
  refine EVO.done ?_
  refine CQ.n1 [1, 19] (mkS 34 0 [(1, .hp 0 0), (19, aB (((b.Err.length : Int) : Int) != (b.Grid.Z.length : Int)))]) [.own [aI64 b.Grid.X0, aI64 b.Grid.Y0, aI64 b.Grid.Step, aI64 b.Grid.Width, aI64 b.Grid.Height, sI64 b.Grid.Z, sI64 b.Err]] ?_
  refine CQ.cond (t := ((b.Err.length : Int) : Int) != (b.Grid.Z.length : Int)) (by kernel_rfl) (fun hb4 => ?_) (fun hb4 => ?_)
  ·replace hr := cd_t hb4 hr
   refine CQ.seq ?_
   refine CQ.r0 fine ?_
   refine EVO.p1 (aI64 4) ?_
   refine EVO.done ?_
   refine CQ.ret ?_
   obtain rfl := Option.some.inj hr
   exact FinQ.r1 [aI64 4]
  ·replace hr := cd_f hb4 hr
   refine CQ.skip ?_
   refine CQ.seq ?_
   refine CQ.seq ?_
   refine CQ.r0 fine ?_
   refine EVO.p1 (.hp 0 6) ?_
   refine EVO.p1 (sI64 b.Err) ?_
   refine EVO.p1 (aI64 (b.Err.length : Int)) ?_
   refine EVO.p1 (aI64 0) ?_
   refine EVO.done ?_
   refine CQ.n1 [21, 22, 23] (mkS 34 0 [(21, sI64 b.Err), (22, aI64 (b.Err.length : Int)), (23, aI64 0)]) [.own [aI64 b.Grid.X0, aI64 b.Grid.Y0, aI64 b.Grid.Step, aI64 b.Grid.Width, aI64 b.Grid.Height, sI64 b.Grid.Z, sI64 b.Err]] ?_
   refine CQ.block ?_
   replace hr := bd hr; obtain ⟨o15, hL16, hr⟩ := hr
   refine CQ.loopO (σ := fun z0 => match z0 with | x_5 => ⟨mkS 34 0 [(21, sI64 b.Err), (22, aI64 (b.Err.length : Int)), (23, aI64 x_5)], []⟩) (Q := fun x st' => match (generalizing := false) o15 with | .inl _ => x = .exit 0 ∧ Wk st' ⟨mkS 34 0 [], []⟩ | .inr (r0) => x = .ret ∧ FinQ Try.prog [.tmp 2] (aI64 r0) .ret st') hL16 ((Wk.gc [21, 22, 23] [] rfl trivial).to (by kernel_rfl)) ?_ ?_
   ·clear hr
    rintro m x_5 hr
    show CQ _ _ _ _ ⟨_, _⟩
    refine CQ.seq ?_
    refine CQ.r0 fine ?_
    refine EVO.p1 (aB (decide (x_5 < (b.Err.length : Int)))) ?_
    refine EVO.done ?_
    refine CQ.seq ?_
    refine CQ.cond (t := decide (x_5 < (b.Err.length : Int))) (by kernel_rfl) (fun hb11 => ?_) (fun hb11 => ?_)
    ·replace hr := cd_t hb11 hr
     refine CQ.skip ?_
     refine CQ.seq ?_
     refine CQ.block ?_
     refine CQ.seq ?_
     replace hr := gd hr; obtain ⟨hg12, hr⟩ := hr
     refine CQ.r0 fine ?_
     refine EVO.p0 (v := .pp (b.Err.flatMap (iC .i64)) (x_5.toNat * 1)) (Eq.trans (b := ORes.ofP (guardV (inR x_5 b.Err.length) (.pp (b.Err.flatMap (iC .i64)) (x_5.toNat * 1)))) (by kernel_rfl) (ofP_guard hg12)) ?_
     refine EVO.p0 (v := aI64 (gt b.Err x_5)) (Eq.trans (b := ORes.ofP ((b.Err.flatMap (iC .i64))[x_5.toNat * 1]?)) (by kernel_rfl) (ofP_some (flat_get (iC_len _) (inR_lt hg12) (by decide : 0 < 1) (by omega : x_5.toNat * 1 = x_5.toNat * 1 + 0) (by kernel_rfl)))) ?_
     refine EVO.p1 (aI64 (gt b.Err x_5)) ?_
     refine EVO.done ?_
     refine CQ.n1 [5, 21, 22, 23] (mkS 34 0 [(5, aI64 (gt b.Err x_5)), (21, sI64 b.Err), (22, aI64 (b.Err.length : Int)), (23, aI64 x_5)]) [] ?_
     refine CQ.seq ?_
     rcases Bool.eq_false_or_eq_true (decide ((gt b.Err x_5) < 0)) with hb13 | hb13
     ·replace hr := cd_t hb13 hr
      refine CQ.r0 fine ?_
      refine EVO.p1 (aI64 (gt b.Err x_5)) ?_
      refine EVO.p0 (v := aB true) (Eq.trans (b := some (.pure (aB (decide ((gt b.Err x_5) < 0))))) (by kernel_rfl) (by rw [hb13])) ?_
      refine EVO.p1 (aB true) ?_
      refine EVO.s1 ?_
      refine EVO.s1 ?_
      refine EVO.p1 (aB true) ?_
      refine EVO.done ?_
      refine CQ.n1 [21, 22, 23, 32] (mkS 34 0 [(21, sI64 b.Err), (22, aI64 (b.Err.length : Int)), (23, aI64 x_5), (32, aB true)]) [] ?_
      refine CQ.cT (by kernel_rfl) ?_
      refine CQ.seq ?_
      refine CQ.r0 fine ?_
      refine EVO.p1 (aI64 2) ?_
      refine EVO.done ?_
      refine CQ.ret ?_
      obtain rfl := Option.some.inj hr
      exact ⟨rfl, FinQ.ret (vs := [aI64 2]) (by kernel_rfl) (Sn.pure rfl)⟩
     ·replace hr := cd_f hb13 hr
      refine CQ.r0 fine ?_
      refine EVO.p1 (aI64 (gt b.Err x_5)) ?_
      refine EVO.p0 (v := aB false) (Eq.trans (b := some (.pure (aB (decide ((gt b.Err x_5) < 0))))) (by kernel_rfl) (by rw [hb13])) ?_
      refine EVO.p1 (aB false) ?_
      refine EVO.q1 (aI64 (gt b.Err x_5)) ?_
      refine EVO.q1 (aB (decide ((gt b.Err x_5) > 1048576))) ?_
      refine EVO.p1 (aB (decide ((gt b.Err x_5) > 1048576))) ?_
      refine EVO.done ?_
      refine CQ.n1 [21, 22, 23, 32] (mkS 34 0 [(21, sI64 b.Err), (22, aI64 (b.Err.length : Int)), (23, aI64 x_5), (32, aB (decide ((gt b.Err x_5) > 1048576)))]) [] ?_
      refine CQ.cond (t := decide ((gt b.Err x_5) > 1048576)) (by kernel_rfl) (fun hb14 => ?_) (fun hb14 => ?_)
      ·replace hr := cd_t hb14 hr
       refine CQ.seq ?_
       refine CQ.r0 fine ?_
       refine EVO.p1 (aI64 2) ?_
       refine EVO.done ?_
       refine CQ.ret ?_
       obtain rfl := Option.some.inj hr
       exact ⟨rfl, FinQ.ret (vs := [aI64 2]) (by kernel_rfl) (Sn.pure rfl)⟩
      ·replace hr := cd_f hb14 hr
       refine CQ.skip ?_
       refine CQ.pop ?_
       refine CQ.r0 fine ?_
       refine EVO.p1 (aI64 (wrapF .i64 (x_5 + 1))) ?_
       refine EVO.p1 (aI64 (wrapF .i64 (x_5 + 1))) ?_
       refine EVO.done ?_
       exact loopF_back (wrapF .i64 (x_5 + 1)) hr ((Wk.gc [21, 22, 23] [] rfl trivial).to (by kernel_rfl))
    ·replace hr := cd_f hb11 hr
     refine CQ.leave rfl ?_
     obtain rfl := Option.some.inj hr
     exact ⟨rfl, ((Wk.gc [] [] rfl trivial).to (by kernel_rfl))⟩
   ·rcases o15 with ⟨⟩ | r0
    ·rintro x st' hq17
     clear hL16
     obtain ⟨rfl, hq17⟩ := hq17
     refine CQ_exit _ rfl ?_
     refine CQ.wk hq17 ?_
     refine CQ.seq ?_
     refine CQ.r0 fine ?_
     refine EVO.p1 (aI64 0) ?_
     refine EVO.done ?_
     refine CQ.ret ?_
     obtain rfl := Option.some.inj hr
     exact FinQ.r1 [aI64 0]
    ·rintro x st' hq17
     clear hL16
     obtain ⟨rfl, hq17⟩ := hq17
     obtain rfl := Option.some.inj hr
     exact CQ_ret _ hq17

theorem fiduciallaw59_fits_ok (n : Nat) (l : List api_Banded) (r : Int) (hr : fiduciallaw59_fits n l = some r) : FnOk Try.prog 10 [slT api_Banded.c l] (.at (.int .i64 r)) := by
 unfold fiduciallaw59_fits at hr
 refine FnOk.body fine Try.func10 (c := (Try.f10.body).getD .skip) rfl (s := mkS 68 0 [(0, slT api_Banded.c l)]) (by kernel_rfl) (rs := [.tmp 2]) rfl ?_
 unfold Try.f10
 simp only [Option.getD_some]
 refine CQ.seq ?_
 refine CQ.r0 fine ?_
 refine EVO.p1 (aI64 0) ?_
 refine EVO.done ?_
 refine CQ.n1 [0] (mkS 68 0 [(0, slT api_Banded.c l)]) [] ?_
 refine CQ.seq ?_
 refine CQ.seq ?_
 refine CQ.r0 fine ?_
 refine EVO.p1 (slT api_Banded.c l) ?_
 refine EVO.p1 (aI64 (l.length : Int)) ?_
 refine EVO.p1 (aI64 0) ?_
 refine EVO.done ?_
 refine CQ.block ?_
 replace hr := bd hr; obtain ⟨o13, hL14, hr⟩ := hr
 refine CQ.loopO (σ := fun z0 => match z0 with | x_1 => ⟨mkS 68 0 [(0, slT api_Banded.c l), (10, slT api_Banded.c l), (11, aI64 (l.length : Int)), (12, aI64 x_1)], []⟩) (Q := fun x st' => match (generalizing := false) o13 with | .inl _ => x = .exit 0 ∧ Wk st' ⟨mkS 68 0 [(0, slT api_Banded.c l)], []⟩ | .inr (r0) => x = .ret ∧ FinQ Try.prog [.tmp 2] (aI64 r0) .ret st') hL14 ((Wk.gc [0, 10, 11, 12] [] rfl trivial).to (by kernel_rfl)) ?_ ?_
 ·clear hr
  rintro m x_1 hr
  show CQ _ _ _ _ ⟨_, _⟩
  refine CQ.seq ?_
  refine CQ.r0 fine ?_
  refine EVO.p1 (aB (decide (x_1 < (l.length : Int)))) ?_
  refine EVO.done ?_
  refine CQ.seq ?_
  refine CQ.cond (t := decide (x_1 < (l.length : Int))) (by kernel_rfl) (fun hb8 => ?_) (fun hb8 => ?_)
  ·replace hr := cd_t hb8 hr
   refine CQ.skip ?_
   refine CQ.seq ?_
   refine CQ.block ?_
   refine CQ.seq ?_
   replace hr := gd hr; obtain ⟨hg9, hr⟩ := hr
   refine CQ.r0 fine ?_
   refine EVO.p0 (v := .pp (l.flatMap api_Banded.c) (x_1.toNat * 7)) (Eq.trans (b := ORes.ofP (guardV (inR x_1 l.length) (.pp (l.flatMap api_Banded.c) (x_1.toNat * 7)))) (by kernel_rfl) (ofP_guard hg9)) ?_
   refine EVO.p0 (v := .agg [aI64 (gt l x_1).Grid.X0, aI64 (gt l x_1).Grid.Y0, aI64 (gt l x_1).Grid.Step, aI64 (gt l x_1).Grid.Width, aI64 (gt l x_1).Grid.Height, sI64 (gt l x_1).Grid.Z, sI64 (gt l x_1).Err]) (Eq.trans (b := ORes.ofP (guardV (decide (7 ≤ ((l.flatMap api_Banded.c).drop (x_1.toNat * 7)).length)) (.agg (((l.flatMap api_Banded.c).drop (x_1.toNat * 7)).take 7)))) (by kernel_rfl) (flat_load api_Banded.len (inR_lt hg9) (by decide) (by omega : x_1.toNat * 7 = x_1.toNat * 7 + 0) (by kernel_rfl))) ?_
   refine EVO.e1 (.hp 0 0) [(0, .own [aI64 0, aI64 0, aI64 0, aI64 0, aI64 0, .at (.slice none 0 0), .at (.slice none 0 0)])] ?_
   refine EVO.e1 (.unk) [(0, .own [aI64 (gt l x_1).Grid.X0, aI64 (gt l x_1).Grid.Y0, aI64 (gt l x_1).Grid.Step, aI64 (gt l x_1).Grid.Width, aI64 (gt l x_1).Grid.Height, sI64 (gt l x_1).Grid.Z, sI64 (gt l x_1).Err])] ?_
   refine EVO.done ?_
   refine CQ.n1 [0, 4, 10, 11, 12] (mkS 68 0 [(0, slT api_Banded.c l), (4, .hp 0 0), (10, slT api_Banded.c l), (11, aI64 (l.length : Int)), (12, aI64 x_1)]) [.own [aI64 (gt l x_1).Grid.X0, aI64 (gt l x_1).Grid.Y0, aI64 (gt l x_1).Grid.Step, aI64 (gt l x_1).Grid.Width, aI64 (gt l x_1).Grid.Height, sI64 (gt l x_1).Grid.Z, sI64 (gt l x_1).Err]] ?_
   refine CQ.seq ?_
   replace hr := bd hr; obtain ⟨v10, hc11, hr⟩ := hr
   refine CQ.region fine (callOf_1 9 [.agg [aI64 (gt l x_1).Grid.X0, aI64 (gt l x_1).Grid.Y0, aI64 (gt l x_1).Grid.Step, aI64 (gt l x_1).Grid.Width, aI64 (gt l x_1).Grid.Height, sI64 (gt l x_1).Grid.Z, sI64 (gt l x_1).Err]] [.own [aI64 (gt l x_1).Grid.X0, aI64 (gt l x_1).Grid.Y0, aI64 (gt l x_1).Grid.Step, aI64 (gt l x_1).Grid.Width, aI64 (gt l x_1).Grid.Height, sI64 (gt l x_1).Grid.Z, sI64 (gt l x_1).Err]] (.loc (aI64 v10) [] [] 0) (callOk_val (l := []) (args' := [.agg [aI64 (gt l x_1).Grid.X0, aI64 (gt l x_1).Grid.Y0, aI64 (gt l x_1).Grid.Step, aI64 (gt l x_1).Grid.Width, aI64 (gt l x_1).Grid.Height, sI64 (gt l x_1).Grid.Z, sI64 (gt l x_1).Err]]) rfl (SnL.cons (Sn.pure rfl) SnL.nil) (fiduciallaw59_check_ok n (gt l x_1) v10 hc11))) ?_
   refine EVO.p1 (.agg [aI64 (gt l x_1).Grid.X0, aI64 (gt l x_1).Grid.Y0, aI64 (gt l x_1).Grid.Step, aI64 (gt l x_1).Grid.Width, aI64 (gt l x_1).Grid.Height, sI64 (gt l x_1).Grid.Z, sI64 (gt l x_1).Err]) ?_
   refine EVO.c0 (by kernel_rfl) (callOf_at (by kernel_rfl)) ?_
   refine EVO.p1 (aI64 v10) ?_
   refine EVO.done ?_
   refine CQ.n1 [0, 5, 10, 11, 12] (mkS 68 0 [(0, slT api_Banded.c l), (5, aI64 v10), (10, slT api_Banded.c l), (11, aI64 (l.length : Int)), (12, aI64 x_1)]) [.own [aI64 (gt l x_1).Grid.X0, aI64 (gt l x_1).Grid.Y0, aI64 (gt l x_1).Grid.Step, aI64 (gt l x_1).Grid.Width, aI64 (gt l x_1).Grid.Height, sI64 (gt l x_1).Grid.Z, sI64 (gt l x_1).Err]] ?_
   refine CQ.seq ?_
   refine CQ.r0 fine ?_
   refine EVO.p1 (aI64 v10) ?_
   refine EVO.p1 (aB ((v10 : Int) != 0)) ?_
   refine EVO.done ?_
   refine CQ.n1 [0, 5, 10, 11, 12, 19] (mkS 68 0 [(0, slT api_Banded.c l), (5, aI64 v10), (10, slT api_Banded.c l), (11, aI64 (l.length : Int)), (12, aI64 x_1), (19, aB ((v10 : Int) != 0))]) [.own [aI64 (gt l x_1).Grid.X0, aI64 (gt l x_1).Grid.Y0, aI64 (gt l x_1).Grid.Step, aI64 (gt l x_1).Grid.Width, aI64 (gt l x_1).Grid.Height, sI64 (gt l x_1).Grid.Z, sI64 (gt l x_1).Err]] ?_
   refine CQ.cond (t := (v10 : Int) != 0) (by kernel_rfl) (fun hb12 => ?_) (fun hb12 => ?_)
   ·replace hr := cd_t hb12 hr
    refine CQ.seq ?_
    refine CQ.r0 fine ?_
    refine EVO.p1 (aI64 v10) ?_
    refine EVO.p1 (aI64 v10) ?_
    refine EVO.done ?_
    refine CQ.ret ?_
    obtain rfl := Option.some.inj hr
    exact ⟨rfl, FinQ.ret (vs := [aI64 v10]) (by kernel_rfl) (Sn.pure rfl)⟩
   ·replace hr := cd_f hb12 hr
    refine CQ.skip ?_
    refine CQ.pop ?_
    refine CQ.r0 fine ?_
    refine EVO.p1 (aI64 (wrapF .i64 (x_1 + 1))) ?_
    refine EVO.p1 (aI64 (wrapF .i64 (x_1 + 1))) ?_
    refine EVO.done ?_
    exact loopF_back (wrapF .i64 (x_1 + 1)) hr ((Wk.gc [0, 10, 11, 12] [] rfl trivial).to (by kernel_rfl))
  ·replace hr := cd_f hb8 hr
   refine CQ.leave rfl ?_
   obtain rfl := Option.some.inj hr
   exact ⟨rfl, ((Wk.gc [0] [] rfl trivial).to (by kernel_rfl))⟩
 ·rcases o13 with ⟨⟩ | r0
  ·rintro x st' hq15
   clear hL14
   obtain ⟨rfl, hq15⟩ := hq15
   refine CQ_exit _ rfl ?_
   refine CQ.wk hq15 ?_
   refine CQ.seq ?_
   refine CQ.seq ?_
   refine CQ.r0 fine ?_
   refine EVO.p1 (slT api_Banded.c l) ?_
   refine EVO.p1 (aI64 (l.length : Int)) ?_
   refine EVO.p1 (aI64 0) ?_
   refine EVO.done ?_
   refine CQ.block ?_
   replace hr := bd hr; obtain ⟨o34, hL35, hr⟩ := hr
   refine CQ.loopO (σ := fun z0 => match z0 with | x_16 => ⟨mkS 68 0 [(0, slT api_Banded.c l), (22, slT api_Banded.c l), (23, aI64 (l.length : Int)), (24, aI64 x_16)], []⟩) (Q := fun x st' => match (generalizing := false) o34 with | .inl _ => x = .exit 2 ∧ Wk st' ⟨mkS 68 0 [], []⟩ | .inr (r0) => x = .ret ∧ FinQ Try.prog [.tmp 2] (aI64 r0) .ret st') hL35 ((Wk.gc [0, 22, 23, 24] [] rfl trivial).to (by kernel_rfl)) ?_ ?_
   ·clear hr
    rintro m x_16 hr
    show CQ _ _ _ _ ⟨_, _⟩
    refine CQ.seq ?_
    refine CQ.r0 fine ?_
    refine EVO.p1 (aB (decide (x_16 < (l.length : Int)))) ?_
    refine EVO.done ?_
    refine CQ.seq ?_
    refine CQ.cond (t := decide (x_16 < (l.length : Int))) (by kernel_rfl) (fun hb26 => ?_) (fun hb26 => ?_)
    ·replace hr := cd_t hb26 hr
     refine CQ.skip ?_
     refine CQ.seq ?_
     refine CQ.block ?_
     refine CQ.seq ?_
     replace hr := gd hr; obtain ⟨hg27, hr⟩ := hr
     refine CQ.r0 fine ?_
     refine EVO.p0 (v := .pp (l.flatMap api_Banded.c) (x_16.toNat * 7)) (Eq.trans (b := ORes.ofP (guardV (inR x_16 l.length) (.pp (l.flatMap api_Banded.c) (x_16.toNat * 7)))) (by kernel_rfl) (ofP_guard hg27)) ?_
     refine EVO.p0 (v := .agg [aI64 (gt l x_16).Grid.X0, aI64 (gt l x_16).Grid.Y0, aI64 (gt l x_16).Grid.Step, aI64 (gt l x_16).Grid.Width, aI64 (gt l x_16).Grid.Height, sI64 (gt l x_16).Grid.Z, sI64 (gt l x_16).Err]) (Eq.trans (b := ORes.ofP (guardV (decide (7 ≤ ((l.flatMap api_Banded.c).drop (x_16.toNat * 7)).length)) (.agg (((l.flatMap api_Banded.c).drop (x_16.toNat * 7)).take 7)))) (by kernel_rfl) (flat_load api_Banded.len (inR_lt hg27) (by decide) (by omega : x_16.toNat * 7 = x_16.toNat * 7 + 0) (by kernel_rfl))) ?_
     refine EVO.e1 (.hp 0 0) [(0, .own [aI64 0, aI64 0, aI64 0, aI64 0, aI64 0, .at (.slice none 0 0), .at (.slice none 0 0)])] ?_
     refine EVO.e1 (.unk) [(0, .own [aI64 (gt l x_16).Grid.X0, aI64 (gt l x_16).Grid.Y0, aI64 (gt l x_16).Grid.Step, aI64 (gt l x_16).Grid.Width, aI64 (gt l x_16).Grid.Height, sI64 (gt l x_16).Grid.Z, sI64 (gt l x_16).Err])] ?_
     refine EVO.done ?_
     refine CQ.n1 [0, 7, 22, 23, 24] (mkS 68 0 [(0, slT api_Banded.c l), (7, .hp 0 0), (22, slT api_Banded.c l), (23, aI64 (l.length : Int)), (24, aI64 x_16)]) [.own [aI64 (gt l x_16).Grid.X0, aI64 (gt l x_16).Grid.Y0, aI64 (gt l x_16).Grid.Step, aI64 (gt l x_16).Grid.Width, aI64 (gt l x_16).Grid.Height, sI64 (gt l x_16).Grid.Z, sI64 (gt l x_16).Err]] ?_
     refine CQ.seq ?_
     replace hr := gd hr; obtain ⟨hg28, hr⟩ := hr
     refine CQ.regionT fine callOf_nil ?_
     refine EVT.p1 (slT api_Banded.c l) ?_
     refine EVT.pure (v := .pp (l.flatMap api_Banded.c) ((0 : Int).toNat * 7)) (by kernel_rfl) (Eq.trans (b := ORes.ofP (guardV (inR 0 l.length) (.pp (l.flatMap api_Banded.c) ((0 : Int).toNat * 7)))) (by kernel_rfl) (ofP_guard hg28)) (by kernel_rfl) ?_
     refine EVT.p1 (.pp (l.flatMap api_Banded.c) ((0 : Int).toNat * 7 + 0)) ?_
     refine EVT.pure (v := .agg [aI64 (gt l 0).Grid.X0, aI64 (gt l 0).Grid.Y0, aI64 (gt l 0).Grid.Step, aI64 (gt l 0).Grid.Width, aI64 (gt l 0).Grid.Height, sI64 (gt l 0).Grid.Z]) (by kernel_rfl) (Eq.trans (b := ORes.ofP (guardV (decide (6 ≤ ((l.flatMap api_Banded.c).drop ((0 : Int).toNat * 7 + 0)).length)) (.agg (((l.flatMap api_Banded.c).drop ((0 : Int).toNat * 7 + 0)).take 6)))) (by kernel_rfl) (flat_load api_Banded.len (inR_lt hg28) (by decide) (by omega : (0 : Int).toNat * 7 + 0 = (0 : Int).toNat * 7 + 0) (by kernel_rfl))) (by kernel_rfl) ?_
     refine EVT.p1 (.hp 0 0) ?_
     refine EVT.p1 (.agg [aI64 (gt l x_16).Grid.X0, aI64 (gt l x_16).Grid.Y0, aI64 (gt l x_16).Grid.Step, aI64 (gt l x_16).Grid.Width, aI64 (gt l x_16).Grid.Height, sI64 (gt l x_16).Grid.Z]) ?_
     refine EVT.e1 (.hp 1 0) [(1, .own [aI64 0, aI64 0, aI64 0, aI64 0, aI64 0, .at (.slice none 0 0)])] ?_
     refine EVT.e1 (.hp 2 0) [(2, .own [aI64 0, aI64 0, aI64 0, aI64 0, aI64 0, .at (.slice none 0 0)])] ?_
     refine EVT.e1 (.unk) [(1, .own [aI64 (gt l 0).Grid.X0, aI64 (gt l 0).Grid.Y0, aI64 (gt l 0).Grid.Step, aI64 (gt l 0).Grid.Width, aI64 (gt l 0).Grid.Height, sI64 (gt l 0).Grid.Z])] ?_
     refine EVT.e1 (.unk) [(2, .own [aI64 (gt l x_16).Grid.X0, aI64 (gt l x_16).Grid.Y0, aI64 (gt l x_16).Grid.Step, aI64 (gt l x_16).Grid.Width, aI64 (gt l x_16).Grid.Height, sI64 (gt l x_16).Grid.Z])] ?_
     refine EVT.done ⟨by kernel_rfl, ?_⟩
     refine CQ.n1 [0, 8, 9, 22, 23, 24] (mkS 68 0 [(0, slT api_Banded.c l), (8, .hp 1 0), (9, .hp 2 0), (22, slT api_Banded.c l), (23, aI64 (l.length : Int)), (24, aI64 x_16)]) [.own [aI64 (gt l x_16).Grid.X0, aI64 (gt l x_16).Grid.Y0, aI64 (gt l x_16).Grid.Step, aI64 (gt l x_16).Grid.Width, aI64 (gt l x_16).Grid.Height, sI64 (gt l x_16).Grid.Z, sI64 (gt l x_16).Err], .own [aI64 (gt l 0).Grid.X0, aI64 (gt l 0).Grid.Y0, aI64 (gt l 0).Grid.Step, aI64 (gt l 0).Grid.Width, aI64 (gt l 0).Grid.Height, sI64 (gt l 0).Grid.Z], .own [aI64 (gt l x_16).Grid.X0, aI64 (gt l x_16).Grid.Y0, aI64 (gt l x_16).Grid.Step, aI64 (gt l x_16).Grid.Width, aI64 (gt l x_16).Grid.Height, sI64 (gt l x_16).Grid.Z]] ?_
     refine CQ.seq ?_
     rcases Bool.eq_false_or_eq_true (((gt l 0).Grid.X0 : Int) != (gt l x_16).Grid.X0) with hb29 | hb29
     ·replace hr := cd_t hb29 hr
      refine CQ.r0 fine ?_
      refine EVO.p1 (.hp 1 0) ?_
      refine EVO.p1 (aI64 (gt l 0).Grid.X0) ?_
      refine EVO.p1 (.hp 2 0) ?_
      refine EVO.p1 (aI64 (gt l x_16).Grid.X0) ?_
      refine EVO.p0 (v := aB true) (Eq.trans (b := some (.pure (aB (((gt l 0).Grid.X0 : Int) != (gt l x_16).Grid.X0)))) (by kernel_rfl) (by rw [hb29])) ?_
      refine EVO.p1 (aB true) ?_
      refine EVO.s1 ?_
      refine EVO.s1 ?_
      refine EVO.s1 ?_
      refine EVO.s1 ?_
      refine EVO.s1 ?_
      refine EVO.p1 (aB true) ?_
      refine EVO.p1 (aB true) ?_
      refine EVO.s1 ?_
      refine EVO.s1 ?_
      refine EVO.s1 ?_
      refine EVO.s1 ?_
      refine EVO.s1 ?_
      refine EVO.p1 (aB true) ?_
      refine EVO.p1 (aB true) ?_
      refine EVO.s1 ?_
      refine EVO.s1 ?_
      refine EVO.s1 ?_
      refine EVO.s1 ?_
      refine EVO.s1 ?_
      refine EVO.p1 (aB true) ?_
      refine EVO.p1 (aB true) ?_
      refine EVO.s1 ?_
      refine EVO.s1 ?_
      refine EVO.s1 ?_
      refine EVO.s1 ?_
      refine EVO.s1 ?_
      refine EVO.p1 (aB true) ?_
      refine EVO.done ?_
      refine CQ.n1 [0, 22, 23, 24, 66] (mkS 68 0 [(0, slT api_Banded.c l), (22, slT api_Banded.c l), (23, aI64 (l.length : Int)), (24, aI64 x_16), (66, aB true)]) [.own [aI64 (gt l x_16).Grid.X0, aI64 (gt l x_16).Grid.Y0, aI64 (gt l x_16).Grid.Step, aI64 (gt l x_16).Grid.Width, aI64 (gt l x_16).Grid.Height, sI64 (gt l x_16).Grid.Z, sI64 (gt l x_16).Err], .own [aI64 (gt l 0).Grid.X0, aI64 (gt l 0).Grid.Y0, aI64 (gt l 0).Grid.Step, aI64 (gt l 0).Grid.Width, aI64 (gt l 0).Grid.Height, sI64 (gt l 0).Grid.Z], .own [aI64 (gt l x_16).Grid.X0, aI64 (gt l x_16).Grid.Y0, aI64 (gt l x_16).Grid.Step, aI64 (gt l x_16).Grid.Width, aI64 (gt l x_16).Grid.Height, sI64 (gt l x_16).Grid.Z]] ?_
      refine CQ.cT (by kernel_rfl) ?_
      refine CQ.seq ?_
      refine CQ.r0 fine ?_
      refine EVO.p1 (aI64 4) ?_
      refine EVO.done ?_
      refine CQ.ret ?_
      obtain rfl := Option.some.inj hr
      exact ⟨rfl, FinQ.ret (vs := [aI64 4]) (by kernel_rfl) (Sn.pure rfl)⟩
     ·replace hr := cd_f hb29 hr
      rcases Bool.eq_false_or_eq_true (((gt l 0).Grid.Y0 : Int) != (gt l x_16).Grid.Y0) with hb30 | hb30
      ·replace hr := cd_t hb30 hr
       refine CQ.r0 fine ?_
       refine EVO.p1 (.hp 1 0) ?_
       refine EVO.p1 (aI64 (gt l 0).Grid.X0) ?_
       refine EVO.p1 (.hp 2 0) ?_
       refine EVO.p1 (aI64 (gt l x_16).Grid.X0) ?_
       refine EVO.p0 (v := aB false) (Eq.trans (b := some (.pure (aB (((gt l 0).Grid.X0 : Int) != (gt l x_16).Grid.X0)))) (by kernel_rfl) (by rw [hb29])) ?_
       refine EVO.p1 (aB false) ?_
       refine EVO.q1 (.hp 1 1) ?_
       refine EVO.q1 (aI64 (gt l 0).Grid.Y0) ?_
       refine EVO.q1 (.hp 2 1) ?_
       refine EVO.q1 (aI64 (gt l x_16).Grid.Y0) ?_
       refine EVO.pure (v := aB true) (by kernel_rfl) (Eq.trans (b := some (.pure (aB (((gt l 0).Grid.Y0 : Int) != (gt l x_16).Grid.Y0)))) (by kernel_rfl) (by rw [hb30])) ?_
       refine EVO.p1 (aB true) ?_
       refine EVO.p1 (aB true) ?_
       refine EVO.s1 ?_
       refine EVO.s1 ?_
       refine EVO.s1 ?_
       refine EVO.s1 ?_
       refine EVO.s1 ?_
       refine EVO.p1 (aB true) ?_
       refine EVO.p1 (aB true) ?_
       refine EVO.s1 ?_
       refine EVO.s1 ?_
       refine EVO.s1 ?_
       refine EVO.s1 ?_
       refine EVO.s1 ?_
       refine EVO.p1 (aB true) ?_
       refine EVO.p1 (aB true) ?_
       refine EVO.s1 ?_
       refine EVO.s1 ?_
       refine EVO.s1 ?_
       refine EVO.s1 ?_
       refine EVO.s1 ?_
       refine EVO.p1 (aB true) ?_
       refine EVO.done ?_
       refine CQ.n1 [0, 22, 23, 24, 66] (mkS 68 0 [(0, slT api_Banded.c l), (22, slT api_Banded.c l), (23, aI64 (l.length : Int)), (24, aI64 x_16), (66, aB true)]) [.own [aI64 (gt l x_16).Grid.X0, aI64 (gt l x_16).Grid.Y0, aI64 (gt l x_16).Grid.Step, aI64 (gt l x_16).Grid.Width, aI64 (gt l x_16).Grid.Height, sI64 (gt l x_16).Grid.Z, sI64 (gt l x_16).Err], .own [aI64 (gt l 0).Grid.X0, aI64 (gt l 0).Grid.Y0, aI64 (gt l 0).Grid.Step, aI64 (gt l 0).Grid.Width, aI64 (gt l 0).Grid.Height, sI64 (gt l 0).Grid.Z], .own [aI64 (gt l x_16).Grid.X0, aI64 (gt l x_16).Grid.Y0, aI64 (gt l x_16).Grid.Step, aI64 (gt l x_16).Grid.Width, aI64 (gt l x_16).Grid.Height, sI64 (gt l x_16).Grid.Z]] ?_
       refine CQ.cT (by kernel_rfl) ?_
       refine CQ.seq ?_
       refine CQ.r0 fine ?_
       refine EVO.p1 (aI64 4) ?_
       refine EVO.done ?_
       refine CQ.ret ?_
       obtain rfl := Option.some.inj hr
       exact ⟨rfl, FinQ.ret (vs := [aI64 4]) (by kernel_rfl) (Sn.pure rfl)⟩
      ·replace hr := cd_f hb30 hr
       rcases Bool.eq_false_or_eq_true (((gt l 0).Grid.Step : Int) != (gt l x_16).Grid.Step) with hb31 | hb31
       ·replace hr := cd_t hb31 hr
        refine CQ.r0 fine ?_
        refine EVO.p1 (.hp 1 0) ?_
        refine EVO.p1 (aI64 (gt l 0).Grid.X0) ?_
        refine EVO.p1 (.hp 2 0) ?_
        refine EVO.p1 (aI64 (gt l x_16).Grid.X0) ?_
        refine EVO.p0 (v := aB false) (Eq.trans (b := some (.pure (aB (((gt l 0).Grid.X0 : Int) != (gt l x_16).Grid.X0)))) (by kernel_rfl) (by rw [hb29])) ?_
        refine EVO.p1 (aB false) ?_
        refine EVO.q1 (.hp 1 1) ?_
        refine EVO.q1 (aI64 (gt l 0).Grid.Y0) ?_
        refine EVO.q1 (.hp 2 1) ?_
        refine EVO.q1 (aI64 (gt l x_16).Grid.Y0) ?_
        refine EVO.pure (v := aB false) (by kernel_rfl) (Eq.trans (b := some (.pure (aB (((gt l 0).Grid.Y0 : Int) != (gt l x_16).Grid.Y0)))) (by kernel_rfl) (by rw [hb30])) ?_
        refine EVO.p1 (aB false) ?_
        refine EVO.p1 (aB false) ?_
        refine EVO.q1 (.hp 1 2) ?_
        refine EVO.q1 (aI64 (gt l 0).Grid.Step) ?_
        refine EVO.q1 (.hp 2 2) ?_
        refine EVO.q1 (aI64 (gt l x_16).Grid.Step) ?_
        refine EVO.pure (v := aB true) (by kernel_rfl) (Eq.trans (b := some (.pure (aB (((gt l 0).Grid.Step : Int) != (gt l x_16).Grid.Step)))) (by kernel_rfl) (by rw [hb31])) ?_
        refine EVO.p1 (aB true) ?_
        refine EVO.p1 (aB true) ?_
        refine EVO.s1 ?_
        refine EVO.s1 ?_
        refine EVO.s1 ?_
        refine EVO.s1 ?_
        refine EVO.s1 ?_
        refine EVO.p1 (aB true) ?_
        refine EVO.p1 (aB true) ?_
        refine EVO.s1 ?_
        refine EVO.s1 ?_
        refine EVO.s1 ?_
        refine EVO.s1 ?_
        refine EVO.s1 ?_
        refine EVO.p1 (aB true) ?_
        refine EVO.done ?_
        refine CQ.n1 [0, 22, 23, 24, 66] (mkS 68 0 [(0, slT api_Banded.c l), (22, slT api_Banded.c l), (23, aI64 (l.length : Int)), (24, aI64 x_16), (66, aB true)]) [.own [aI64 (gt l x_16).Grid.X0, aI64 (gt l x_16).Grid.Y0, aI64 (gt l x_16).Grid.Step, aI64 (gt l x_16).Grid.Width, aI64 (gt l x_16).Grid.Height, sI64 (gt l x_16).Grid.Z, sI64 (gt l x_16).Err], .own [aI64 (gt l 0).Grid.X0, aI64 (gt l 0).Grid.Y0, aI64 (gt l 0).Grid.Step, aI64 (gt l 0).Grid.Width, aI64 (gt l 0).Grid.Height, sI64 (gt l 0).Grid.Z], .own [aI64 (gt l x_16).Grid.X0, aI64 (gt l x_16).Grid.Y0, aI64 (gt l x_16).Grid.Step, aI64 (gt l x_16).Grid.Width, aI64 (gt l x_16).Grid.Height, sI64 (gt l x_16).Grid.Z]] ?_
        refine CQ.cT (by kernel_rfl) ?_
        refine CQ.seq ?_
        refine CQ.r0 fine ?_
        refine EVO.p1 (aI64 4) ?_
        refine EVO.done ?_
        refine CQ.ret ?_
        obtain rfl := Option.some.inj hr
        exact ⟨rfl, FinQ.ret (vs := [aI64 4]) (by kernel_rfl) (Sn.pure rfl)⟩
       ·replace hr := cd_f hb31 hr
        rcases Bool.eq_false_or_eq_true (((gt l 0).Grid.Width : Int) != (gt l x_16).Grid.Width) with hb32 | hb32
        ·replace hr := cd_t hb32 hr
         refine CQ.r0 fine ?_
         refine EVO.p1 (.hp 1 0) ?_
         refine EVO.p1 (aI64 (gt l 0).Grid.X0) ?_
         refine EVO.p1 (.hp 2 0) ?_
         refine EVO.p1 (aI64 (gt l x_16).Grid.X0) ?_
         refine EVO.p0 (v := aB false) (Eq.trans (b := some (.pure (aB (((gt l 0).Grid.X0 : Int) != (gt l x_16).Grid.X0)))) (by kernel_rfl) (by rw [hb29])) ?_
         refine EVO.p1 (aB false) ?_
         refine EVO.q1 (.hp 1 1) ?_
         refine EVO.q1 (aI64 (gt l 0).Grid.Y0) ?_
         refine EVO.q1 (.hp 2 1) ?_
         refine EVO.q1 (aI64 (gt l x_16).Grid.Y0) ?_
         refine EVO.pure (v := aB false) (by kernel_rfl) (Eq.trans (b := some (.pure (aB (((gt l 0).Grid.Y0 : Int) != (gt l x_16).Grid.Y0)))) (by kernel_rfl) (by rw [hb30])) ?_
         refine EVO.p1 (aB false) ?_
         refine EVO.p1 (aB false) ?_
         refine EVO.q1 (.hp 1 2) ?_
         refine EVO.q1 (aI64 (gt l 0).Grid.Step) ?_
         refine EVO.q1 (.hp 2 2) ?_
         refine EVO.q1 (aI64 (gt l x_16).Grid.Step) ?_
         refine EVO.pure (v := aB false) (by kernel_rfl) (Eq.trans (b := some (.pure (aB (((gt l 0).Grid.Step : Int) != (gt l x_16).Grid.Step)))) (by kernel_rfl) (by rw [hb31])) ?_
         refine EVO.p1 (aB false) ?_
         refine EVO.p1 (aB false) ?_
         refine EVO.q1 (.hp 1 3) ?_
         refine EVO.q1 (aI64 (gt l 0).Grid.Width) ?_
         refine EVO.q1 (.hp 2 3) ?_
         refine EVO.q1 (aI64 (gt l x_16).Grid.Width) ?_
         refine EVO.pure (v := aB true) (by kernel_rfl) (Eq.trans (b := some (.pure (aB (((gt l 0).Grid.Width : Int) != (gt l x_16).Grid.Width)))) (by kernel_rfl) (by rw [hb32])) ?_
         refine EVO.p1 (aB true) ?_
         refine EVO.p1 (aB true) ?_
         refine EVO.s1 ?_
         refine EVO.s1 ?_
         refine EVO.s1 ?_
         refine EVO.s1 ?_
         refine EVO.s1 ?_
         refine EVO.p1 (aB true) ?_
         refine EVO.done ?_
         refine CQ.n1 [0, 22, 23, 24, 66] (mkS 68 0 [(0, slT api_Banded.c l), (22, slT api_Banded.c l), (23, aI64 (l.length : Int)), (24, aI64 x_16), (66, aB true)]) [.own [aI64 (gt l x_16).Grid.X0, aI64 (gt l x_16).Grid.Y0, aI64 (gt l x_16).Grid.Step, aI64 (gt l x_16).Grid.Width, aI64 (gt l x_16).Grid.Height, sI64 (gt l x_16).Grid.Z, sI64 (gt l x_16).Err], .own [aI64 (gt l 0).Grid.X0, aI64 (gt l 0).Grid.Y0, aI64 (gt l 0).Grid.Step, aI64 (gt l 0).Grid.Width, aI64 (gt l 0).Grid.Height, sI64 (gt l 0).Grid.Z], .own [aI64 (gt l x_16).Grid.X0, aI64 (gt l x_16).Grid.Y0, aI64 (gt l x_16).Grid.Step, aI64 (gt l x_16).Grid.Width, aI64 (gt l x_16).Grid.Height, sI64 (gt l x_16).Grid.Z]] ?_
         refine CQ.cT (by kernel_rfl) ?_
         refine CQ.seq ?_
         refine CQ.r0 fine ?_
         refine EVO.p1 (aI64 4) ?_
         refine EVO.done ?_
         refine CQ.ret ?_
         obtain rfl := Option.some.inj hr
         exact ⟨rfl, FinQ.ret (vs := [aI64 4]) (by kernel_rfl) (Sn.pure rfl)⟩
        ·replace hr := cd_f hb32 hr
         refine CQ.r0 fine ?_
         refine EVO.p1 (.hp 1 0) ?_
         refine EVO.p1 (aI64 (gt l 0).Grid.X0) ?_
         refine EVO.p1 (.hp 2 0) ?_
         refine EVO.p1 (aI64 (gt l x_16).Grid.X0) ?_
         refine EVO.p0 (v := aB false) (Eq.trans (b := some (.pure (aB (((gt l 0).Grid.X0 : Int) != (gt l x_16).Grid.X0)))) (by kernel_rfl) (by rw [hb29])) ?_
         refine EVO.p1 (aB false) ?_
         refine EVO.q1 (.hp 1 1) ?_
         refine EVO.q1 (aI64 (gt l 0).Grid.Y0) ?_
         refine EVO.q1 (.hp 2 1) ?_
         refine EVO.q1 (aI64 (gt l x_16).Grid.Y0) ?_
         refine EVO.pure (v := aB false) (by kernel_rfl) (Eq.trans (b := some (.pure (aB (((gt l 0).Grid.Y0 : Int) != (gt l x_16).Grid.Y0)))) (by kernel_rfl) (by rw [hb30])) ?_
         refine EVO.p1 (aB false) ?_
         refine EVO.p1 (aB false) ?_
         refine EVO.q1 (.hp 1 2) ?_
         refine EVO.q1 (aI64 (gt l 0).Grid.Step) ?_
         refine EVO.q1 (.hp 2 2) ?_
         refine EVO.q1 (aI64 (gt l x_16).Grid.Step) ?_
         refine EVO.pure (v := aB false) (by kernel_rfl) (Eq.trans (b := some (.pure (aB (((gt l 0).Grid.Step : Int) != (gt l x_16).Grid.Step)))) (by kernel_rfl) (by rw [hb31])) ?_
         refine EVO.p1 (aB false) ?_
         refine EVO.p1 (aB false) ?_
         refine EVO.q1 (.hp 1 3) ?_
         refine EVO.q1 (aI64 (gt l 0).Grid.Width) ?_
         refine EVO.q1 (.hp 2 3) ?_
         refine EVO.q1 (aI64 (gt l x_16).Grid.Width) ?_
         refine EVO.pure (v := aB false) (by kernel_rfl) (Eq.trans (b := some (.pure (aB (((gt l 0).Grid.Width : Int) != (gt l x_16).Grid.Width)))) (by kernel_rfl) (by rw [hb32])) ?_
         refine EVO.p1 (aB false) ?_
         refine EVO.p1 (aB false) ?_
         refine EVO.q1 (.hp 1 4) ?_
         refine EVO.q1 (aI64 (gt l 0).Grid.Height) ?_
         refine EVO.q1 (.hp 2 4) ?_
         refine EVO.q1 (aI64 (gt l x_16).Grid.Height) ?_
         refine EVO.q1 (aB (((gt l 0).Grid.Height : Int) != (gt l x_16).Grid.Height)) ?_
         refine EVO.p1 (aB (((gt l 0).Grid.Height : Int) != (gt l x_16).Grid.Height)) ?_
         refine EVO.done ?_
         refine CQ.n1 [0, 22, 23, 24, 66] (mkS 68 0 [(0, slT api_Banded.c l), (22, slT api_Banded.c l), (23, aI64 (l.length : Int)), (24, aI64 x_16), (66, aB (((gt l 0).Grid.Height : Int) != (gt l x_16).Grid.Height))]) [.own [aI64 (gt l x_16).Grid.X0, aI64 (gt l x_16).Grid.Y0, aI64 (gt l x_16).Grid.Step, aI64 (gt l x_16).Grid.Width, aI64 (gt l x_16).Grid.Height, sI64 (gt l x_16).Grid.Z, sI64 (gt l x_16).Err], .own [aI64 (gt l 0).Grid.X0, aI64 (gt l 0).Grid.Y0, aI64 (gt l 0).Grid.Step, aI64 (gt l 0).Grid.Width, aI64 (gt l 0).Grid.Height, sI64 (gt l 0).Grid.Z], .own [aI64 (gt l x_16).Grid.X0, aI64 (gt l x_16).Grid.Y0, aI64 (gt l x_16).Grid.Step, aI64 (gt l x_16).Grid.Width, aI64 (gt l x_16).Grid.Height, sI64 (gt l x_16).Grid.Z]] ?_
         refine CQ.cond (t := ((gt l 0).Grid.Height : Int) != (gt l x_16).Grid.Height) (by kernel_rfl) (fun hb33 => ?_) (fun hb33 => ?_)
         ·replace hr := cd_t hb33 hr
          refine CQ.seq ?_
          refine CQ.r0 fine ?_
          refine EVO.p1 (aI64 4) ?_
          refine EVO.done ?_
          refine CQ.ret ?_
          obtain rfl := Option.some.inj hr
          exact ⟨rfl, FinQ.ret (vs := [aI64 4]) (by kernel_rfl) (Sn.pure rfl)⟩
         ·replace hr := cd_f hb33 hr
          refine CQ.skip ?_
          refine CQ.pop ?_
          refine CQ.r0 fine ?_
          refine EVO.p1 (aI64 (wrapF .i64 (x_16 + 1))) ?_
          refine EVO.p1 (aI64 (wrapF .i64 (x_16 + 1))) ?_
          refine EVO.done ?_
          exact loopF_back (wrapF .i64 (x_16 + 1)) hr ((Wk.gc [0, 22, 23, 24] [] rfl trivial).to (by kernel_rfl))
    ·replace hr := cd_f hb26 hr
     refine CQ.leave rfl ?_
     obtain rfl := Option.some.inj hr
     exact ⟨rfl, ((Wk.gc [] [] rfl trivial).to (by kernel_rfl))⟩
   ·rcases o34 with ⟨⟩ | r0
    ·rintro x st' hq36
     clear hL35
     obtain ⟨rfl, hq36⟩ := hq36
     refine CQ_exit _ rfl ?_
     refine CQ.wk hq36 ?_
     refine CQ.seq ?_
     refine CQ.r0 fine ?_
     refine EVO.p1 (aI64 0) ?_
     refine EVO.done ?_
     refine CQ.ret ?_
     obtain rfl := Option.some.inj hr
     exact FinQ.r1 [aI64 0]
    ·rintro x st' hq36
     clear hL35
     obtain ⟨rfl, hq36⟩ := hq36
     obtain rfl := Option.some.inj hr
     exact CQ_ret _ hq36
  ·rintro x st' hq15
   clear hL14
   obtain ⟨rfl, hq15⟩ := hq15
   obtain rfl := Option.some.inj hr
   exact CQ_ret _ hq15

theorem fiduciallaw59_truth_inj {b : api_Banded} {k : Int} {part : Int} {b_ : api_Banded} {k_ : Int} {part_ : Int} (h : ([.agg [.at (.int .i64 b.Grid.X0), .at (.int .i64 b.Grid.Y0), .at (.int .i64 b.Grid.Step), .at (.int .i64 b.Grid.Width), .at (.int .i64 b.Grid.Height), slT (iC .i64) b.Grid.Z, slT (iC .i64) b.Err], .at (.int .i64 k), .at (.int .u8 part)] : List AV) = [.agg [.at (.int .i64 b_.Grid.X0), .at (.int .i64 b_.Grid.Y0), .at (.int .i64 b_.Grid.Step), .at (.int .i64 b_.Grid.Width), .at (.int .i64 b_.Grid.Height), slT (iC .i64) b_.Grid.Z, slT (iC .i64) b_.Err], .at (.int .i64 k_), .at (.int .u8 part_)]) : b = b_ ∧ k = k_ ∧ part = part_ := by
 obtain ⟨⟨_, _, _, _, _, _⟩, _⟩ := b
 obtain ⟨⟨_, _, _, _, _, _⟩, _⟩ := b_
 simp only [List.cons.injEq, AV.agg.injEq, AV.at.injEq, Value.int.injEq, Value.bool.injEq, AV.fn.injEq, AV.pp.injEq, true_and, and_true, slT_inj_int] at h
 simp_all
theorem fiduciallaw59_truth_ok (n : Nat) (b : api_Banded) (k : Int) (part : Int) (r : Int) (hr : fiduciallaw59_truth n b k part = some r) : FnOk Try.prog 12 [.agg [.at (.int .i64 b.Grid.X0), .at (.int .i64 b.Grid.Y0), .at (.int .i64 b.Grid.Step), .at (.int .i64 b.Grid.Width), .at (.int .i64 b.Grid.Height), slT (iC .i64) b.Grid.Z, slT (iC .i64) b.Err], .at (.int .i64 k), .at (.int .u8 part)] (.at (.int .i64 r)) := by
 unfold fiduciallaw59_truth at hr
 refine FnOk.body fine Try.func12 (c := (Try.f12.body).getD .skip) rfl (s := mkS 30 0 [(0, .agg [aI64 b.Grid.X0, aI64 b.Grid.Y0, aI64 b.Grid.Step, aI64 b.Grid.Width, aI64 b.Grid.Height, sI64 b.Grid.Z, sI64 b.Err]), (1, aI64 k), (2, aU8 part)]) (by kernel_rfl) (rs := [.tmp 6]) rfl ?_
 unfold Try.f12
 simp only [Option.getD_some]
 refine CQ.seq ?_
 refine CQ.r0 fine ?_
 refine EVO.e1 (.hp 0 0) [(0, .own [aI64 b.Grid.X0, aI64 b.Grid.Y0, aI64 b.Grid.Step, aI64 b.Grid.Width, aI64 b.Grid.Height, sI64 b.Grid.Z, sI64 b.Err])] ?_
 refine EVO.p1 (aI64 0) ?_
 refine EVO.done ?_
 refine CQ.n1 [1, 2, 3] (mkS 30 0 [(1, aI64 k), (2, aU8 part), (3, .hp 0 0)]) [.own [aI64 b.Grid.X0, aI64 b.Grid.Y0, aI64 b.Grid.Step, aI64 b.Grid.Width, aI64 b.Grid.Height, sI64 b.Grid.Z, sI64 b.Err]] ?_
 refine CQ.seq ?_
 replace hr := gd hr; obtain ⟨hg1, hr⟩ := hr
 replace hr := gd hr; obtain ⟨hg2, hr⟩ := hr
 refine CQ.regionT fine callOf_nil ?_
 refine EVT.p1 (.hp 0 0) ?_
 refine EVT.p1 (.hp 0 5) ?_
 refine EVT.p1 (sI64 b.Grid.Z) ?_
 refine EVT.p1 (aI64 k) ?_
 refine EVT.pure (v := .pp (b.Grid.Z.flatMap (iC .i64)) (k.toNat * 1)) (by kernel_rfl) (Eq.trans (b := ORes.ofP (guardV (inR k b.Grid.Z.length) (.pp (b.Grid.Z.flatMap (iC .i64)) (k.toNat * 1)))) (by kernel_rfl) (ofP_guard hg1)) (by kernel_rfl) ?_
 refine EVT.pure (v := aI64 (gt b.Grid.Z k)) (by kernel_rfl) (Eq.trans (b := ORes.ofP ((b.Grid.Z.flatMap (iC .i64))[k.toNat * 1]?)) (by kernel_rfl) (ofP_some (flat_get (iC_len _) (inR_lt hg1) (by decide : 0 < 1) (by omega : k.toNat * 1 = k.toNat * 1 + 0) (by kernel_rfl)))) (by kernel_rfl) ?_
 refine EVT.p1 (.hp 0 6) ?_
 refine EVT.p1 (sI64 b.Err) ?_
 refine EVT.p1 (aI64 k) ?_
 refine EVT.pure (v := .pp (b.Err.flatMap (iC .i64)) (k.toNat * 1)) (by kernel_rfl) (Eq.trans (b := ORes.ofP (guardV (inR k b.Err.length) (.pp (b.Err.flatMap (iC .i64)) (k.toNat * 1)))) (by kernel_rfl) (ofP_guard hg2)) (by kernel_rfl) ?_
 refine EVT.pure (v := aI64 (gt b.Err k)) (by kernel_rfl) (Eq.trans (b := ORes.ofP ((b.Err.flatMap (iC .i64))[k.toNat * 1]?)) (by kernel_rfl) (ofP_some (flat_get (iC_len _) (inR_lt hg2) (by decide : 0 < 1) (by omega : k.toNat * 1 = k.toNat * 1 + 0) (by kernel_rfl)))) (by kernel_rfl) ?_
 refine EVT.p1 (aI64 (wrapF .i64 ((gt b.Grid.Z k) - (gt b.Err k)))) ?_
 refine EVT.p1 (.hp 0 6) ?_
 refine EVT.p1 (sI64 b.Err) ?_
 refine EVT.p1 (aI64 k) ?_
 refine EVT.pure (v := .pp (b.Err.flatMap (iC .i64)) (k.toNat * 1)) (by kernel_rfl) (Eq.trans (b := ORes.ofP (guardV (inR k b.Err.length) (.pp (b.Err.flatMap (iC .i64)) (k.toNat * 1)))) (by kernel_rfl) (ofP_guard hg2)) (by kernel_rfl) ?_
 refine EVT.pure (v := aI64 (gt b.Err k)) (by kernel_rfl) (Eq.trans (b := ORes.ofP ((b.Err.flatMap (iC .i64))[k.toNat * 1]?)) (by kernel_rfl) (ofP_some (flat_get (iC_len _) (inR_lt hg2) (by decide : 0 < 1) (by omega : k.toNat * 1 = k.toNat * 1 + 0) (by kernel_rfl)))) (by kernel_rfl) ?_
 refine EVT.p1 (aI64 (wrapF .i64 (2 * (gt b.Err k)))) ?_
 refine EVT.p1 (aU8 part) ?_
 refine EVT.p1 (aI64 (wrapF .i64 part)) ?_
 refine EVT.p1 (aI64 (wrapF .i64 ((wrapF .i64 (2 * (gt b.Err k))) * (wrapF .i64 part)))) ?_
 refine EVT.p1 (aI64 (wrapF .i64 ((wrapF .i64 ((wrapF .i64 (2 * (gt b.Err k))) * (wrapF .i64 part))).tdiv 255))) ?_
 refine EVT.p1 (aI64 (wrapF .i64 ((wrapF .i64 ((gt b.Grid.Z k) - (gt b.Err k))) + (wrapF .i64 ((wrapF .i64 ((wrapF .i64 (2 * (gt b.Err k))) * (wrapF .i64 part))).tdiv 255))))) ?_
 refine EVT.p1 (aI64 (wrapF .i64 ((wrapF .i64 ((gt b.Grid.Z k) - (gt b.Err k))) + (wrapF .i64 ((wrapF .i64 ((wrapF .i64 (2 * (gt b.Err k))) * (wrapF .i64 part))).tdiv 255))))) ?_
 refine EVT.done ⟨by kernel_rfl, ?_⟩
 refine CQ.ret ?_
 obtain rfl := Option.some.inj hr
 exact FinQ.r1 [aI64 (wrapF .i64 ((wrapF .i64 ((gt b.Grid.Z k) - (gt b.Err k))) + (wrapF .i64 ((wrapF .i64 ((wrapF .i64 (2 * (gt b.Err k))) * (wrapF .i64 part))).tdiv 255))))]

theorem fiduciallaw59_ChangeSound_ok (n : Nat) (a : api_Banded) (b : api_Banded) (parts : A2 (List Int)) (r : Bool) (hr : fiduciallaw59_ChangeSound n a b parts = some r) : FnOk Try.prog 4 [.agg [.at (.int .i64 a.Grid.X0), .at (.int .i64 a.Grid.Y0), .at (.int .i64 a.Grid.Step), .at (.int .i64 a.Grid.Width), .at (.int .i64 a.Grid.Height), slT (iC .i64) a.Grid.Z, slT (iC .i64) a.Err], .agg [.at (.int .i64 b.Grid.X0), .at (.int .i64 b.Grid.Y0), .at (.int .i64 b.Grid.Step), .at (.int .i64 b.Grid.Width), .at (.int .i64 b.Grid.Height), slT (iC .i64) b.Grid.Z, slT (iC .i64) b.Err], .agg [slT (iC .u8) parts.e0, slT (iC .u8) parts.e1]] (.at (.bool r)) := by
 unfold fiduciallaw59_ChangeSound at hr
 refine FnOk.body fine Try.func4 (c := (Try.f4.body).getD .skip) rfl (s := mkS 104 0 [(0, .agg [aI64 a.Grid.X0, aI64 a.Grid.Y0, aI64 a.Grid.Step, aI64 a.Grid.Width, aI64 a.Grid.Height, sI64 a.Grid.Z, sI64 a.Err]), (1, .agg [aI64 b.Grid.X0, aI64 b.Grid.Y0, aI64 b.Grid.Step, aI64 b.Grid.Width, aI64 b.Grid.Height, sI64 b.Grid.Z, sI64 b.Err]), (2, .agg [sU8 parts.e0, sU8 parts.e1])]) (by kernel_rfl) (rs := [.tmp 6]) rfl ?_
 unfold Try.f4
 simp only [Option.getD_some]
 refine CQ.seq ?_
 refine CQ.r0 fine ?_
 refine EVO.e1 (.hp 0 0) [(0, .own [aI64 a.Grid.X0, aI64 a.Grid.Y0, aI64 a.Grid.Step, aI64 a.Grid.Width, aI64 a.Grid.Height, sI64 a.Grid.Z, sI64 a.Err])] ?_
 refine EVO.e1 (.hp 1 0) [(1, .own [aI64 b.Grid.X0, aI64 b.Grid.Y0, aI64 b.Grid.Step, aI64 b.Grid.Width, aI64 b.Grid.Height, sI64 b.Grid.Z, sI64 b.Err])] ?_
 refine EVO.e1 (.hp 2 0) [(2, .own [sU8 parts.e0, sU8 parts.e1])] ?_
 refine EVO.p1 (aB false) ?_
 refine EVO.done ?_
 refine CQ.n1 [3, 4, 5] (mkS 104 0 [(3, .hp 0 0), (4, .hp 1 0), (5, .hp 2 0)]) [.own [aI64 a.Grid.X0, aI64 a.Grid.Y0, aI64 a.Grid.Step, aI64 a.Grid.Width, aI64 a.Grid.Height, sI64 a.Grid.Z, sI64 a.Err], .own [aI64 b.Grid.X0, aI64 b.Grid.Y0, aI64 b.Grid.Step, aI64 b.Grid.Width, aI64 b.Grid.Height, sI64 b.Grid.Z, sI64 b.Err], .own [sU8 parts.e0, sU8 parts.e1]] ?_
 refine CQ.seq ?_
 refine CQ.seq ?_
 replace hr := bd hr; obtain ⟨v1, hc2, hr⟩ := hr
 refine CQ.region fine (callOf_1 6 [] [.own [aI64 a.Grid.X0, aI64 a.Grid.Y0, aI64 a.Grid.Step, aI64 a.Grid.Width, aI64 a.Grid.Height, sI64 a.Grid.Z, sI64 a.Err], .own [aI64 b.Grid.X0, aI64 b.Grid.Y0, aI64 b.Grid.Step, aI64 b.Grid.Width, aI64 b.Grid.Height, sI64 b.Grid.Z, sI64 b.Err], .own [sU8 parts.e0, sU8 parts.e1]] (.loc (aB v1) [] [] 0) (callOk_val (l := []) (args' := []) rfl SnL.nil (fiduciallaw59_known_ok n v1 hc2))) ?_
 refine EVO.c0 (by kernel_rfl) (callOf_at (by kernel_rfl)) ?_
 refine EVO.p1 (aB (!v1)) ?_
 refine EVO.done ?_
 refine CQ.n1 [3, 4, 5, 14] (mkS 104 0 [(3, .hp 0 0), (4, .hp 1 0), (5, .hp 2 0), (14, aB (!v1))]) [.own [aI64 a.Grid.X0, aI64 a.Grid.Y0, aI64 a.Grid.Step, aI64 a.Grid.Width, aI64 a.Grid.Height, sI64 a.Grid.Z, sI64 a.Err], .own [aI64 b.Grid.X0, aI64 b.Grid.Y0, aI64 b.Grid.Step, aI64 b.Grid.Width, aI64 b.Grid.Height, sI64 b.Grid.Z, sI64 b.Err], .own [sU8 parts.e0, sU8 parts.e1]] ?_
 refine CQ.cond (t := !v1) (by kernel_rfl) (fun hb3 => ?_) (fun hb3 => ?_)
 ·replace hr := cd_t hb3 hr
  refine CQ.seq ?_
  refine CQ.r0 fine ?_
  refine EVO.p1 (aB false) ?_
  refine EVO.done ?_
  refine CQ.ret ?_
  obtain rfl := Option.some.inj hr
  exact FinQ.r1 [aB false]
 ·replace hr := cd_f hb3 hr
  refine CQ.skip ?_
  refine CQ.seq ?_
  refine CQ.seq ?_
  replace hr := bd hr; obtain ⟨v4, hc5, hr⟩ := hr
  rcases Bool.eq_false_or_eq_true (!v4) with hb6 | hb6
  ·replace hr := cd_t hb6 hr
   refine CQ.region fine (callOf_1 7 [.hs 3 0 2 7] [.own [aI64 a.Grid.X0, aI64 a.Grid.Y0, aI64 a.Grid.Step, aI64 a.Grid.Width, aI64 a.Grid.Height, sI64 a.Grid.Z, sI64 a.Err], .own [aI64 b.Grid.X0, aI64 b.Grid.Y0, aI64 b.Grid.Step, aI64 b.Grid.Width, aI64 b.Grid.Height, sI64 b.Grid.Z, sI64 b.Err], .own [sU8 parts.e0, sU8 parts.e1], .own [aI64 a.Grid.X0, aI64 a.Grid.Y0, aI64 a.Grid.Step, aI64 a.Grid.Width, aI64 a.Grid.Height, sI64 a.Grid.Z, sI64 a.Err, aI64 b.Grid.X0, aI64 b.Grid.Y0, aI64 b.Grid.Step, aI64 b.Grid.Width, aI64 b.Grid.Height, sI64 b.Grid.Z, sI64 b.Err]] (.loc (aB v4) [] [3] 0) (callOk_val (l := [3]) (args' := [slT api_Banded.c [a, b]]) rfl (SnL.cons (Sn.hs rfl (.inl rfl) (SnC.cons (Sn.pure rfl) (SnC.cons (Sn.pure rfl) (SnC.cons (Sn.pure rfl) (SnC.cons (Sn.pure rfl) (SnC.cons (Sn.pure rfl) (SnC.cons (Sn.pure rfl) (SnC.cons (Sn.pure rfl) (SnC.cons (Sn.pure rfl) (SnC.cons (Sn.pure rfl) (SnC.cons (Sn.pure rfl) (SnC.cons (Sn.pure rfl) (SnC.cons (Sn.pure rfl) (SnC.cons (Sn.pure rfl) (SnC.cons (Sn.pure rfl) SnC.nil)))))))))))))) (fun h => nomatch h)) SnL.nil) (fiduciallaw59_few_ok n [a, b] v4 hc5))) ?_
   refine EVO.p1 (.agg [aI64 a.Grid.X0, aI64 a.Grid.Y0, aI64 a.Grid.Step, aI64 a.Grid.Width, aI64 a.Grid.Height, sI64 a.Grid.Z, sI64 a.Err]) ?_
   refine EVO.p1 (.agg [aI64 b.Grid.X0, aI64 b.Grid.Y0, aI64 b.Grid.Step, aI64 b.Grid.Width, aI64 b.Grid.Height, sI64 b.Grid.Z, sI64 b.Err]) ?_
   refine EVO.e1 (.hs 3 0 2 7) [(3, .own [aI64 a.Grid.X0, aI64 a.Grid.Y0, aI64 a.Grid.Step, aI64 a.Grid.Width, aI64 a.Grid.Height, sI64 a.Grid.Z, sI64 a.Err, aI64 b.Grid.X0, aI64 b.Grid.Y0, aI64 b.Grid.Step, aI64 b.Grid.Width, aI64 b.Grid.Height, sI64 b.Grid.Z, sI64 b.Err])] ?_
   refine EVO.c0 (by kernel_rfl) (callOf_at (by kernel_rfl)) ?_
   refine EVO.p0 (v := aB true) (Eq.trans (b := some (.pure (aB (!v4)))) (by kernel_rfl) (by rw [hb6])) ?_
   refine EVO.p1 (aB true) ?_
   refine EVO.s1 ?_
   refine EVO.s1 ?_
   refine EVO.s1 ?_
   refine EVO.s1 ?_
   refine EVO.s1 ?_
   refine EVO.p1 (aB true) ?_
   refine EVO.p1 (aB true) ?_
   refine EVO.s1 ?_
   refine EVO.s1 ?_
   refine EVO.s1 ?_
   refine EVO.s1 ?_
   refine EVO.s1 ?_
   refine EVO.s1 ?_
   refine EVO.s1 ?_
   refine EVO.s1 ?_
   refine EVO.p1 (aB true) ?_
   refine EVO.p1 (aB true) ?_
   refine EVO.s1 ?_
   refine EVO.s1 ?_
   refine EVO.s1 ?_
   refine EVO.s1 ?_
   refine EVO.s1 ?_
   refine EVO.s1 ?_
   refine EVO.s1 ?_
   refine EVO.s1 ?_
   refine EVO.p1 (aB true) ?_
   refine EVO.done ?_
   refine CQ.n1 [3, 4, 5, 46] (mkS 104 0 [(3, .hp 0 0), (4, .hp 1 0), (5, .hp 2 0), (46, aB true)]) [.own [aI64 a.Grid.X0, aI64 a.Grid.Y0, aI64 a.Grid.Step, aI64 a.Grid.Width, aI64 a.Grid.Height, sI64 a.Grid.Z, sI64 a.Err], .own [aI64 b.Grid.X0, aI64 b.Grid.Y0, aI64 b.Grid.Step, aI64 b.Grid.Width, aI64 b.Grid.Height, sI64 b.Grid.Z, sI64 b.Err], .own [sU8 parts.e0, sU8 parts.e1], .own [aI64 a.Grid.X0, aI64 a.Grid.Y0, aI64 a.Grid.Step, aI64 a.Grid.Width, aI64 a.Grid.Height, sI64 a.Grid.Z, sI64 a.Err, aI64 b.Grid.X0, aI64 b.Grid.Y0, aI64 b.Grid.Step, aI64 b.Grid.Width, aI64 b.Grid.Height, sI64 b.Grid.Z, sI64 b.Err]] ?_
   refine CQ.cT (by kernel_rfl) ?_
   refine CQ.seq ?_
   refine CQ.r0 fine ?_
   refine EVO.p1 (aB true) ?_
   refine EVO.done ?_
   refine CQ.ret ?_
   obtain rfl := Option.some.inj hr
   exact FinQ.r1 [aB true]
  ·replace hr := cd_f hb6 hr
   replace hr := bd hr; obtain ⟨v7, hc8, hr⟩ := hr
   rcases Bool.eq_false_or_eq_true ((v7 : Int) != 0) with hb9 | hb9
   ·replace hr := cd_t hb9 hr
    refine CQ.region fine (callOf_ok [{ f := 7, args := [.hs 3 0 2 7], H := [.own [aI64 a.Grid.X0, aI64 a.Grid.Y0, aI64 a.Grid.Step, aI64 a.Grid.Width, aI64 a.Grid.Height, sI64 a.Grid.Z, sI64 a.Err], .own [aI64 b.Grid.X0, aI64 b.Grid.Y0, aI64 b.Grid.Step, aI64 b.Grid.Width, aI64 b.Grid.Height, sI64 b.Grid.Z, sI64 b.Err], .own [sU8 parts.e0, sU8 parts.e1], .own [aI64 a.Grid.X0, aI64 a.Grid.Y0, aI64 a.Grid.Step, aI64 a.Grid.Width, aI64 a.Grid.Height, sI64 a.Grid.Z, sI64 a.Err, aI64 b.Grid.X0, aI64 b.Grid.Y0, aI64 b.Grid.Step, aI64 b.Grid.Width, aI64 b.Grid.Height, sI64 b.Grid.Z, sI64 b.Err]], r := .loc (aB v4) [] [3] 0 : CE }, { f := 10, args := [.hs 4 0 2 7], H := [.own [aI64 a.Grid.X0, aI64 a.Grid.Y0, aI64 a.Grid.Step, aI64 a.Grid.Width, aI64 a.Grid.Height, sI64 a.Grid.Z, sI64 a.Err], .own [aI64 b.Grid.X0, aI64 b.Grid.Y0, aI64 b.Grid.Step, aI64 b.Grid.Width, aI64 b.Grid.Height, sI64 b.Grid.Z, sI64 b.Err], .own [sU8 parts.e0, sU8 parts.e1], .own [aI64 a.Grid.X0, aI64 a.Grid.Y0, aI64 a.Grid.Step, aI64 a.Grid.Width, aI64 a.Grid.Height, sI64 a.Grid.Z, sI64 a.Err, aI64 b.Grid.X0, aI64 b.Grid.Y0, aI64 b.Grid.Step, aI64 b.Grid.Width, aI64 b.Grid.Height, sI64 b.Grid.Z, sI64 b.Err], .own [aI64 a.Grid.X0, aI64 a.Grid.Y0, aI64 a.Grid.Step, aI64 a.Grid.Width, aI64 a.Grid.Height, sI64 a.Grid.Z, sI64 a.Err, aI64 b.Grid.X0, aI64 b.Grid.Y0, aI64 b.Grid.Step, aI64 b.Grid.Width, aI64 b.Grid.Height, sI64 b.Grid.Z, sI64 b.Err]], r := .loc (aI64 v7) [] [4] 0 : CE }] (List.forall_mem_cons.2 ⟨(callOk_val (l := [3]) (args' := [slT api_Banded.c [a, b]]) rfl (SnL.cons (Sn.hs rfl (.inl rfl) (SnC.cons (Sn.pure rfl) (SnC.cons (Sn.pure rfl) (SnC.cons (Sn.pure rfl) (SnC.cons (Sn.pure rfl) (SnC.cons (Sn.pure rfl) (SnC.cons (Sn.pure rfl) (SnC.cons (Sn.pure rfl) (SnC.cons (Sn.pure rfl) (SnC.cons (Sn.pure rfl) (SnC.cons (Sn.pure rfl) (SnC.cons (Sn.pure rfl) (SnC.cons (Sn.pure rfl) (SnC.cons (Sn.pure rfl) (SnC.cons (Sn.pure rfl) SnC.nil)))))))))))))) (fun h => nomatch h)) SnL.nil) (fiduciallaw59_few_ok n [a, b] v4 hc5)), (List.forall_mem_cons.2 ⟨(callOk_val (l := [4]) (args' := [slT api_Banded.c [a, b]]) rfl (SnL.cons (Sn.hs rfl (.inl rfl) (SnC.cons (Sn.pure rfl) (SnC.cons (Sn.pure rfl) (SnC.cons (Sn.pure rfl) (SnC.cons (Sn.pure rfl) (SnC.cons (Sn.pure rfl) (SnC.cons (Sn.pure rfl) (SnC.cons (Sn.pure rfl) (SnC.cons (Sn.pure rfl) (SnC.cons (Sn.pure rfl) (SnC.cons (Sn.pure rfl) (SnC.cons (Sn.pure rfl) (SnC.cons (Sn.pure rfl) (SnC.cons (Sn.pure rfl) (SnC.cons (Sn.pure rfl) SnC.nil)))))))))))))) (fun h => nomatch h)) SnL.nil) (fiduciallaw59_fits_ok n [a, b] v7 hc8)), ce0⟩)⟩)) ?_
    refine EVO.p1 (.agg [aI64 a.Grid.X0, aI64 a.Grid.Y0, aI64 a.Grid.Step, aI64 a.Grid.Width, aI64 a.Grid.Height, sI64 a.Grid.Z, sI64 a.Err]) ?_
    refine EVO.p1 (.agg [aI64 b.Grid.X0, aI64 b.Grid.Y0, aI64 b.Grid.Step, aI64 b.Grid.Width, aI64 b.Grid.Height, sI64 b.Grid.Z, sI64 b.Err]) ?_
    refine EVO.e1 (.hs 3 0 2 7) [(3, .own [aI64 a.Grid.X0, aI64 a.Grid.Y0, aI64 a.Grid.Step, aI64 a.Grid.Width, aI64 a.Grid.Height, sI64 a.Grid.Z, sI64 a.Err, aI64 b.Grid.X0, aI64 b.Grid.Y0, aI64 b.Grid.Step, aI64 b.Grid.Width, aI64 b.Grid.Height, sI64 b.Grid.Z, sI64 b.Err])] ?_
    refine EVO.c0 (by kernel_rfl) (callOf_at (by kernel_rfl)) ?_
    refine EVO.p0 (v := aB false) (Eq.trans (b := some (.pure (aB (!v4)))) (by kernel_rfl) (by rw [hb6])) ?_
    refine EVO.p1 (aB false) ?_
    refine EVO.q1 (.agg [aI64 a.Grid.X0, aI64 a.Grid.Y0, aI64 a.Grid.Step, aI64 a.Grid.Width, aI64 a.Grid.Height, sI64 a.Grid.Z, sI64 a.Err]) ?_
    refine EVO.q1 (.agg [aI64 b.Grid.X0, aI64 b.Grid.Y0, aI64 b.Grid.Step, aI64 b.Grid.Width, aI64 b.Grid.Height, sI64 b.Grid.Z, sI64 b.Err]) ?_
    refine EVO.eff (v := .hs 4 0 2 7) (ws := [(4, .own [aI64 a.Grid.X0, aI64 a.Grid.Y0, aI64 a.Grid.Step, aI64 a.Grid.Width, aI64 a.Grid.Height, sI64 a.Grid.Z, sI64 a.Err, aI64 b.Grid.X0, aI64 b.Grid.Y0, aI64 b.Grid.Step, aI64 b.Grid.Width, aI64 b.Grid.Height, sI64 b.Grid.Z, sI64 b.Err])]) (by kernel_rfl) (by kernel_rfl) ?_
    refine EVO.cal (by kernel_rfl) (by kernel_rfl) (callOf_skip (fun h _ => absurd (show (10 : Nat) = 7 from h) (by decide)) (callOf_at (by kernel_rfl))) ?_
    refine EVO.pure (v := aB true) (by kernel_rfl) (Eq.trans (b := some (.pure (aB ((v7 : Int) != 0)))) (by kernel_rfl) (by rw [hb9])) ?_
    refine EVO.p1 (aB true) ?_
    refine EVO.p1 (aB true) ?_
    refine EVO.s1 ?_
    refine EVO.s1 ?_
    refine EVO.s1 ?_
    refine EVO.s1 ?_
    refine EVO.s1 ?_
    refine EVO.s1 ?_
    refine EVO.s1 ?_
    refine EVO.s1 ?_
    refine EVO.p1 (aB true) ?_
    refine EVO.p1 (aB true) ?_
    refine EVO.s1 ?_
    refine EVO.s1 ?_
    refine EVO.s1 ?_
    refine EVO.s1 ?_
    refine EVO.s1 ?_
    refine EVO.s1 ?_
    refine EVO.s1 ?_
    refine EVO.s1 ?_
    refine EVO.p1 (aB true) ?_
    refine EVO.done ?_
    refine CQ.n1 [3, 4, 5, 46] (mkS 104 0 [(3, .hp 0 0), (4, .hp 1 0), (5, .hp 2 0), (46, aB true)]) [.own [aI64 a.Grid.X0, aI64 a.Grid.Y0, aI64 a.Grid.Step, aI64 a.Grid.Width, aI64 a.Grid.Height, sI64 a.Grid.Z, sI64 a.Err], .own [aI64 b.Grid.X0, aI64 b.Grid.Y0, aI64 b.Grid.Step, aI64 b.Grid.Width, aI64 b.Grid.Height, sI64 b.Grid.Z, sI64 b.Err], .own [sU8 parts.e0, sU8 parts.e1], .own [aI64 a.Grid.X0, aI64 a.Grid.Y0, aI64 a.Grid.Step, aI64 a.Grid.Width, aI64 a.Grid.Height, sI64 a.Grid.Z, sI64 a.Err, aI64 b.Grid.X0, aI64 b.Grid.Y0, aI64 b.Grid.Step, aI64 b.Grid.Width, aI64 b.Grid.Height, sI64 b.Grid.Z, sI64 b.Err], .own [aI64 a.Grid.X0, aI64 a.Grid.Y0, aI64 a.Grid.Step, aI64 a.Grid.Width, aI64 a.Grid.Height, sI64 a.Grid.Z, sI64 a.Err, aI64 b.Grid.X0, aI64 b.Grid.Y0, aI64 b.Grid.Step, aI64 b.Grid.Width, aI64 b.Grid.Height, sI64 b.Grid.Z, sI64 b.Err]] ?_
    refine CQ.cT (by kernel_rfl) ?_
    refine CQ.seq ?_
    refine CQ.r0 fine ?_
    refine EVO.p1 (aB true) ?_
    refine EVO.done ?_
    refine CQ.ret ?_
    obtain rfl := Option.some.inj hr
    exact FinQ.r1 [aB true]
   ·replace hr := cd_f hb9 hr
    rcases Bool.eq_false_or_eq_true (decide ((parts.e0.length : Int) < (a.Grid.Z.length : Int))) with hb10 | hb10
    ·replace hr := cd_t hb10 hr
     refine CQ.region fine (callOf_ok [{ f := 7, args := [.hs 3 0 2 7], H := [.own [aI64 a.Grid.X0, aI64 a.Grid.Y0, aI64 a.Grid.Step, aI64 a.Grid.Width, aI64 a.Grid.Height, sI64 a.Grid.Z, sI64 a.Err], .own [aI64 b.Grid.X0, aI64 b.Grid.Y0, aI64 b.Grid.Step, aI64 b.Grid.Width, aI64 b.Grid.Height, sI64 b.Grid.Z, sI64 b.Err], .own [sU8 parts.e0, sU8 parts.e1], .own [aI64 a.Grid.X0, aI64 a.Grid.Y0, aI64 a.Grid.Step, aI64 a.Grid.Width, aI64 a.Grid.Height, sI64 a.Grid.Z, sI64 a.Err, aI64 b.Grid.X0, aI64 b.Grid.Y0, aI64 b.Grid.Step, aI64 b.Grid.Width, aI64 b.Grid.Height, sI64 b.Grid.Z, sI64 b.Err]], r := .loc (aB v4) [] [3] 0 : CE }, { f := 10, args := [.hs 4 0 2 7], H := [.own [aI64 a.Grid.X0, aI64 a.Grid.Y0, aI64 a.Grid.Step, aI64 a.Grid.Width, aI64 a.Grid.Height, sI64 a.Grid.Z, sI64 a.Err], .own [aI64 b.Grid.X0, aI64 b.Grid.Y0, aI64 b.Grid.Step, aI64 b.Grid.Width, aI64 b.Grid.Height, sI64 b.Grid.Z, sI64 b.Err], .own [sU8 parts.e0, sU8 parts.e1], .own [aI64 a.Grid.X0, aI64 a.Grid.Y0, aI64 a.Grid.Step, aI64 a.Grid.Width, aI64 a.Grid.Height, sI64 a.Grid.Z, sI64 a.Err, aI64 b.Grid.X0, aI64 b.Grid.Y0, aI64 b.Grid.Step, aI64 b.Grid.Width, aI64 b.Grid.Height, sI64 b.Grid.Z, sI64 b.Err], .own [aI64 a.Grid.X0, aI64 a.Grid.Y0, aI64 a.Grid.Step, aI64 a.Grid.Width, aI64 a.Grid.Height, sI64 a.Grid.Z, sI64 a.Err, aI64 b.Grid.X0, aI64 b.Grid.Y0, aI64 b.Grid.Step, aI64 b.Grid.Width, aI64 b.Grid.Height, sI64 b.Grid.Z, sI64 b.Err]], r := .loc (aI64 v7) [] [4] 0 : CE }] (List.forall_mem_cons.2 ⟨(callOk_val (l := [3]) (args' := [slT api_Banded.c [a, b]]) rfl (SnL.cons (Sn.hs rfl (.inl rfl) (SnC.cons (Sn.pure rfl) (SnC.cons (Sn.pure rfl) (SnC.cons (Sn.pure rfl) (SnC.cons (Sn.pure rfl) (SnC.cons (Sn.pure rfl) (SnC.cons (Sn.pure rfl) (SnC.cons (Sn.pure rfl) (SnC.cons (Sn.pure rfl) (SnC.cons (Sn.pure rfl) (SnC.cons (Sn.pure rfl) (SnC.cons (Sn.pure rfl) (SnC.cons (Sn.pure rfl) (SnC.cons (Sn.pure rfl) (SnC.cons (Sn.pure rfl) SnC.nil)))))))))))))) (fun h => nomatch h)) SnL.nil) (fiduciallaw59_few_ok n [a, b] v4 hc5)), (List.forall_mem_cons.2 ⟨(callOk_val (l := [4]) (args' := [slT api_Banded.c [a, b]]) rfl (SnL.cons (Sn.hs rfl (.inl rfl) (SnC.cons (Sn.pure rfl) (SnC.cons (Sn.pure rfl) (SnC.cons (Sn.pure rfl) (SnC.cons (Sn.pure rfl) (SnC.cons (Sn.pure rfl) (SnC.cons (Sn.pure rfl) (SnC.cons (Sn.pure rfl) (SnC.cons (Sn.pure rfl) (SnC.cons (Sn.pure rfl) (SnC.cons (Sn.pure rfl) (SnC.cons (Sn.pure rfl) (SnC.cons (Sn.pure rfl) (SnC.cons (Sn.pure rfl) (SnC.cons (Sn.pure rfl) SnC.nil)))))))))))))) (fun h => nomatch h)) SnL.nil) (fiduciallaw59_fits_ok n [a, b] v7 hc8)), ce0⟩)⟩)) ?_
     refine EVO.p1 (.agg [aI64 a.Grid.X0, aI64 a.Grid.Y0, aI64 a.Grid.Step, aI64 a.Grid.Width, aI64 a.Grid.Height, sI64 a.Grid.Z, sI64 a.Err]) ?_
     refine EVO.p1 (.agg [aI64 b.Grid.X0, aI64 b.Grid.Y0, aI64 b.Grid.Step, aI64 b.Grid.Width, aI64 b.Grid.Height, sI64 b.Grid.Z, sI64 b.Err]) ?_
     refine EVO.e1 (.hs 3 0 2 7) [(3, .own [aI64 a.Grid.X0, aI64 a.Grid.Y0, aI64 a.Grid.Step, aI64 a.Grid.Width, aI64 a.Grid.Height, sI64 a.Grid.Z, sI64 a.Err, aI64 b.Grid.X0, aI64 b.Grid.Y0, aI64 b.Grid.Step, aI64 b.Grid.Width, aI64 b.Grid.Height, sI64 b.Grid.Z, sI64 b.Err])] ?_
     refine EVO.c0 (by kernel_rfl) (callOf_at (by kernel_rfl)) ?_
     refine EVO.p0 (v := aB false) (Eq.trans (b := some (.pure (aB (!v4)))) (by kernel_rfl) (by rw [hb6])) ?_
     refine EVO.p1 (aB false) ?_
     refine EVO.q1 (.agg [aI64 a.Grid.X0, aI64 a.Grid.Y0, aI64 a.Grid.Step, aI64 a.Grid.Width, aI64 a.Grid.Height, sI64 a.Grid.Z, sI64 a.Err]) ?_
     refine EVO.q1 (.agg [aI64 b.Grid.X0, aI64 b.Grid.Y0, aI64 b.Grid.Step, aI64 b.Grid.Width, aI64 b.Grid.Height, sI64 b.Grid.Z, sI64 b.Err]) ?_
     refine EVO.eff (v := .hs 4 0 2 7) (ws := [(4, .own [aI64 a.Grid.X0, aI64 a.Grid.Y0, aI64 a.Grid.Step, aI64 a.Grid.Width, aI64 a.Grid.Height, sI64 a.Grid.Z, sI64 a.Err, aI64 b.Grid.X0, aI64 b.Grid.Y0, aI64 b.Grid.Step, aI64 b.Grid.Width, aI64 b.Grid.Height, sI64 b.Grid.Z, sI64 b.Err])]) (by kernel_rfl) (by kernel_rfl) ?_
     refine EVO.cal (by kernel_rfl) (by kernel_rfl) (callOf_skip (fun h _ => absurd (show (10 : Nat) = 7 from h) (by decide)) (callOf_at (by kernel_rfl))) ?_
     refine EVO.pure (v := aB false) (by kernel_rfl) (Eq.trans (b := some (.pure (aB ((v7 : Int) != 0)))) (by kernel_rfl) (by rw [hb9])) ?_
     refine EVO.p1 (aB false) ?_
     refine EVO.p1 (aB false) ?_
     refine EVO.q1 (.hp 2 0) ?_
     refine EVO.q1 (sU8 parts.e0) ?_
     refine EVO.q1 (aI64 (parts.e0.length : Int)) ?_
     refine EVO.q1 (.hp 0 0) ?_
     refine EVO.q1 (.hp 0 5) ?_
     refine EVO.q1 (sI64 a.Grid.Z) ?_
     refine EVO.q1 (aI64 (a.Grid.Z.length : Int)) ?_
     refine EVO.pure (v := aB true) (by kernel_rfl) (Eq.trans (b := some (.pure (aB (decide ((parts.e0.length : Int) < (a.Grid.Z.length : Int)))))) (by kernel_rfl) (by rw [hb10])) ?_
     refine EVO.p1 (aB true) ?_
     refine EVO.p1 (aB true) ?_
     refine EVO.s1 ?_
     refine EVO.s1 ?_
     refine EVO.s1 ?_
     refine EVO.s1 ?_
     refine EVO.s1 ?_
     refine EVO.s1 ?_
     refine EVO.s1 ?_
     refine EVO.s1 ?_
     refine EVO.p1 (aB true) ?_
     refine EVO.done ?_
     refine CQ.n1 [3, 4, 5, 46] (mkS 104 0 [(3, .hp 0 0), (4, .hp 1 0), (5, .hp 2 0), (46, aB true)]) [.own [aI64 a.Grid.X0, aI64 a.Grid.Y0, aI64 a.Grid.Step, aI64 a.Grid.Width, aI64 a.Grid.Height, sI64 a.Grid.Z, sI64 a.Err], .own [aI64 b.Grid.X0, aI64 b.Grid.Y0, aI64 b.Grid.Step, aI64 b.Grid.Width, aI64 b.Grid.Height, sI64 b.Grid.Z, sI64 b.Err], .own [sU8 parts.e0, sU8 parts.e1], .own [aI64 a.Grid.X0, aI64 a.Grid.Y0, aI64 a.Grid.Step, aI64 a.Grid.Width, aI64 a.Grid.Height, sI64 a.Grid.Z, sI64 a.Err, aI64 b.Grid.X0, aI64 b.Grid.Y0, aI64 b.Grid.Step, aI64 b.Grid.Width, aI64 b.Grid.Height, sI64 b.Grid.Z, sI64 b.Err], .own [aI64 a.Grid.X0, aI64 a.Grid.Y0, aI64 a.Grid.Step, aI64 a.Grid.Width, aI64 a.Grid.Height, sI64 a.Grid.Z, sI64 a.Err, aI64 b.Grid.X0, aI64 b.Grid.Y0, aI64 b.Grid.Step, aI64 b.Grid.Width, aI64 b.Grid.Height, sI64 b.Grid.Z, sI64 b.Err]] ?_
     refine CQ.cT (by kernel_rfl) ?_
     refine CQ.seq ?_
     refine CQ.r0 fine ?_
     refine EVO.p1 (aB true) ?_
     refine EVO.done ?_
     refine CQ.ret ?_
     obtain rfl := Option.some.inj hr
     exact FinQ.r1 [aB true]
    ·replace hr := cd_f hb10 hr
     refine CQ.region fine (callOf_ok [{ f := 7, args := [.hs 3 0 2 7], H := [.own [aI64 a.Grid.X0, aI64 a.Grid.Y0, aI64 a.Grid.Step, aI64 a.Grid.Width, aI64 a.Grid.Height, sI64 a.Grid.Z, sI64 a.Err], .own [aI64 b.Grid.X0, aI64 b.Grid.Y0, aI64 b.Grid.Step, aI64 b.Grid.Width, aI64 b.Grid.Height, sI64 b.Grid.Z, sI64 b.Err], .own [sU8 parts.e0, sU8 parts.e1], .own [aI64 a.Grid.X0, aI64 a.Grid.Y0, aI64 a.Grid.Step, aI64 a.Grid.Width, aI64 a.Grid.Height, sI64 a.Grid.Z, sI64 a.Err, aI64 b.Grid.X0, aI64 b.Grid.Y0, aI64 b.Grid.Step, aI64 b.Grid.Width, aI64 b.Grid.Height, sI64 b.Grid.Z, sI64 b.Err]], r := .loc (aB v4) [] [3] 0 : CE }, { f := 10, args := [.hs 4 0 2 7], H := [.own [aI64 a.Grid.X0, aI64 a.Grid.Y0, aI64 a.Grid.Step, aI64 a.Grid.Width, aI64 a.Grid.Height, sI64 a.Grid.Z, sI64 a.Err], .own [aI64 b.Grid.X0, aI64 b.Grid.Y0, aI64 b.Grid.Step, aI64 b.Grid.Width, aI64 b.Grid.Height, sI64 b.Grid.Z, sI64 b.Err], .own [sU8 parts.e0, sU8 parts.e1], .own [aI64 a.Grid.X0, aI64 a.Grid.Y0, aI64 a.Grid.Step, aI64 a.Grid.Width, aI64 a.Grid.Height, sI64 a.Grid.Z, sI64 a.Err, aI64 b.Grid.X0, aI64 b.Grid.Y0, aI64 b.Grid.Step, aI64 b.Grid.Width, aI64 b.Grid.Height, sI64 b.Grid.Z, sI64 b.Err], .own [aI64 a.Grid.X0, aI64 a.Grid.Y0, aI64 a.Grid.Step, aI64 a.Grid.Width, aI64 a.Grid.Height, sI64 a.Grid.Z, sI64 a.Err, aI64 b.Grid.X0, aI64 b.Grid.Y0, aI64 b.Grid.Step, aI64 b.Grid.Width, aI64 b.Grid.Height, sI64 b.Grid.Z, sI64 b.Err]], r := .loc (aI64 v7) [] [4] 0 : CE }] (List.forall_mem_cons.2 ⟨(callOk_val (l := [3]) (args' := [slT api_Banded.c [a, b]]) rfl (SnL.cons (Sn.hs rfl (.inl rfl) (SnC.cons (Sn.pure rfl) (SnC.cons (Sn.pure rfl) (SnC.cons (Sn.pure rfl) (SnC.cons (Sn.pure rfl) (SnC.cons (Sn.pure rfl) (SnC.cons (Sn.pure rfl) (SnC.cons (Sn.pure rfl) (SnC.cons (Sn.pure rfl) (SnC.cons (Sn.pure rfl) (SnC.cons (Sn.pure rfl) (SnC.cons (Sn.pure rfl) (SnC.cons (Sn.pure rfl) (SnC.cons (Sn.pure rfl) (SnC.cons (Sn.pure rfl) SnC.nil)))))))))))))) (fun h => nomatch h)) SnL.nil) (fiduciallaw59_few_ok n [a, b] v4 hc5)), (List.forall_mem_cons.2 ⟨(callOk_val (l := [4]) (args' := [slT api_Banded.c [a, b]]) rfl (SnL.cons (Sn.hs rfl (.inl rfl) (SnC.cons (Sn.pure rfl) (SnC.cons (Sn.pure rfl) (SnC.cons (Sn.pure rfl) (SnC.cons (Sn.pure rfl) (SnC.cons (Sn.pure rfl) (SnC.cons (Sn.pure rfl) (SnC.cons (Sn.pure rfl) (SnC.cons (Sn.pure rfl) (SnC.cons (Sn.pure rfl) (SnC.cons (Sn.pure rfl) (SnC.cons (Sn.pure rfl) (SnC.cons (Sn.pure rfl) (SnC.cons (Sn.pure rfl) (SnC.cons (Sn.pure rfl) SnC.nil)))))))))))))) (fun h => nomatch h)) SnL.nil) (fiduciallaw59_fits_ok n [a, b] v7 hc8)), ce0⟩)⟩)) ?_
     refine EVO.p1 (.agg [aI64 a.Grid.X0, aI64 a.Grid.Y0, aI64 a.Grid.Step, aI64 a.Grid.Width, aI64 a.Grid.Height, sI64 a.Grid.Z, sI64 a.Err]) ?_
     refine EVO.p1 (.agg [aI64 b.Grid.X0, aI64 b.Grid.Y0, aI64 b.Grid.Step, aI64 b.Grid.Width, aI64 b.Grid.Height, sI64 b.Grid.Z, sI64 b.Err]) ?_
     refine EVO.e1 (.hs 3 0 2 7) [(3, .own [aI64 a.Grid.X0, aI64 a.Grid.Y0, aI64 a.Grid.Step, aI64 a.Grid.Width, aI64 a.Grid.Height, sI64 a.Grid.Z, sI64 a.Err, aI64 b.Grid.X0, aI64 b.Grid.Y0, aI64 b.Grid.Step, aI64 b.Grid.Width, aI64 b.Grid.Height, sI64 b.Grid.Z, sI64 b.Err])] ?_
     refine EVO.c0 (by kernel_rfl) (callOf_at (by kernel_rfl)) ?_
     refine EVO.p0 (v := aB false) (Eq.trans (b := some (.pure (aB (!v4)))) (by kernel_rfl) (by rw [hb6])) ?_
     refine EVO.p1 (aB false) ?_
     refine EVO.q1 (.agg [aI64 a.Grid.X0, aI64 a.Grid.Y0, aI64 a.Grid.Step, aI64 a.Grid.Width, aI64 a.Grid.Height, sI64 a.Grid.Z, sI64 a.Err]) ?_
     refine EVO.q1 (.agg [aI64 b.Grid.X0, aI64 b.Grid.Y0, aI64 b.Grid.Step, aI64 b.Grid.Width, aI64 b.Grid.Height, sI64 b.Grid.Z, sI64 b.Err]) ?_
     refine EVO.eff (v := .hs 4 0 2 7) (ws := [(4, .own [aI64 a.Grid.X0, aI64 a.Grid.Y0, aI64 a.Grid.Step, aI64 a.Grid.Width, aI64 a.Grid.Height, sI64 a.Grid.Z, sI64 a.Err, aI64 b.Grid.X0, aI64 b.Grid.Y0, aI64 b.Grid.Step, aI64 b.Grid.Width, aI64 b.Grid.Height, sI64 b.Grid.Z, sI64 b.Err])]) (by kernel_rfl) (by kernel_rfl) ?_
     refine EVO.cal (by kernel_rfl) (by kernel_rfl) (callOf_skip (fun h _ => absurd (show (10 : Nat) = 7 from h) (by decide)) (callOf_at (by kernel_rfl))) ?_
     refine EVO.pure (v := aB false) (by kernel_rfl) (Eq.trans (b := some (.pure (aB ((v7 : Int) != 0)))) (by kernel_rfl) (by rw [hb9])) ?_
     refine EVO.p1 (aB false) ?_
     refine EVO.p1 (aB false) ?_
     refine EVO.q1 (.hp 2 0) ?_
     refine EVO.q1 (sU8 parts.e0) ?_
     refine EVO.q1 (aI64 (parts.e0.length : Int)) ?_
     refine EVO.q1 (.hp 0 0) ?_
     refine EVO.q1 (.hp 0 5) ?_
     refine EVO.q1 (sI64 a.Grid.Z) ?_
     refine EVO.q1 (aI64 (a.Grid.Z.length : Int)) ?_
     refine EVO.pure (v := aB false) (by kernel_rfl) (Eq.trans (b := some (.pure (aB (decide ((parts.e0.length : Int) < (a.Grid.Z.length : Int)))))) (by kernel_rfl) (by rw [hb10])) ?_
     refine EVO.p1 (aB false) ?_
     refine EVO.p1 (aB false) ?_
     refine EVO.q1 (.hp 2 1) ?_
     refine EVO.q1 (sU8 parts.e1) ?_
     refine EVO.q1 (aI64 (parts.e1.length : Int)) ?_
     refine EVO.q1 (.hp 0 0) ?_
     refine EVO.q1 (.hp 0 5) ?_
     refine EVO.q1 (sI64 a.Grid.Z) ?_
     refine EVO.q1 (aI64 (a.Grid.Z.length : Int)) ?_
     refine EVO.q1 (aB (decide ((parts.e1.length : Int) < (a.Grid.Z.length : Int)))) ?_
     refine EVO.p1 (aB (decide ((parts.e1.length : Int) < (a.Grid.Z.length : Int)))) ?_
     refine EVO.done ?_
     refine CQ.n1 [3, 4, 5, 46] (mkS 104 0 [(3, .hp 0 0), (4, .hp 1 0), (5, .hp 2 0), (46, aB (decide ((parts.e1.length : Int) < (a.Grid.Z.length : Int))))]) [.own [aI64 a.Grid.X0, aI64 a.Grid.Y0, aI64 a.Grid.Step, aI64 a.Grid.Width, aI64 a.Grid.Height, sI64 a.Grid.Z, sI64 a.Err], .own [aI64 b.Grid.X0, aI64 b.Grid.Y0, aI64 b.Grid.Step, aI64 b.Grid.Width, aI64 b.Grid.Height, sI64 b.Grid.Z, sI64 b.Err], .own [sU8 parts.e0, sU8 parts.e1], .own [aI64 a.Grid.X0, aI64 a.Grid.Y0, aI64 a.Grid.Step, aI64 a.Grid.Width, aI64 a.Grid.Height, sI64 a.Grid.Z, sI64 a.Err, aI64 b.Grid.X0, aI64 b.Grid.Y0, aI64 b.Grid.Step, aI64 b.Grid.Width, aI64 b.Grid.Height, sI64 b.Grid.Z, sI64 b.Err], .own [aI64 a.Grid.X0, aI64 a.Grid.Y0, aI64 a.Grid.Step, aI64 a.Grid.Width, aI64 a.Grid.Height, sI64 a.Grid.Z, sI64 a.Err, aI64 b.Grid.X0, aI64 b.Grid.Y0, aI64 b.Grid.Step, aI64 b.Grid.Width, aI64 b.Grid.Height, sI64 b.Grid.Z, sI64 b.Err]] ?_
     refine CQ.cond (t := decide ((parts.e1.length : Int) < (a.Grid.Z.length : Int))) (by kernel_rfl) (fun hb11 => ?_) (fun hb11 => ?_)
     ·replace hr := cd_t hb11 hr
      refine CQ.seq ?_
      refine CQ.r0 fine ?_
      refine EVO.p1 (aB true) ?_
      refine EVO.done ?_
      refine CQ.ret ?_
      obtain rfl := Option.some.inj hr
      exact FinQ.r1 [aB true]
     ·replace hr := cd_f hb11 hr
      refine CQ.skip ?_
      refine CQ.seq ?_
      replace hr := bd hr; obtain ⟨v12, hc13, hr⟩ := hr
      refine CQ.region fine (callOf_1 11 [.agg [aI64 a.Grid.X0, aI64 a.Grid.Y0, aI64 a.Grid.Step, aI64 a.Grid.Width, aI64 a.Grid.Height, sI64 a.Grid.Z, sI64 a.Err], .agg [aI64 b.Grid.X0, aI64 b.Grid.Y0, aI64 b.Grid.Step, aI64 b.Grid.Width, aI64 b.Grid.Height, sI64 b.Grid.Z, sI64 b.Err]] [.own [aI64 a.Grid.X0, aI64 a.Grid.Y0, aI64 a.Grid.Step, aI64 a.Grid.Width, aI64 a.Grid.Height, sI64 a.Grid.Z, sI64 a.Err], .own [aI64 b.Grid.X0, aI64 b.Grid.Y0, aI64 b.Grid.Step, aI64 b.Grid.Width, aI64 b.Grid.Height, sI64 b.Grid.Z, sI64 b.Err], .own [sU8 parts.e0, sU8 parts.e1], .own [aI64 a.Grid.X0, aI64 a.Grid.Y0, aI64 a.Grid.Step, aI64 a.Grid.Width, aI64 a.Grid.Height, sI64 a.Grid.Z, sI64 a.Err, aI64 b.Grid.X0, aI64 b.Grid.Y0, aI64 b.Grid.Step, aI64 b.Grid.Width, aI64 b.Grid.Height, sI64 b.Grid.Z, sI64 b.Err], .own [aI64 a.Grid.X0, aI64 a.Grid.Y0, aI64 a.Grid.Step, aI64 a.Grid.Width, aI64 a.Grid.Height, sI64 a.Grid.Z, sI64 a.Err, aI64 b.Grid.X0, aI64 b.Grid.Y0, aI64 b.Grid.Step, aI64 b.Grid.Width, aI64 b.Grid.Height, sI64 b.Grid.Z, sI64 b.Err]] (.loc (.tup [sI64 v12.1, aI64 v12.2]) [] [] 0) (callOk_ref (l := []) (args' := [.agg [aI64 a.Grid.X0, aI64 a.Grid.Y0, aI64 a.Grid.Step, aI64 a.Grid.Width, aI64 a.Grid.Height, sI64 a.Grid.Z, sI64 a.Err], .agg [aI64 b.Grid.X0, aI64 b.Grid.Y0, aI64 b.Grid.Step, aI64 b.Grid.Width, aI64 b.Grid.Height, sI64 b.Grid.Z, sI64 b.Err]]) (SnL.cons (Sn.pure rfl) (SnL.cons (Sn.pure rfl) SnL.nil)) (change_Compare_ok n a b v12 hc13))) ?_
      refine EVO.p1 (.agg [aI64 a.Grid.X0, aI64 a.Grid.Y0, aI64 a.Grid.Step, aI64 a.Grid.Width, aI64 a.Grid.Height, sI64 a.Grid.Z, sI64 a.Err]) ?_
      refine EVO.p1 (.agg [aI64 b.Grid.X0, aI64 b.Grid.Y0, aI64 b.Grid.Step, aI64 b.Grid.Width, aI64 b.Grid.Height, sI64 b.Grid.Z, sI64 b.Err]) ?_
      refine EVO.c0 (by kernel_rfl) (callOf_at (by kernel_rfl)) ?_
      refine EVO.p1 (.tup [sI64 v12.1, aI64 v12.2]) ?_
      refine EVO.p1 (sI64 v12.1) ?_
      refine EVO.p1 (aI64 v12.2) ?_
      refine EVO.p1 (sI64 v12.1) ?_
      refine EVO.p1 (aI64 v12.2) ?_
      refine EVO.done ?_
      refine CQ.n1 [3, 4, 5, 7, 8] (mkS 104 0 [(3, .hp 0 0), (4, .hp 1 0), (5, .hp 2 0), (7, sI64 v12.1), (8, aI64 v12.2)]) [.own [aI64 a.Grid.X0, aI64 a.Grid.Y0, aI64 a.Grid.Step, aI64 a.Grid.Width, aI64 a.Grid.Height, sI64 a.Grid.Z, sI64 a.Err], .own [aI64 b.Grid.X0, aI64 b.Grid.Y0, aI64 b.Grid.Step, aI64 b.Grid.Width, aI64 b.Grid.Height, sI64 b.Grid.Z, sI64 b.Err], .own [sU8 parts.e0, sU8 parts.e1], .own [aI64 a.Grid.X0, aI64 a.Grid.Y0, aI64 a.Grid.Step, aI64 a.Grid.Width, aI64 a.Grid.Height, sI64 a.Grid.Z, sI64 a.Err, aI64 b.Grid.X0, aI64 b.Grid.Y0, aI64 b.Grid.Step, aI64 b.Grid.Width, aI64 b.Grid.Height, sI64 b.Grid.Z, sI64 b.Err], .own [aI64 a.Grid.X0, aI64 a.Grid.Y0, aI64 a.Grid.Step, aI64 a.Grid.Width, aI64 a.Grid.Height, sI64 a.Grid.Z, sI64 a.Err, aI64 b.Grid.X0, aI64 b.Grid.Y0, aI64 b.Grid.Step, aI64 b.Grid.Width, aI64 b.Grid.Height, sI64 b.Grid.Z, sI64 b.Err]] ?_
      refine CQ.seq ?_
      refine CQ.seq ?_
      rcases Bool.eq_false_or_eq_true ((v12.2 : Int) != 0) with hb14 | hb14
      ·replace hr := cd_t hb14 hr
       refine CQ.r0 fine ?_
       refine EVO.p1 (aI64 v12.2) ?_
       refine EVO.p0 (v := aB true) (Eq.trans (b := some (.pure (aB ((v12.2 : Int) != 0)))) (by kernel_rfl) (by rw [hb14])) ?_
       refine EVO.p1 (aB true) ?_
       refine EVO.s1 ?_
       refine EVO.s1 ?_
       refine EVO.s1 ?_
       refine EVO.s1 ?_
       refine EVO.s1 ?_
       refine EVO.s1 ?_
       refine EVO.s1 ?_
       refine EVO.p1 (aB true) ?_
       refine EVO.done ?_
       refine CQ.n1 [3, 4, 5, 7, 63] (mkS 104 0 [(3, .hp 0 0), (4, .hp 1 0), (5, .hp 2 0), (7, sI64 v12.1), (63, aB true)]) [.own [aI64 a.Grid.X0, aI64 a.Grid.Y0, aI64 a.Grid.Step, aI64 a.Grid.Width, aI64 a.Grid.Height, sI64 a.Grid.Z, sI64 a.Err], .own [aI64 b.Grid.X0, aI64 b.Grid.Y0, aI64 b.Grid.Step, aI64 b.Grid.Width, aI64 b.Grid.Height, sI64 b.Grid.Z, sI64 b.Err], .own [sU8 parts.e0, sU8 parts.e1], .own [aI64 a.Grid.X0, aI64 a.Grid.Y0, aI64 a.Grid.Step, aI64 a.Grid.Width, aI64 a.Grid.Height, sI64 a.Grid.Z, sI64 a.Err, aI64 b.Grid.X0, aI64 b.Grid.Y0, aI64 b.Grid.Step, aI64 b.Grid.Width, aI64 b.Grid.Height, sI64 b.Grid.Z, sI64 b.Err], .own [aI64 a.Grid.X0, aI64 a.Grid.Y0, aI64 a.Grid.Step, aI64 a.Grid.Width, aI64 a.Grid.Height, sI64 a.Grid.Z, sI64 a.Err, aI64 b.Grid.X0, aI64 b.Grid.Y0, aI64 b.Grid.Step, aI64 b.Grid.Width, aI64 b.Grid.Height, sI64 b.Grid.Z, sI64 b.Err]] ?_
       refine CQ.cT (by kernel_rfl) ?_
       refine CQ.seq ?_
       refine CQ.r0 fine ?_
       refine EVO.p1 (aB false) ?_
       refine EVO.done ?_
       refine CQ.ret ?_
       obtain rfl := Option.some.inj hr
       exact FinQ.r1 [aB false]
      ·replace hr := cd_f hb14 hr
       refine CQ.r0 fine ?_
       refine EVO.p1 (aI64 v12.2) ?_
       refine EVO.p0 (v := aB false) (Eq.trans (b := some (.pure (aB ((v12.2 : Int) != 0)))) (by kernel_rfl) (by rw [hb14])) ?_
       refine EVO.p1 (aB false) ?_
       refine EVO.q1 (sI64 v12.1) ?_
       refine EVO.q1 (aI64 (v12.1.length : Int)) ?_
       refine EVO.q1 (.hp 0 0) ?_
       refine EVO.q1 (.hp 0 5) ?_
       refine EVO.q1 (sI64 a.Grid.Z) ?_
       refine EVO.q1 (aI64 (a.Grid.Z.length : Int)) ?_
       refine EVO.q1 (aB (((v12.1.length : Int) : Int) != (a.Grid.Z.length : Int))) ?_
       refine EVO.p1 (aB (((v12.1.length : Int) : Int) != (a.Grid.Z.length : Int))) ?_
       refine EVO.done ?_
       refine CQ.n1 [3, 4, 5, 7, 63] (mkS 104 0 [(3, .hp 0 0), (4, .hp 1 0), (5, .hp 2 0), (7, sI64 v12.1), (63, aB (((v12.1.length : Int) : Int) != (a.Grid.Z.length : Int)))]) [.own [aI64 a.Grid.X0, aI64 a.Grid.Y0, aI64 a.Grid.Step, aI64 a.Grid.Width, aI64 a.Grid.Height, sI64 a.Grid.Z, sI64 a.Err], .own [aI64 b.Grid.X0, aI64 b.Grid.Y0, aI64 b.Grid.Step, aI64 b.Grid.Width, aI64 b.Grid.Height, sI64 b.Grid.Z, sI64 b.Err], .own [sU8 parts.e0, sU8 parts.e1], .own [aI64 a.Grid.X0, aI64 a.Grid.Y0, aI64 a.Grid.Step, aI64 a.Grid.Width, aI64 a.Grid.Height, sI64 a.Grid.Z, sI64 a.Err, aI64 b.Grid.X0, aI64 b.Grid.Y0, aI64 b.Grid.Step, aI64 b.Grid.Width, aI64 b.Grid.Height, sI64 b.Grid.Z, sI64 b.Err], .own [aI64 a.Grid.X0, aI64 a.Grid.Y0, aI64 a.Grid.Step, aI64 a.Grid.Width, aI64 a.Grid.Height, sI64 a.Grid.Z, sI64 a.Err, aI64 b.Grid.X0, aI64 b.Grid.Y0, aI64 b.Grid.Step, aI64 b.Grid.Width, aI64 b.Grid.Height, sI64 b.Grid.Z, sI64 b.Err]] ?_
       refine CQ.cond (t := ((v12.1.length : Int) : Int) != (a.Grid.Z.length : Int)) (by kernel_rfl) (fun hb15 => ?_) (fun hb15 => ?_)
       ·replace hr := cd_t hb15 hr
        refine CQ.seq ?_
        refine CQ.r0 fine ?_
        refine EVO.p1 (aB false) ?_
        refine EVO.done ?_
        refine CQ.ret ?_
        obtain rfl := Option.some.inj hr
        exact FinQ.r1 [aB false]
       ·replace hr := cd_f hb15 hr
        refine CQ.skip ?_
        refine CQ.seq ?_
        refine CQ.seq ?_
        refine CQ.r0 fine ?_
        refine EVO.p1 (sI64 v12.1) ?_
        refine EVO.p1 (aI64 (v12.1.length : Int)) ?_
        refine EVO.p1 (aI64 0) ?_
        refine EVO.done ?_
        refine CQ.n1 [3, 4, 5, 64, 65, 66] (mkS 104 0 [(3, .hp 0 0), (4, .hp 1 0), (5, .hp 2 0), (64, sI64 v12.1), (65, aI64 (v12.1.length : Int)), (66, aI64 0)]) [.own [aI64 a.Grid.X0, aI64 a.Grid.Y0, aI64 a.Grid.Step, aI64 a.Grid.Width, aI64 a.Grid.Height, sI64 a.Grid.Z, sI64 a.Err], .own [aI64 b.Grid.X0, aI64 b.Grid.Y0, aI64 b.Grid.Step, aI64 b.Grid.Width, aI64 b.Grid.Height, sI64 b.Grid.Z, sI64 b.Err], .own [sU8 parts.e0, sU8 parts.e1], .own [aI64 a.Grid.X0, aI64 a.Grid.Y0, aI64 a.Grid.Step, aI64 a.Grid.Width, aI64 a.Grid.Height, sI64 a.Grid.Z, sI64 a.Err, aI64 b.Grid.X0, aI64 b.Grid.Y0, aI64 b.Grid.Step, aI64 b.Grid.Width, aI64 b.Grid.Height, sI64 b.Grid.Z, sI64 b.Err], .own [aI64 a.Grid.X0, aI64 a.Grid.Y0, aI64 a.Grid.Step, aI64 a.Grid.Width, aI64 a.Grid.Height, sI64 a.Grid.Z, sI64 a.Err, aI64 b.Grid.X0, aI64 b.Grid.Y0, aI64 b.Grid.Step, aI64 b.Grid.Width, aI64 b.Grid.Height, sI64 b.Grid.Z, sI64 b.Err]] ?_
        refine CQ.block ?_
        replace hr := bd hr; obtain ⟨o46, hL47, hr⟩ := hr
        refine CQ.loopO (σ := fun z0 => match z0 with | x_16 => ⟨mkS 104 0 [(3, .hp 0 0), (4, .hp 1 0), (5, .hp 2 0), (64, sI64 v12.1), (65, aI64 (v12.1.length : Int)), (66, aI64 x_16)], [.own [aI64 a.Grid.X0, aI64 a.Grid.Y0, aI64 a.Grid.Step, aI64 a.Grid.Width, aI64 a.Grid.Height, sI64 a.Grid.Z, sI64 a.Err], .own [aI64 b.Grid.X0, aI64 b.Grid.Y0, aI64 b.Grid.Step, aI64 b.Grid.Width, aI64 b.Grid.Height, sI64 b.Grid.Z, sI64 b.Err], .own [sU8 parts.e0, sU8 parts.e1]]⟩) (Q := fun x st' => match (generalizing := false) o46 with | .inl _ => x = .exit 0 ∧ Wk st' ⟨mkS 104 0 [], []⟩ | .inr (r0) => x = .ret ∧ FinQ Try.prog [.tmp 6] (aB r0) .ret st') hL47 ((Wk.gc [3, 4, 5, 64, 65, 66] [(0, true), (1, true), (2, true)] rfl trivial).to (by kernel_rfl)) ?_ ?_
        ·clear hr
         rintro m x_16 hr
         show CQ _ _ _ _ ⟨_, _⟩
         refine CQ.seq ?_
         refine CQ.r0 fine ?_
         refine EVO.p1 (aB (decide (x_16 < (v12.1.length : Int)))) ?_
         refine EVO.done ?_
         refine CQ.seq ?_
         refine CQ.cond (t := decide (x_16 < (v12.1.length : Int))) (by kernel_rfl) (fun hb32 => ?_) (fun hb32 => ?_)
         ·replace hr := cd_t hb32 hr
          refine CQ.skip ?_
          refine CQ.seq ?_
          refine CQ.block ?_
          refine CQ.seq ?_
          replace hr := gd hr; obtain ⟨hg33, hr⟩ := hr
          refine CQ.r0 fine ?_
          refine EVO.p1 (aI64 x_16) ?_
          refine EVO.p0 (v := .pp (v12.1.flatMap (iC .i64)) (x_16.toNat * 1)) (Eq.trans (b := ORes.ofP (guardV (inR x_16 v12.1.length) (.pp (v12.1.flatMap (iC .i64)) (x_16.toNat * 1)))) (by kernel_rfl) (ofP_guard hg33)) ?_
          refine EVO.p0 (v := aI64 (gt v12.1 x_16)) (Eq.trans (b := ORes.ofP ((v12.1.flatMap (iC .i64))[x_16.toNat * 1]?)) (by kernel_rfl) (ofP_some (flat_get (iC_len _) (inR_lt hg33) (by decide : 0 < 1) (by omega : x_16.toNat * 1 = x_16.toNat * 1 + 0) (by kernel_rfl)))) ?_
          refine EVO.p1 (aI64 x_16) ?_
          refine EVO.p1 (aI64 (gt v12.1 x_16)) ?_
          refine EVO.done ?_
          refine CQ.n1 [3, 4, 5, 9, 10, 64, 65, 66] (mkS 104 0 [(3, .hp 0 0), (4, .hp 1 0), (5, .hp 2 0), (9, aI64 x_16), (10, aI64 (gt v12.1 x_16)), (64, sI64 v12.1), (65, aI64 (v12.1.length : Int)), (66, aI64 x_16)]) [.own [aI64 a.Grid.X0, aI64 a.Grid.Y0, aI64 a.Grid.Step, aI64 a.Grid.Width, aI64 a.Grid.Height, sI64 a.Grid.Z, sI64 a.Err], .own [aI64 b.Grid.X0, aI64 b.Grid.Y0, aI64 b.Grid.Step, aI64 b.Grid.Width, aI64 b.Grid.Height, sI64 b.Grid.Z, sI64 b.Err], .own [sU8 parts.e0, sU8 parts.e1]] ?_
          refine CQ.seq ?_
          replace hr := gd hr; obtain ⟨hg34, hr⟩ := hr
          replace hr := bd hr; obtain ⟨v35, hc36, hr⟩ := hr
          replace hr := gd hr; obtain ⟨hg37, hr⟩ := hr
          replace hr := bd hr; obtain ⟨v38, hc39, hr⟩ := hr
          refine CQ.regionT fine (callOf_ok [{ f := 12, args := [.agg [aI64 a.Grid.X0, aI64 a.Grid.Y0, aI64 a.Grid.Step, aI64 a.Grid.Width, aI64 a.Grid.Height, sI64 a.Grid.Z, sI64 a.Err], aI64 x_16, aU8 (gt parts.e0 x_16)], H := [.own [aI64 a.Grid.X0, aI64 a.Grid.Y0, aI64 a.Grid.Step, aI64 a.Grid.Width, aI64 a.Grid.Height, sI64 a.Grid.Z, sI64 a.Err], .own [aI64 b.Grid.X0, aI64 b.Grid.Y0, aI64 b.Grid.Step, aI64 b.Grid.Width, aI64 b.Grid.Height, sI64 b.Grid.Z, sI64 b.Err], .own [sU8 parts.e0, sU8 parts.e1]], r := .loc (aI64 v35) [] [] 0 : CE }, { f := 12, args := [.agg [aI64 b.Grid.X0, aI64 b.Grid.Y0, aI64 b.Grid.Step, aI64 b.Grid.Width, aI64 b.Grid.Height, sI64 b.Grid.Z, sI64 b.Err], aI64 x_16, aU8 (gt parts.e1 x_16)], H := [.own [aI64 a.Grid.X0, aI64 a.Grid.Y0, aI64 a.Grid.Step, aI64 a.Grid.Width, aI64 a.Grid.Height, sI64 a.Grid.Z, sI64 a.Err], .own [aI64 b.Grid.X0, aI64 b.Grid.Y0, aI64 b.Grid.Step, aI64 b.Grid.Width, aI64 b.Grid.Height, sI64 b.Grid.Z, sI64 b.Err], .own [sU8 parts.e0, sU8 parts.e1]], r := .loc (aI64 v38) [] [] 0 : CE }] (List.forall_mem_cons.2 ⟨(callOk_val (l := []) (args' := [.agg [aI64 a.Grid.X0, aI64 a.Grid.Y0, aI64 a.Grid.Step, aI64 a.Grid.Width, aI64 a.Grid.Height, sI64 a.Grid.Z, sI64 a.Err], aI64 x_16, aU8 (gt parts.e0 x_16)]) rfl (SnL.cons (Sn.pure rfl) (SnL.cons (Sn.pure rfl) (SnL.cons (Sn.pure rfl) SnL.nil))) (fiduciallaw59_truth_ok n a x_16 (gt parts.e0 x_16) v35 hc36)), (List.forall_mem_cons.2 ⟨(callOk_val (l := []) (args' := [.agg [aI64 b.Grid.X0, aI64 b.Grid.Y0, aI64 b.Grid.Step, aI64 b.Grid.Width, aI64 b.Grid.Height, sI64 b.Grid.Z, sI64 b.Err], aI64 x_16, aU8 (gt parts.e1 x_16)]) rfl (SnL.cons (Sn.pure rfl) (SnL.cons (Sn.pure rfl) (SnL.cons (Sn.pure rfl) SnL.nil))) (fiduciallaw59_truth_ok n b x_16 (gt parts.e1 x_16) v38 hc39)), ce0⟩)⟩)) ?_
          refine EVT.p1 (.agg [aI64 a.Grid.X0, aI64 a.Grid.Y0, aI64 a.Grid.Step, aI64 a.Grid.Width, aI64 a.Grid.Height, sI64 a.Grid.Z, sI64 a.Err]) ?_
          refine EVT.p1 (aI64 x_16) ?_
          refine EVT.p1 (.hp 2 0) ?_
          refine EVT.p1 (sU8 parts.e0) ?_
          refine EVT.p1 (aI64 x_16) ?_
          refine EVT.pure (v := .pp (parts.e0.flatMap (iC .u8)) (x_16.toNat * 1)) (by kernel_rfl) (Eq.trans (b := ORes.ofP (guardV (inR x_16 parts.e0.length) (.pp (parts.e0.flatMap (iC .u8)) (x_16.toNat * 1)))) (by kernel_rfl) (ofP_guard hg34)) (by kernel_rfl) ?_
          refine EVT.pure (v := aU8 (gt parts.e0 x_16)) (by kernel_rfl) (Eq.trans (b := ORes.ofP ((parts.e0.flatMap (iC .u8))[x_16.toNat * 1]?)) (by kernel_rfl) (ofP_some (flat_get (iC_len _) (inR_lt hg34) (by decide : 0 < 1) (by omega : x_16.toNat * 1 = x_16.toNat * 1 + 0) (by kernel_rfl)))) (by kernel_rfl) ?_
          refine EVT.cal (by kernel_rfl) (by kernel_rfl) (callOf_at (by kernel_rfl)) (by kernel_rfl) ?_
          refine EVT.p1 (.agg [aI64 b.Grid.X0, aI64 b.Grid.Y0, aI64 b.Grid.Step, aI64 b.Grid.Width, aI64 b.Grid.Height, sI64 b.Grid.Z, sI64 b.Err]) ?_
          refine EVT.p1 (aI64 x_16) ?_
          refine EVT.p1 (.hp 2 1) ?_
          refine EVT.p1 (sU8 parts.e1) ?_
          refine EVT.p1 (aI64 x_16) ?_
          refine EVT.pure (v := .pp (parts.e1.flatMap (iC .u8)) (x_16.toNat * 1)) (by kernel_rfl) (Eq.trans (b := ORes.ofP (guardV (inR x_16 parts.e1.length) (.pp (parts.e1.flatMap (iC .u8)) (x_16.toNat * 1)))) (by kernel_rfl) (ofP_guard hg37)) (by kernel_rfl) ?_
          refine EVT.pure (v := aU8 (gt parts.e1 x_16)) (by kernel_rfl) (Eq.trans (b := ORes.ofP ((parts.e1.flatMap (iC .u8))[x_16.toNat * 1]?)) (by kernel_rfl) (ofP_some (flat_get (iC_len _) (inR_lt hg37) (by decide : 0 < 1) (by omega : x_16.toNat * 1 = x_16.toNat * 1 + 0) (by kernel_rfl)))) (by kernel_rfl) ?_
          refine EVT.cal (by kernel_rfl) (by kernel_rfl) (callOf_skip (fun _ h => by obtain ⟨e0, e1, e2⟩ := fiduciallaw59_truth_inj h; rw [show v38 = v35 from Option.some.inj (hc39.symm.trans ((show fiduciallaw59_truth n b x_16 (gt parts.e1 x_16) = fiduciallaw59_truth n a x_16 (gt parts.e0 x_16) from (congr (congr (congr rfl e0) e1) e2)).trans hc36))]) (callOf_at (by kernel_rfl))) (by kernel_rfl) ?_
          refine EVT.p1 (aI64 v35) ?_
          refine EVT.p1 (aI64 v38) ?_
          refine EVT.done ⟨by kernel_rfl, ?_⟩
          refine CQ.n1 [3, 4, 5, 10, 11, 12, 64, 65, 66] (mkS 104 0 [(3, .hp 0 0), (4, .hp 1 0), (5, .hp 2 0), (10, aI64 (gt v12.1 x_16)), (11, aI64 v35), (12, aI64 v38), (64, sI64 v12.1), (65, aI64 (v12.1.length : Int)), (66, aI64 x_16)]) [.own [aI64 a.Grid.X0, aI64 a.Grid.Y0, aI64 a.Grid.Step, aI64 a.Grid.Width, aI64 a.Grid.Height, sI64 a.Grid.Z, sI64 a.Err], .own [aI64 b.Grid.X0, aI64 b.Grid.Y0, aI64 b.Grid.Step, aI64 b.Grid.Width, aI64 b.Grid.Height, sI64 b.Grid.Z, sI64 b.Err], .own [sU8 parts.e0, sU8 parts.e1]] ?_
          refine CQ.seq ?_
          rcases Bool.eq_false_or_eq_true (((gt v12.1 x_16) : Int) == 1) with hb40 | hb40
          ·replace hr := cd_t hb40 hr
           rcases Bool.eq_false_or_eq_true (decide (v38 ≤ v35)) with hb41 | hb41
           ·replace hr := cd_t hb41 hr
            refine CQ.r0 fine ?_
            refine EVO.p1 (aI64 (gt v12.1 x_16)) ?_
            refine EVO.p0 (v := aB true) (Eq.trans (b := some (.pure (aB (((gt v12.1 x_16) : Int) == 1)))) (by kernel_rfl) (by rw [hb40])) ?_
            refine EVO.p1 (aB true) ?_
            refine EVO.q1 (aI64 v38) ?_
            refine EVO.q1 (aI64 v35) ?_
            refine EVO.pure (v := aB true) (by kernel_rfl) (Eq.trans (b := some (.pure (aB (decide (v38 ≤ v35))))) (by kernel_rfl) (by rw [hb41])) ?_
            refine EVO.p1 (aB true) ?_
            refine EVO.p1 (aB true) ?_
            refine EVO.s1 ?_
            refine EVO.s1 ?_
            refine EVO.s1 ?_
            refine EVO.s1 ?_
            refine EVO.s1 ?_
            refine EVO.s1 ?_
            refine EVO.s1 ?_
            refine EVO.p1 (aB true) ?_
            refine EVO.done ?_
            refine CQ.n1 [3, 4, 5, 64, 65, 66, 102] (mkS 104 0 [(3, .hp 0 0), (4, .hp 1 0), (5, .hp 2 0), (64, sI64 v12.1), (65, aI64 (v12.1.length : Int)), (66, aI64 x_16), (102, aB true)]) [.own [aI64 a.Grid.X0, aI64 a.Grid.Y0, aI64 a.Grid.Step, aI64 a.Grid.Width, aI64 a.Grid.Height, sI64 a.Grid.Z, sI64 a.Err], .own [aI64 b.Grid.X0, aI64 b.Grid.Y0, aI64 b.Grid.Step, aI64 b.Grid.Width, aI64 b.Grid.Height, sI64 b.Grid.Z, sI64 b.Err], .own [sU8 parts.e0, sU8 parts.e1]] ?_
            refine CQ.cT (by kernel_rfl) ?_
            refine CQ.seq ?_
            refine CQ.r0 fine ?_
            refine EVO.p1 (aB false) ?_
            refine EVO.done ?_
            refine CQ.ret ?_
            obtain rfl := Option.some.inj hr
            exact ⟨rfl, FinQ.ret (vs := [aB false]) (by kernel_rfl) (Sn.pure rfl)⟩
           ·replace hr := cd_f hb41 hr
            rcases Bool.eq_false_or_eq_true (((gt v12.1 x_16) : Int) == 2) with hb42 | hb42
            ·replace hr := cd_t hb42 hr
             refine CQ.r0 fine ?_
             refine EVO.p1 (aI64 (gt v12.1 x_16)) ?_
             refine EVO.p0 (v := aB true) (Eq.trans (b := some (.pure (aB (((gt v12.1 x_16) : Int) == 1)))) (by kernel_rfl) (by rw [hb40])) ?_
             refine EVO.p1 (aB true) ?_
             refine EVO.q1 (aI64 v38) ?_
             refine EVO.q1 (aI64 v35) ?_
             refine EVO.pure (v := aB false) (by kernel_rfl) (Eq.trans (b := some (.pure (aB (decide (v38 ≤ v35))))) (by kernel_rfl) (by rw [hb41])) ?_
             refine EVO.p1 (aB false) ?_
             refine EVO.p1 (aB false) ?_
             refine EVO.q1 (aI64 (gt v12.1 x_16)) ?_
             refine EVO.pure (v := aB true) (by kernel_rfl) (Eq.trans (b := some (.pure (aB (((gt v12.1 x_16) : Int) == 2)))) (by kernel_rfl) (by rw [hb42])) ?_
             refine EVO.q1 (aB true) ?_
             refine EVO.q1 (aI64 v38) ?_
             refine EVO.q1 (aI64 v35) ?_
             refine EVO.q1 (aB (decide (v38 ≥ v35))) ?_
             refine EVO.q1 (aB (decide (v38 ≥ v35))) ?_
             refine EVO.p1 (aB (decide (v38 ≥ v35))) ?_
             refine EVO.done ?_
             refine CQ.n1 [3, 4, 5, 64, 65, 66, 102] (mkS 104 0 [(3, .hp 0 0), (4, .hp 1 0), (5, .hp 2 0), (64, sI64 v12.1), (65, aI64 (v12.1.length : Int)), (66, aI64 x_16), (102, aB (decide (v38 ≥ v35)))]) [.own [aI64 a.Grid.X0, aI64 a.Grid.Y0, aI64 a.Grid.Step, aI64 a.Grid.Width, aI64 a.Grid.Height, sI64 a.Grid.Z, sI64 a.Err], .own [aI64 b.Grid.X0, aI64 b.Grid.Y0, aI64 b.Grid.Step, aI64 b.Grid.Width, aI64 b.Grid.Height, sI64 b.Grid.Z, sI64 b.Err], .own [sU8 parts.e0, sU8 parts.e1]] ?_
             refine CQ.cond (t := decide (v38 ≥ v35)) (by kernel_rfl) (fun hb43 => ?_) (fun hb43 => ?_)
             ·replace hr := cd_t hb43 hr
              refine CQ.seq ?_
              refine CQ.r0 fine ?_
              refine EVO.p1 (aB false) ?_
              refine EVO.done ?_
              refine CQ.ret ?_
              obtain rfl := Option.some.inj hr
              exact ⟨rfl, FinQ.ret (vs := [aB false]) (by kernel_rfl) (Sn.pure rfl)⟩
             ·replace hr := cd_f hb43 hr
              refine CQ.skip ?_
              refine CQ.pop ?_
              refine CQ.r0 fine ?_
              refine EVO.p1 (aI64 (wrapF .i64 (x_16 + 1))) ?_
              refine EVO.p1 (aI64 (wrapF .i64 (x_16 + 1))) ?_
              refine EVO.done ?_
              exact loopF_back (wrapF .i64 (x_16 + 1)) hr ((Wk.gc [3, 4, 5, 64, 65, 66] [(0, true), (1, true), (2, true)] rfl trivial).to (by kernel_rfl))
            ·replace hr := cd_f hb42 hr
             refine CQ.r0 fine ?_
             refine EVO.p1 (aI64 (gt v12.1 x_16)) ?_
             refine EVO.p0 (v := aB true) (Eq.trans (b := some (.pure (aB (((gt v12.1 x_16) : Int) == 1)))) (by kernel_rfl) (by rw [hb40])) ?_
             refine EVO.p1 (aB true) ?_
             refine EVO.q1 (aI64 v38) ?_
             refine EVO.q1 (aI64 v35) ?_
             refine EVO.pure (v := aB false) (by kernel_rfl) (Eq.trans (b := some (.pure (aB (decide (v38 ≤ v35))))) (by kernel_rfl) (by rw [hb41])) ?_
             refine EVO.p1 (aB false) ?_
             refine EVO.p1 (aB false) ?_
             refine EVO.q1 (aI64 (gt v12.1 x_16)) ?_
             refine EVO.pure (v := aB false) (by kernel_rfl) (Eq.trans (b := some (.pure (aB (((gt v12.1 x_16) : Int) == 2)))) (by kernel_rfl) (by rw [hb42])) ?_
             refine EVO.q1 (aB false) ?_
             refine EVO.s1 ?_
             refine EVO.s1 ?_
             refine EVO.s1 ?_
             refine EVO.q1 (aB false) ?_
             refine EVO.p1 (aB false) ?_
             refine EVO.done ?_
             refine CQ.n1 [3, 4, 5, 64, 65, 66, 102] (mkS 104 0 [(3, .hp 0 0), (4, .hp 1 0), (5, .hp 2 0), (64, sI64 v12.1), (65, aI64 (v12.1.length : Int)), (66, aI64 x_16), (102, aB false)]) [.own [aI64 a.Grid.X0, aI64 a.Grid.Y0, aI64 a.Grid.Step, aI64 a.Grid.Width, aI64 a.Grid.Height, sI64 a.Grid.Z, sI64 a.Err], .own [aI64 b.Grid.X0, aI64 b.Grid.Y0, aI64 b.Grid.Step, aI64 b.Grid.Width, aI64 b.Grid.Height, sI64 b.Grid.Z, sI64 b.Err], .own [sU8 parts.e0, sU8 parts.e1]] ?_
             refine CQ.cF (by kernel_rfl) ?_
             refine CQ.skip ?_
             refine CQ.pop ?_
             refine CQ.r0 fine ?_
             refine EVO.p1 (aI64 (wrapF .i64 (x_16 + 1))) ?_
             refine EVO.p1 (aI64 (wrapF .i64 (x_16 + 1))) ?_
             refine EVO.done ?_
             exact loopF_back (wrapF .i64 (x_16 + 1)) hr ((Wk.gc [3, 4, 5, 64, 65, 66] [(0, true), (1, true), (2, true)] rfl trivial).to (by kernel_rfl))
          ·replace hr := cd_f hb40 hr
           rcases Bool.eq_false_or_eq_true (((gt v12.1 x_16) : Int) == 2) with hb44 | hb44
           ·replace hr := cd_t hb44 hr
            refine CQ.r0 fine ?_
            refine EVO.p1 (aI64 (gt v12.1 x_16)) ?_
            refine EVO.p0 (v := aB false) (Eq.trans (b := some (.pure (aB (((gt v12.1 x_16) : Int) == 1)))) (by kernel_rfl) (by rw [hb40])) ?_
            refine EVO.p1 (aB false) ?_
            refine EVO.s1 ?_
            refine EVO.s1 ?_
            refine EVO.s1 ?_
            refine EVO.p1 (aB false) ?_
            refine EVO.p1 (aB false) ?_
            refine EVO.q1 (aI64 (gt v12.1 x_16)) ?_
            refine EVO.pure (v := aB true) (by kernel_rfl) (Eq.trans (b := some (.pure (aB (((gt v12.1 x_16) : Int) == 2)))) (by kernel_rfl) (by rw [hb44])) ?_
            refine EVO.q1 (aB true) ?_
            refine EVO.q1 (aI64 v38) ?_
            refine EVO.q1 (aI64 v35) ?_
            refine EVO.q1 (aB (decide (v38 ≥ v35))) ?_
            refine EVO.q1 (aB (decide (v38 ≥ v35))) ?_
            refine EVO.p1 (aB (decide (v38 ≥ v35))) ?_
            refine EVO.done ?_
            refine CQ.n1 [3, 4, 5, 64, 65, 66, 102] (mkS 104 0 [(3, .hp 0 0), (4, .hp 1 0), (5, .hp 2 0), (64, sI64 v12.1), (65, aI64 (v12.1.length : Int)), (66, aI64 x_16), (102, aB (decide (v38 ≥ v35)))]) [.own [aI64 a.Grid.X0, aI64 a.Grid.Y0, aI64 a.Grid.Step, aI64 a.Grid.Width, aI64 a.Grid.Height, sI64 a.Grid.Z, sI64 a.Err], .own [aI64 b.Grid.X0, aI64 b.Grid.Y0, aI64 b.Grid.Step, aI64 b.Grid.Width, aI64 b.Grid.Height, sI64 b.Grid.Z, sI64 b.Err], .own [sU8 parts.e0, sU8 parts.e1]] ?_
            refine CQ.cond (t := decide (v38 ≥ v35)) (by kernel_rfl) (fun hb45 => ?_) (fun hb45 => ?_)
            ·replace hr := cd_t hb45 hr
             refine CQ.seq ?_
             refine CQ.r0 fine ?_
             refine EVO.p1 (aB false) ?_
             refine EVO.done ?_
             refine CQ.ret ?_
             obtain rfl := Option.some.inj hr
             exact ⟨rfl, FinQ.ret (vs := [aB false]) (by kernel_rfl) (Sn.pure rfl)⟩
            ·replace hr := cd_f hb45 hr
             refine CQ.skip ?_
             refine CQ.pop ?_
             refine CQ.r0 fine ?_
             refine EVO.p1 (aI64 (wrapF .i64 (x_16 + 1))) ?_
             refine EVO.p1 (aI64 (wrapF .i64 (x_16 + 1))) ?_
             refine EVO.done ?_
             exact loopF_back (wrapF .i64 (x_16 + 1)) hr ((Wk.gc [3, 4, 5, 64, 65, 66] [(0, true), (1, true), (2, true)] rfl trivial).to (by kernel_rfl))
           ·replace hr := cd_f hb44 hr
            refine CQ.r0 fine ?_
            refine EVO.p1 (aI64 (gt v12.1 x_16)) ?_
            refine EVO.p0 (v := aB false) (Eq.trans (b := some (.pure (aB (((gt v12.1 x_16) : Int) == 1)))) (by kernel_rfl) (by rw [hb40])) ?_
            refine EVO.p1 (aB false) ?_
            refine EVO.s1 ?_
            refine EVO.s1 ?_
            refine EVO.s1 ?_
            refine EVO.p1 (aB false) ?_
            refine EVO.p1 (aB false) ?_
            refine EVO.q1 (aI64 (gt v12.1 x_16)) ?_
            refine EVO.pure (v := aB false) (by kernel_rfl) (Eq.trans (b := some (.pure (aB (((gt v12.1 x_16) : Int) == 2)))) (by kernel_rfl) (by rw [hb44])) ?_
            refine EVO.q1 (aB false) ?_
            refine EVO.s1 ?_
            refine EVO.s1 ?_
            refine EVO.s1 ?_
            refine EVO.q1 (aB false) ?_
            refine EVO.p1 (aB false) ?_
            refine EVO.done ?_
            refine CQ.n1 [3, 4, 5, 64, 65, 66, 102] (mkS 104 0 [(3, .hp 0 0), (4, .hp 1 0), (5, .hp 2 0), (64, sI64 v12.1), (65, aI64 (v12.1.length : Int)), (66, aI64 x_16), (102, aB false)]) [.own [aI64 a.Grid.X0, aI64 a.Grid.Y0, aI64 a.Grid.Step, aI64 a.Grid.Width, aI64 a.Grid.Height, sI64 a.Grid.Z, sI64 a.Err], .own [aI64 b.Grid.X0, aI64 b.Grid.Y0, aI64 b.Grid.Step, aI64 b.Grid.Width, aI64 b.Grid.Height, sI64 b.Grid.Z, sI64 b.Err], .own [sU8 parts.e0, sU8 parts.e1]] ?_
            refine CQ.cF (by kernel_rfl) ?_
            refine CQ.skip ?_
            refine CQ.pop ?_
            refine CQ.r0 fine ?_
            refine EVO.p1 (aI64 (wrapF .i64 (x_16 + 1))) ?_
            refine EVO.p1 (aI64 (wrapF .i64 (x_16 + 1))) ?_
            refine EVO.done ?_
            exact loopF_back (wrapF .i64 (x_16 + 1)) hr ((Wk.gc [3, 4, 5, 64, 65, 66] [(0, true), (1, true), (2, true)] rfl trivial).to (by kernel_rfl))
         ·replace hr := cd_f hb32 hr
          refine CQ.leave rfl ?_
          obtain rfl := Option.some.inj hr
          exact ⟨rfl, ((Wk.gc [] [] rfl trivial).to (by kernel_rfl))⟩
        ·rcases o46 with ⟨⟩ | r0
         ·rintro x st' hq48
          clear hL47
          obtain ⟨rfl, hq48⟩ := hq48
          refine CQ_exit _ rfl ?_
          refine CQ.wk hq48 ?_
          refine CQ.seq ?_
          refine CQ.r0 fine ?_
          refine EVO.p1 (aB true) ?_
          refine EVO.done ?_
          refine CQ.ret ?_
          obtain rfl := Option.some.inj hr
          exact FinQ.r1 [aB true]
         ·rintro x st' hq48
          clear hL47
          obtain ⟨rfl, hq48⟩ := hq48
          obtain rfl := Option.some.inj hr
          exact CQ_ret _ hq48
end Go.L
