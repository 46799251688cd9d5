/- The program's functions compute what the plain Lean programs compute, part 1; printed by a program. -/
import Derived.Test.YtlajgmapmocpbabGreatTriaLD
import Derived.Test.YtlajgmapmocpbabGreatL0c
import Derived.Test.YtlajgmapmocpbabGreatChecked
import Derived.KernelRfl
set_option linter.unusedVariables false
set_option linter.unusedSimpArgs false
set_option maxRecDepth 100000
set_option maxHeartbeats 4000000
namespace Go.L
open Go Go.Eng Go.Proofs
theorem predicate_inRange_1_ok (n : Nat) (n' : Int) (r : Bool) (hr : predicate_inRange_1 n n' = some r) : FnOk Tryz.prog 130 [.at (.int .i64 n')] (.at (.bool r)) := by
 unfold predicate_inRange_1 at hr
 refine FnOk.body fine Tryz.func130 (c := (Tryz.f130.body).getD .skip) rfl (s := mkS 9 0 [(0, aI64 n')]) (by kernel_rfl) (rs := [.tmp 2]) rfl ?_
 unfold Tryz.f130
 simp only [Option.getD_some]
 refine CQ.seq ?_
 refine CQ.r0 fine ?_
 refine EVO.p1 (aB false) ?_
 refine EVO.done ?_
 refine CQ.n1 [0] (mkS 9 0 [(0, aI64 n')]) [] ?_
 refine CQ.seq ?_
 rcases Bool.eq_false_or_eq_true (decide (n' < (-1048576))) with hb1 | hb1
 ·replace hr := cd_t hb1 hr
  refine CQ.r0 fine ?_
  refine EVO.p1 (aI64 n') ?_
  refine EVO.p0 (v := aB true) (Eq.trans (b := some (.pure (aB (decide (n' < (-1048576)))))) (by kernel_rfl) (by rw [hb1])) ?_
  refine EVO.p1 (aB true) ?_
  refine EVO.s1 ?_
  refine EVO.s1 ?_
  refine EVO.p1 (aB true) ?_
  refine EVO.p1 (aB true) ?_
  refine EVO.done ?_
  refine CQ.ret ?_
  obtain rfl := Option.some.inj hr
  exact FinQ.r1 [aB true]
 ·replace hr := cd_f hb1 hr
  refine CQ.r0 fine ?_
  refine EVO.p1 (aI64 n') ?_
  refine EVO.p0 (v := aB false) (Eq.trans (b := some (.pure (aB (decide (n' < (-1048576)))))) (by kernel_rfl) (by rw [hb1])) ?_
  refine EVO.p1 (aB false) ?_
  refine EVO.q1 (aI64 n') ?_
  refine EVO.q1 (aB (decide (n' > 1048576))) ?_
  refine EVO.p1 (aB (decide (n' > 1048576))) ?_
  refine EVO.p1 (aB (decide (n' > 1048576))) ?_
  refine EVO.done ?_
  refine CQ.ret ?_
  obtain rfl := Option.some.inj hr
  exact FinQ.r1 [aB (decide (n' > 1048576))]

theorem slices_IndexFunc_int_int_of_predicate_inRange_1_ok (n : Nat) (s : List Int) (r : Int) (hr : slices_IndexFunc_int_int_of_predicate_inRange_1 n s = some r) : FnOk Tryz.prog 174 [slT (iC .i64) s, .fn 130 [] []] (.at (.int .i64 r)) := by
 unfold slices_IndexFunc_int_int_of_predicate_inRange_1 at hr
 refine FnOk.body fine Tryz.func174 (c := (Tryz.f174.body).getD .skip) rfl (s := mkS 19 0 [(0, sI64 s), (1, .fn 130 [] [])]) (by kernel_rfl) (rs := [.tmp 4]) rfl ?_
 unfold Tryz.f174
 simp only [Option.getD_some]
 refine CQ.seq ?_
 refine CQ.r0 fine ?_
 refine EVO.p1 (aI64 0) ?_
 refine EVO.done ?_
 refine CQ.n1 [0, 1] (mkS 19 0 [(0, sI64 s), (1, .fn 130 [] [])]) [] ?_
 refine CQ.seq ?_
 refine CQ.seq ?_
 refine CQ.r0 fine ?_
 refine EVO.p1 (sI64 s) ?_
 refine EVO.p1 (aI64 (s.length : Int)) ?_
 refine EVO.p1 (aI64 0) ?_
 refine EVO.done ?_
 refine CQ.n1 [0, 1, 7, 8] (mkS 19 0 [(0, sI64 s), (1, .fn 130 [] []), (7, aI64 (s.length : Int)), (8, aI64 0)]) [] ?_
 refine CQ.block ?_
 replace hr := bd hr; obtain ⟨o13, hL14, hr⟩ := hr
 refine CQ.loopO (σ := fun z0 => match z0 with | x_1 => ⟨mkS 19 0 [(0, sI64 s), (1, .fn 130 [] []), (7, aI64 (s.length : Int)), (8, aI64 x_1)], []⟩) (Q := fun x st' => match (generalizing := false) o13 with | .inl _ => x = .exit 0 ∧ Wk 0 st' ⟨mkS 19 0 [], []⟩ | .inr (r0) => x = .ret ∧ FinQ Tryz.prog [.tmp 4] (aI64 r0) .ret st') hL14 ((Wk.gc [0, 1, 7, 8] [] rfl trivial).to (by kernel_rfl)) ?_ ?_
 ·clear hr
  rintro m x_1 hr
  show CQ _ _ _ _ _ ⟨_, _⟩
  refine CQ.seq ?_
  refine CQ.r0 fine ?_
  refine EVO.p1 (aB (decide (x_1 < (s.length : Int)))) ?_
  refine EVO.done ?_
  refine CQ.seq ?_
  refine CQ.cond (t := decide (x_1 < (s.length : Int))) (by kernel_rfl) (fun hb8 => ?_) (fun hb8 => ?_)
  ·replace hr := cd_t hb8 hr
   refine CQ.skip ?_
   refine CQ.seq ?_
   refine CQ.block ?_
   refine CQ.seq ?_
   refine CQ.r0 fine ?_
   refine EVO.p1 (aI64 x_1) ?_
   refine EVO.p1 (aI64 x_1) ?_
   refine EVO.done ?_
   refine CQ.n1 [0, 1, 5, 7, 8] (mkS 19 0 [(0, sI64 s), (1, .fn 130 [] []), (5, aI64 x_1), (7, aI64 (s.length : Int)), (8, aI64 x_1)]) [] ?_
   refine CQ.seq ?_
   replace hr := gd hr; obtain ⟨hg9, hr⟩ := hr
   replace hr := bd hr; obtain ⟨v10, hc11, hr⟩ := hr
   refine CQ.region fine (callOf_1 130 [aI64 (gt s x_1)] [] (.loc (aB v10) [] [] 0) (callOk_val (l := []) (args' := [aI64 (gt s x_1)]) rfl (SnL.cons (Sn.pure rfl) SnL.nil) (predicate_inRange_1_ok n (gt s x_1) v10 hc11))) ?_
   refine EVO.p1 (.fn 130 [] []) ?_
   refine EVO.p1 (sI64 s) ?_
   refine EVO.p1 (aI64 x_1) ?_
   refine EVO.p0 (v := .pp (s.flatMap (iC .i64)) (x_1.toNat * 1)) (Eq.trans (b := ORes.ofP (guardV (inR x_1 s.length) (.pp (s.flatMap (iC .i64)) (x_1.toNat * 1)))) (by kernel_rfl) (ofP_guard hg9)) ?_
   refine EVO.p0 (v := aI64 (gt s x_1)) (Eq.trans (b := ORes.ofP ((s.flatMap (iC .i64))[x_1.toNat * 1]?)) (by kernel_rfl) (ofP_some (flat_get (iC_len _) (inR_lt hg9) (by decide : 0 < 1) (by omega : x_1.toNat * 1 = x_1.toNat * 1 + 0) (by kernel_rfl)))) ?_
   refine EVO.c0 (by kernel_rfl) (callOf_at (by kernel_rfl)) ?_
   refine EVO.done ?_
   refine CQ.n1 [0, 1, 5, 7, 8, 16] (mkS 19 0 [(0, sI64 s), (1, .fn 130 [] []), (5, aI64 x_1), (7, aI64 (s.length : Int)), (8, aI64 x_1), (16, aB v10)]) [] ?_
   refine CQ.cond (t := v10) (by kernel_rfl) (fun hb12 => ?_) (fun hb12 => ?_)
   ·replace hr := cd_t hb12 hr
    refine CQ.seq ?_
    refine CQ.r0 fine ?_
    refine EVO.p1 (aI64 x_1) ?_
    refine EVO.p1 (aI64 x_1) ?_
    refine EVO.done ?_
    refine CQ.ret ?_
    obtain rfl := Option.some.inj hr
    exact ⟨rfl, FinQ.ret (vs := [aI64 x_1]) (by kernel_rfl) (Sn.pure rfl)⟩
   ·replace hr := cd_f hb12 hr
    refine CQ.skip ?_
    refine CQ.pop ?_
    refine CQ.r0 fine ?_
    refine EVO.p1 (aI64 (wrapF .i64 (x_1 + 1))) ?_
    refine EVO.p1 (aI64 (wrapF .i64 (x_1 + 1))) ?_
    refine EVO.done ?_
    exact loopF_back (wrapF .i64 (x_1 + 1)) hr ((Wk.gc [0, 1, 7, 8] [] rfl trivial).to (by kernel_rfl))
  ·replace hr := cd_f hb8 hr
   refine CQ.leave rfl ?_
   obtain rfl := Option.some.inj hr
   exact ⟨rfl, ((Wk.gc [] [] rfl trivial).to (by kernel_rfl))⟩
 ·rcases o13 with ⟨⟩ | r0
  ·rintro x st' hq15
   clear hL14
   obtain ⟨rfl, hq15⟩ := hq15
   refine CQ_exit _ rfl ?_
   refine CQ.wk hq15 ?_
   refine CQ.seq ?_
   refine CQ.r0 fine ?_
   refine EVO.p1 (aI64 (-1)) ?_
   refine EVO.done ?_
   refine CQ.ret ?_
   obtain rfl := Option.some.inj hr
   exact FinQ.r1 [aI64 (-1)]
  ·rintro x st' hq15
   clear hL14
   obtain ⟨rfl, hq15⟩ := hq15
   obtain rfl := Option.some.inj hr
   exact CQ_ret _ hq15

theorem slices_ContainsFunc_int_int_of_predicate_inRange_1_ok (n : Nat) (s : List Int) (r : Bool) (hr : slices_ContainsFunc_int_int_of_predicate_inRange_1 n s = some r) : FnOk Tryz.prog 129 [slT (iC .i64) s, .fn 130 [] []] (.at (.bool r)) := by
 unfold slices_ContainsFunc_int_int_of_predicate_inRange_1 at hr
 refine FnOk.body fine Tryz.func129 (c := (Tryz.f129.body).getD .skip) rfl (s := mkS 9 0 [(0, sI64 s), (1, .fn 130 [] [])]) (by kernel_rfl) (rs := [.tmp 4]) rfl ?_
 unfold Tryz.f129
 simp only [Option.getD_some]
 refine CQ.seq ?_
 refine CQ.r0 fine ?_
 refine EVO.p1 (aB false) ?_
 refine EVO.done ?_
 refine CQ.n1 [0, 1] (mkS 9 0 [(0, sI64 s), (1, .fn 130 [] [])]) [] ?_
 refine CQ.seq ?_
 replace hr := bd hr; obtain ⟨v1, hc2, hr⟩ := hr
 refine CQ.region fine (callOf_1 174 [sI64 s, .fn 130 [] []] [] (.loc (aI64 v1) [] [] 0) (callOk_val (l := []) (args' := [sI64 s, .fn 130 [] []]) rfl (SnL.cons (Sn.pure rfl) (SnL.cons (Sn.pure rfl) SnL.nil)) (slices_IndexFunc_int_int_of_predicate_inRange_1_ok n s v1 hc2))) ?_
 refine EVO.p1 (sI64 s) ?_
 refine EVO.p1 (.fn 130 [] []) ?_
 refine EVO.c0 (by kernel_rfl) (callOf_at (by kernel_rfl)) ?_
 refine EVO.p1 (aB (decide (v1 ≥ 0))) ?_
 refine EVO.p1 (aB (decide (v1 ≥ 0))) ?_
 refine EVO.done ?_
 refine CQ.ret ?_
 obtain rfl := Option.some.inj hr
 exact FinQ.r1 [aB (decide (v1 ≥ 0))]

theorem predicate_inRange_ok (n : Nat) (l : List Int) (r : Bool) (hr : predicate_inRange n l = some r) : FnOk Tryz.prog 94 [slT (iC .i64) l] (.at (.bool r)) := by
 unfold predicate_inRange at hr
 refine FnOk.body fine Tryz.func94 (c := (Tryz.f94.body).getD .skip) rfl (s := mkS 6 0 [(0, sI64 l)]) (by kernel_rfl) (rs := [.tmp 2]) rfl ?_
 unfold Tryz.f94
 simp only [Option.getD_some]
 refine CQ.seq ?_
 refine CQ.r0 fine ?_
 refine EVO.p1 (aB false) ?_
 refine EVO.done ?_
 refine CQ.n1 [0] (mkS 6 0 [(0, sI64 l)]) [] ?_
 refine CQ.seq ?_
 replace hr := bd hr; obtain ⟨v1, hc2, hr⟩ := hr
 refine CQ.region fine (callOf_1 129 [sI64 l, .fn 130 [] []] [] (.loc (aB v1) [] [] 0) (callOk_val (l := []) (args' := [sI64 l, .fn 130 [] []]) rfl (SnL.cons (Sn.pure rfl) (SnL.cons (Sn.pure rfl) SnL.nil)) (slices_ContainsFunc_int_int_of_predicate_inRange_1_ok n l v1 hc2))) ?_
 refine EVO.p1 (sI64 l) ?_
 refine EVO.c0 (by kernel_rfl) (callOf_at (by kernel_rfl)) ?_
 refine EVO.p1 (aB (!v1)) ?_
 refine EVO.p1 (aB (!v1)) ?_
 refine EVO.done ?_
 refine CQ.ret ?_
 obtain rfl := Option.some.inj hr
 exact FinQ.r1 [aB (!v1)]

theorem predicate_Check_1_ok (n : Nat) (p : api_Pix) (r : Bool) (hr : predicate_Check_1 n p = some r) : FnOk Tryz.prog 93 [.agg [.at (.int .i64 p.X), .at (.int .i64 p.Y)]] (.at (.bool r)) := by
 unfold predicate_Check_1 at hr
 refine FnOk.body fine Tryz.func93 (c := (Tryz.f93.body).getD .skip) rfl (s := mkS 10 0 [(0, .agg (api_Pix.c p))]) (by kernel_rfl) (rs := [.tmp 2]) rfl ?_
 unfold Tryz.f93
 simp only [Option.getD_some]
 refine CQ.seq ?_
 refine CQ.r0 fine ?_
 refine EVO.e1 (.hp 0 0) [(0, .own (api_Pix.c p))] ?_
 refine EVO.p1 (aB false) ?_
 refine EVO.done ?_
 refine CQ.n1 [1] (mkS 10 0 [(1, .hp 0 0)]) [.own (api_Pix.c p)] ?_
 refine CQ.seq ?_
 replace hr := bd hr; obtain ⟨v1, hc2, hr⟩ := hr
 refine CQ.region fine (callOf_1 94 [.hs 1 0 2 1] [.own (api_Pix.c p), .own (api_Pix.c p)] (.loc (aB v1) [] [1] 0) (callOk_val (l := [1]) (args' := [sI64 [p.X, p.Y]]) rfl (SnL.cons (Sn.hs rfl (.inl rfl) (SnC.cons (Sn.pure rfl) (SnC.cons (Sn.pure rfl) SnC.nil)) (fun h => nomatch h)) SnL.nil) (predicate_inRange_ok n [p.X, p.Y] v1 hc2))) ?_
 refine EVO.p1 (.hp 0 0) ?_
 refine EVO.p1 (aI64 p.X) ?_
 refine EVO.p1 (.hp 0 1) ?_
 refine EVO.p1 (aI64 p.Y) ?_
 refine EVO.e1 (.hs 1 0 2 1) [(1, .own (api_Pix.c p))] ?_
 refine EVO.c0 (by kernel_rfl) (callOf_at (by kernel_rfl)) ?_
 refine EVO.p1 (aB (!v1)) ?_
 refine EVO.p1 (aB (!v1)) ?_
 refine EVO.done ?_
 refine CQ.ret ?_
 obtain rfl := Option.some.inj hr
 exact FinQ.r1 [aB (!v1)]

theorem slices_IndexFunc_fiducial_api_Pix_fiducial_api_Pix_of_predicate_Check_1_ok (n : Nat) (s : List api_Pix) (r : Int) (hr : slices_IndexFunc_fiducial_api_Pix_fiducial_api_Pix_of_predicate_Check_1 n s = some r) : FnOk Tryz.prog 128 [slT api_Pix.c s, .fn 93 [] []] (.at (.int .i64 r)) := by
 unfold slices_IndexFunc_fiducial_api_Pix_fiducial_api_Pix_of_predicate_Check_1 at hr
 refine FnOk.body fine Tryz.func128 (c := (Tryz.f128.body).getD .skip) rfl (s := mkS 19 0 [(0, slT api_Pix.c s), (1, .fn 93 [] [])]) (by kernel_rfl) (rs := [.tmp 4]) rfl ?_
 unfold Tryz.f128
 simp only [Option.getD_some]
 refine CQ.seq ?_
 refine CQ.r0 fine ?_
 refine EVO.p1 (aI64 0) ?_
 refine EVO.done ?_
 refine CQ.n1 [0, 1] (mkS 19 0 [(0, slT api_Pix.c s), (1, .fn 93 [] [])]) [] ?_
 refine CQ.seq ?_
 refine CQ.seq ?_
 refine CQ.r0 fine ?_
 refine EVO.p1 (slT api_Pix.c s) ?_
 refine EVO.p1 (aI64 (s.length : Int)) ?_
 refine EVO.p1 (aI64 0) ?_
 refine EVO.done ?_
 refine CQ.n1 [0, 1, 7, 8] (mkS 19 0 [(0, slT api_Pix.c s), (1, .fn 93 [] []), (7, aI64 (s.length : Int)), (8, aI64 0)]) [] ?_
 refine CQ.block ?_
 replace hr := bd hr; obtain ⟨o13, hL14, hr⟩ := hr
 refine CQ.loopO (σ := fun z0 => match z0 with | x_1 => ⟨mkS 19 0 [(0, slT api_Pix.c s), (1, .fn 93 [] []), (7, aI64 (s.length : Int)), (8, aI64 x_1)], []⟩) (Q := fun x st' => match (generalizing := false) o13 with | .inl _ => x = .exit 0 ∧ Wk 0 st' ⟨mkS 19 0 [], []⟩ | .inr (r0) => x = .ret ∧ FinQ Tryz.prog [.tmp 4] (aI64 r0) .ret st') hL14 ((Wk.gc [0, 1, 7, 8] [] rfl trivial).to (by kernel_rfl)) ?_ ?_
 ·clear hr
  rintro m x_1 hr
  show CQ _ _ _ _ _ ⟨_, _⟩
  refine CQ.seq ?_
  refine CQ.r0 fine ?_
  refine EVO.p1 (aB (decide (x_1 < (s.length : Int)))) ?_
  refine EVO.done ?_
  refine CQ.seq ?_
  refine CQ.cond (t := decide (x_1 < (s.length : Int))) (by kernel_rfl) (fun hb8 => ?_) (fun hb8 => ?_)
  ·replace hr := cd_t hb8 hr
   refine CQ.skip ?_
   refine CQ.seq ?_
   refine CQ.block ?_
   refine CQ.seq ?_
   refine CQ.r0 fine ?_
   refine EVO.p1 (aI64 x_1) ?_
   refine EVO.p1 (aI64 x_1) ?_
   refine EVO.done ?_
   refine CQ.n1 [0, 1, 5, 7, 8] (mkS 19 0 [(0, slT api_Pix.c s), (1, .fn 93 [] []), (5, aI64 x_1), (7, aI64 (s.length : Int)), (8, aI64 x_1)]) [] ?_
   refine CQ.seq ?_
   replace hr := gd hr; obtain ⟨hg9, hr⟩ := hr
   replace hr := bd hr; obtain ⟨v10, hc11, hr⟩ := hr
   refine CQ.region fine (callOf_1 93 [.agg (api_Pix.c (gt s x_1))] [] (.loc (aB v10) [] [] 0) (callOk_val (l := []) (args' := [.agg (api_Pix.c (gt s x_1))]) rfl (SnL.cons (Sn.pure rfl) SnL.nil) (predicate_Check_1_ok n (gt s x_1) v10 hc11))) ?_
   refine EVO.p1 (.fn 93 [] []) ?_
   refine EVO.p1 (slT api_Pix.c s) ?_
   refine EVO.p1 (aI64 x_1) ?_
   refine EVO.p0 (v := .pp (s.flatMap api_Pix.c) (x_1.toNat * 2)) (Eq.trans (b := ORes.ofP (guardV (inR x_1 s.length) (.pp (s.flatMap api_Pix.c) (x_1.toNat * 2)))) (by kernel_rfl) (ofP_guard hg9)) ?_
   refine EVO.p0 (v := .agg (api_Pix.c (gt s x_1))) (Eq.trans (b := ORes.ofP (guardV (decide (2 ≤ ((s.flatMap api_Pix.c).drop (x_1.toNat * 2)).length)) (.agg (((s.flatMap api_Pix.c).drop (x_1.toNat * 2)).take 2)))) (by kernel_rfl) (flat_load api_Pix.len (inR_lt hg9) (by decide) (by omega : x_1.toNat * 2 = x_1.toNat * 2 + 0) (by kernel_rfl))) ?_
   refine EVO.c0 (by kernel_rfl) (callOf_at (by kernel_rfl)) ?_
   refine EVO.done ?_
   refine CQ.n1 [0, 1, 5, 7, 8, 16] (mkS 19 0 [(0, slT api_Pix.c s), (1, .fn 93 [] []), (5, aI64 x_1), (7, aI64 (s.length : Int)), (8, aI64 x_1), (16, aB v10)]) [] ?_
   refine CQ.cond (t := v10) (by kernel_rfl) (fun hb12 => ?_) (fun hb12 => ?_)
   ·replace hr := cd_t hb12 hr
    refine CQ.seq ?_
    refine CQ.r0 fine ?_
    refine EVO.p1 (aI64 x_1) ?_
    refine EVO.p1 (aI64 x_1) ?_
    refine EVO.done ?_
    refine CQ.ret ?_
    obtain rfl := Option.some.inj hr
    exact ⟨rfl, FinQ.ret (vs := [aI64 x_1]) (by kernel_rfl) (Sn.pure rfl)⟩
   ·replace hr := cd_f hb12 hr
    refine CQ.skip ?_
    refine CQ.pop ?_
    refine CQ.r0 fine ?_
    refine EVO.p1 (aI64 (wrapF .i64 (x_1 + 1))) ?_
    refine EVO.p1 (aI64 (wrapF .i64 (x_1 + 1))) ?_
    refine EVO.done ?_
    exact loopF_back (wrapF .i64 (x_1 + 1)) hr ((Wk.gc [0, 1, 7, 8] [] rfl trivial).to (by kernel_rfl))
  ·replace hr := cd_f hb8 hr
   refine CQ.leave rfl ?_
   obtain rfl := Option.some.inj hr
   exact ⟨rfl, ((Wk.gc [] [] rfl trivial).to (by kernel_rfl))⟩
 ·rcases o13 with ⟨⟩ | r0
  ·rintro x st' hq15
   clear hL14
   obtain ⟨rfl, hq15⟩ := hq15
   refine CQ_exit _ rfl ?_
   refine CQ.wk hq15 ?_
   refine CQ.seq ?_
   refine CQ.r0 fine ?_
   refine EVO.p1 (aI64 (-1)) ?_
   refine EVO.done ?_
   refine CQ.ret ?_
   obtain rfl := Option.some.inj hr
   exact FinQ.r1 [aI64 (-1)]
  ·rintro x st' hq15
   clear hL14
   obtain ⟨rfl, hq15⟩ := hq15
   obtain rfl := Option.some.inj hr
   exact CQ_ret _ hq15

theorem slices_ContainsFunc_fiducial_api_Pix_fiducial_api_Pix_of_predicate_Check_1_ok (n : Nat) (s : List api_Pix) (r : Bool) (hr : slices_ContainsFunc_fiducial_api_Pix_fiducial_api_Pix_of_predicate_Check_1 n s = some r) : FnOk Tryz.prog 92 [slT api_Pix.c s, .fn 93 [] []] (.at (.bool r)) := by
 unfold slices_ContainsFunc_fiducial_api_Pix_fiducial_api_Pix_of_predicate_Check_1 at hr
 refine FnOk.body fine Tryz.func92 (c := (Tryz.f92.body).getD .skip) rfl (s := mkS 9 0 [(0, slT api_Pix.c s), (1, .fn 93 [] [])]) (by kernel_rfl) (rs := [.tmp 4]) rfl ?_
 unfold Tryz.f92
 simp only [Option.getD_some]
 refine CQ.seq ?_
 refine CQ.r0 fine ?_
 refine EVO.p1 (aB false) ?_
 refine EVO.done ?_
 refine CQ.n1 [0, 1] (mkS 9 0 [(0, slT api_Pix.c s), (1, .fn 93 [] [])]) [] ?_
 refine CQ.seq ?_
 replace hr := bd hr; obtain ⟨v1, hc2, hr⟩ := hr
 refine CQ.region fine (callOf_1 128 [slT api_Pix.c s, .fn 93 [] []] [] (.loc (aI64 v1) [] [] 0) (callOk_val (l := []) (args' := [slT api_Pix.c s, .fn 93 [] []]) rfl (SnL.cons (Sn.pure rfl) (SnL.cons (Sn.pure rfl) SnL.nil)) (slices_IndexFunc_fiducial_api_Pix_fiducial_api_Pix_of_predicate_Check_1_ok n s v1 hc2))) ?_
 refine EVO.p1 (slT api_Pix.c s) ?_
 refine EVO.p1 (.fn 93 [] []) ?_
 refine EVO.c0 (by kernel_rfl) (callOf_at (by kernel_rfl)) ?_
 refine EVO.p1 (aB (decide (v1 ≥ 0))) ?_
 refine EVO.p1 (aB (decide (v1 ≥ 0))) ?_
 refine EVO.done ?_
 refine CQ.ret ?_
 obtain rfl := Option.some.inj hr
 exact FinQ.r1 [aB (decide (v1 ≥ 0))]

theorem predicate_Check_ok (n : Nat) (l : List api_Pix) (r : Int) (hr : predicate_Check n l = some r) : FnOk Tryz.prog 41 [slT api_Pix.c l] (.at (.int .i64 r)) := by
 unfold predicate_Check at hr
 refine FnOk.body fine Tryz.func41 (c := (Tryz.f41.body).getD .skip) rfl (s := mkS 5 0 [(0, slT api_Pix.c l)]) (by kernel_rfl) (rs := [.tmp 2]) rfl ?_
 unfold Tryz.f41
 simp only [Option.getD_some]
 refine CQ.seq ?_
 refine CQ.r0 fine ?_
 refine EVO.p1 (aI64 0) ?_
 refine EVO.done ?_
 refine CQ.n1 [0] (mkS 5 0 [(0, slT api_Pix.c l)]) [] ?_
 refine CQ.seq ?_
 refine CQ.seq ?_
 replace hr := bd hr; obtain ⟨v1, hc2, hr⟩ := hr
 refine CQ.region fine (callOf_1 92 [slT api_Pix.c l, .fn 93 [] []] [] (.loc (aB v1) [] [] 0) (callOk_val (l := []) (args' := [slT api_Pix.c l, .fn 93 [] []]) rfl (SnL.cons (Sn.pure rfl) (SnL.cons (Sn.pure rfl) SnL.nil)) (slices_ContainsFunc_fiducial_api_Pix_fiducial_api_Pix_of_predicate_Check_1_ok n l v1 hc2))) ?_
 refine EVO.p1 (slT api_Pix.c l) ?_
 refine EVO.c0 (by kernel_rfl) (callOf_at (by kernel_rfl)) ?_
 refine EVO.done ?_
 refine CQ.n1 [4] (mkS 5 0 [(4, aB v1)]) [] ?_
 refine CQ.cond (t := v1) (by kernel_rfl) (fun hb3 => ?_) (fun hb3 => ?_)
 ·replace hr := cd_t hb3 hr
  refine CQ.seq ?_
  refine CQ.r0 fine ?_
  refine EVO.p1 (aI64 2) ?_
  refine EVO.done ?_
  refine CQ.ret ?_
  obtain rfl := Option.some.inj hr
  exact FinQ.r1 [aI64 2]
 ·replace hr := cd_f hb3 hr
  refine CQ.skip ?_
  refine CQ.seq ?_
  refine CQ.r0 fine ?_
  refine EVO.p1 (aI64 0) ?_
  refine EVO.done ?_
  refine CQ.ret ?_
  obtain rfl := Option.some.inj hr
  exact FinQ.r1 [aI64 0]

theorem predicate_cross_inj {a : api_Pix} {b : api_Pix} {c : api_Pix} {a_ : api_Pix} {b_ : api_Pix} {c_ : api_Pix} (h : ([.agg [.at (.int .i64 a.X), .at (.int .i64 a.Y)], .agg [.at (.int .i64 b.X), .at (.int .i64 b.Y)], .agg [.at (.int .i64 c.X), .at (.int .i64 c.Y)]] : List AV) = [.agg [.at (.int .i64 a_.X), .at (.int .i64 a_.Y)], .agg [.at (.int .i64 b_.X), .at (.int .i64 b_.Y)], .agg [.at (.int .i64 c_.X), .at (.int .i64 c_.Y)]]) : a = a_ ∧ b = b_ ∧ c = c_ := by
 obtain ⟨_, _⟩ := a
 obtain ⟨_, _⟩ := a_
 obtain ⟨_, _⟩ := b
 obtain ⟨_, _⟩ := b_
 obtain ⟨_, _⟩ := c
 obtain ⟨_, _⟩ := c_
 simp only [List.cons.injEq, AV.agg.injEq, AV.at.injEq, Value.int.injEq, Value.bool.injEq, AV.fn.injEq, AV.pp.injEq, true_and, and_true] at h
 simp_all
theorem predicate_cross_ok (n : Nat) (a : api_Pix) (b : api_Pix) (c : api_Pix) (r : Int) (hr : predicate_cross n a b c = some r) : FnOk Tryz.prog 43 [.agg [.at (.int .i64 a.X), .at (.int .i64 a.Y)], .agg [.at (.int .i64 b.X), .at (.int .i64 b.Y)], .agg [.at (.int .i64 c.X), .at (.int .i64 c.Y)]] (.at (.int .i64 r)) := by
 unfold predicate_cross at hr
 refine FnOk.body fine Tryz.func43 (c := (Tryz.f43.body).getD .skip) rfl (s := mkS 30 0 [(0, .agg (api_Pix.c a)), (1, .agg (api_Pix.c b)), (2, .agg (api_Pix.c c))]) (by kernel_rfl) (rs := [.tmp 6]) rfl ?_
 unfold Tryz.f43
 simp only [Option.getD_some]
 refine CQ.seq ?_
 refine CQ.r0 fine ?_
 refine EVO.e1 (.hp 0 0) [(0, .own (api_Pix.c a))] ?_
 refine EVO.e1 (.hp 1 0) [(1, .own (api_Pix.c b))] ?_
 refine EVO.e1 (.hp 2 0) [(2, .own (api_Pix.c c))] ?_
 refine EVO.p1 (aI64 0) ?_
 refine EVO.done ?_
 refine CQ.n1 [3, 4, 5] (mkS 30 0 [(3, .hp 0 0), (4, .hp 1 0), (5, .hp 2 0)]) [.own (api_Pix.c a), .own (api_Pix.c b), .own (api_Pix.c c)] ?_
 refine CQ.seq ?_
 refine CQ.r0 fine ?_
 refine EVO.p1 (.hp 1 0) ?_
 refine EVO.p1 (aI64 b.X) ?_
 refine EVO.p1 (.hp 0 0) ?_
 refine EVO.p1 (aI64 a.X) ?_
 refine EVO.p1 (aI64 (wrapF .i64 (b.X - a.X))) ?_
 refine EVO.p1 (.hp 2 1) ?_
 refine EVO.p1 (aI64 c.Y) ?_
 refine EVO.p1 (.hp 0 1) ?_
 refine EVO.p1 (aI64 a.Y) ?_
 refine EVO.p1 (aI64 (wrapF .i64 (c.Y - a.Y))) ?_
 refine EVO.p1 (aI64 (wrapF .i64 ((wrapF .i64 (b.X - a.X)) * (wrapF .i64 (c.Y - a.Y))))) ?_
 refine EVO.p1 (.hp 1 1) ?_
 refine EVO.p1 (aI64 b.Y) ?_
 refine EVO.p1 (.hp 0 1) ?_
 refine EVO.p1 (aI64 a.Y) ?_
 refine EVO.p1 (aI64 (wrapF .i64 (b.Y - a.Y))) ?_
 refine EVO.p1 (.hp 2 0) ?_
 refine EVO.p1 (aI64 c.X) ?_
 refine EVO.p1 (.hp 0 0) ?_
 refine EVO.p1 (aI64 a.X) ?_
 refine EVO.p1 (aI64 (wrapF .i64 (c.X - a.X))) ?_
 refine EVO.p1 (aI64 (wrapF .i64 ((wrapF .i64 (b.Y - a.Y)) * (wrapF .i64 (c.X - a.X))))) ?_
 refine EVO.p1 (aI64 (wrapF .i64 ((wrapF .i64 ((wrapF .i64 (b.X - a.X)) * (wrapF .i64 (c.Y - a.Y)))) - (wrapF .i64 ((wrapF .i64 (b.Y - a.Y)) * (wrapF .i64 (c.X - a.X))))))) ?_
 refine EVO.p1 (aI64 (wrapF .i64 ((wrapF .i64 ((wrapF .i64 (b.X - a.X)) * (wrapF .i64 (c.Y - a.Y)))) - (wrapF .i64 ((wrapF .i64 (b.Y - a.Y)) * (wrapF .i64 (c.X - a.X))))))) ?_
 refine EVO.done ?_
 refine CQ.ret ?_
 obtain rfl := Option.some.inj hr
 exact FinQ.r1 [aI64 (wrapF .i64 ((wrapF .i64 ((wrapF .i64 (b.X - a.X)) * (wrapF .i64 (c.Y - a.Y)))) - (wrapF .i64 ((wrapF .i64 (b.Y - a.Y)) * (wrapF .i64 (c.X - a.X))))))]

theorem predicate_dot_ok (n : Nat) (a : api_Pix) (b : api_Pix) (c : api_Pix) (r : Int) (hr : predicate_dot n a b c = some r) : FnOk Tryz.prog 47 [.agg [.at (.int .i64 a.X), .at (.int .i64 a.Y)], .agg [.at (.int .i64 b.X), .at (.int .i64 b.Y)], .agg [.at (.int .i64 c.X), .at (.int .i64 c.Y)]] (.at (.int .i64 r)) := by
 unfold predicate_dot at hr
 refine FnOk.body fine Tryz.func47 (c := (Tryz.f47.body).getD .skip) rfl (s := mkS 30 0 [(0, .agg (api_Pix.c a)), (1, .agg (api_Pix.c b)), (2, .agg (api_Pix.c c))]) (by kernel_rfl) (rs := [.tmp 6]) rfl ?_
 unfold Tryz.f47
 simp only [Option.getD_some]
 refine CQ.seq ?_
 refine CQ.r0 fine ?_
 refine EVO.e1 (.hp 0 0) [(0, .own (api_Pix.c a))] ?_
 refine EVO.e1 (.hp 1 0) [(1, .own (api_Pix.c b))] ?_
 refine EVO.e1 (.hp 2 0) [(2, .own (api_Pix.c c))] ?_
 refine EVO.p1 (aI64 0) ?_
 refine EVO.done ?_
 refine CQ.n1 [3, 4, 5] (mkS 30 0 [(3, .hp 0 0), (4, .hp 1 0), (5, .hp 2 0)]) [.own (api_Pix.c a), .own (api_Pix.c b), .own (api_Pix.c c)] ?_
 refine CQ.seq ?_
 refine CQ.r0 fine ?_
 refine EVO.p1 (.hp 1 0) ?_
 refine EVO.p1 (aI64 b.X) ?_
 refine EVO.p1 (.hp 0 0) ?_
 refine EVO.p1 (aI64 a.X) ?_
 refine EVO.p1 (aI64 (wrapF .i64 (b.X - a.X))) ?_
 refine EVO.p1 (.hp 2 0) ?_
 refine EVO.p1 (aI64 c.X) ?_
 refine EVO.p1 (.hp 0 0) ?_
 refine EVO.p1 (aI64 a.X) ?_
 refine EVO.p1 (aI64 (wrapF .i64 (c.X - a.X))) ?_
 refine EVO.p1 (aI64 (wrapF .i64 ((wrapF .i64 (b.X - a.X)) * (wrapF .i64 (c.X - a.X))))) ?_
 refine EVO.p1 (.hp 1 1) ?_
 refine EVO.p1 (aI64 b.Y) ?_
 refine EVO.p1 (.hp 0 1) ?_
 refine EVO.p1 (aI64 a.Y) ?_
 refine EVO.p1 (aI64 (wrapF .i64 (b.Y - a.Y))) ?_
 refine EVO.p1 (.hp 2 1) ?_
 refine EVO.p1 (aI64 c.Y) ?_
 refine EVO.p1 (.hp 0 1) ?_
 refine EVO.p1 (aI64 a.Y) ?_
 refine EVO.p1 (aI64 (wrapF .i64 (c.Y - a.Y))) ?_
 refine EVO.p1 (aI64 (wrapF .i64 ((wrapF .i64 (b.Y - a.Y)) * (wrapF .i64 (c.Y - a.Y))))) ?_
 refine EVO.p1 (aI64 (wrapF .i64 ((wrapF .i64 ((wrapF .i64 (b.X - a.X)) * (wrapF .i64 (c.X - a.X)))) + (wrapF .i64 ((wrapF .i64 (b.Y - a.Y)) * (wrapF .i64 (c.Y - a.Y))))))) ?_
 refine EVO.p1 (aI64 (wrapF .i64 ((wrapF .i64 ((wrapF .i64 (b.X - a.X)) * (wrapF .i64 (c.X - a.X)))) + (wrapF .i64 ((wrapF .i64 (b.Y - a.Y)) * (wrapF .i64 (c.Y - a.Y))))))) ?_
 refine EVO.done ?_
 refine CQ.ret ?_
 obtain rfl := Option.some.inj hr
 exact FinQ.r1 [aI64 (wrapF .i64 ((wrapF .i64 ((wrapF .i64 (b.X - a.X)) * (wrapF .i64 (c.X - a.X)))) + (wrapF .i64 ((wrapF .i64 (b.Y - a.Y)) * (wrapF .i64 (c.Y - a.Y))))))]

theorem predicate_on_ok (n : Nat) (a : api_Pix) (b : api_Pix) (c : api_Pix) (r : Bool) (hr : predicate_on n a b c = some r) : FnOk Tryz.prog 84 [.agg [.at (.int .i64 a.X), .at (.int .i64 a.Y)], .agg [.at (.int .i64 b.X), .at (.int .i64 b.Y)], .agg [.at (.int .i64 c.X), .at (.int .i64 c.Y)]] (.at (.bool r)) := by
 unfold predicate_on at hr
 refine FnOk.body fine Tryz.func84 (c := (Tryz.f84.body).getD .skip) rfl (s := mkS 19 0 [(0, .agg (api_Pix.c a)), (1, .agg (api_Pix.c b)), (2, .agg (api_Pix.c c))]) (by kernel_rfl) (rs := [.tmp 6]) rfl ?_
 unfold Tryz.f84
 simp only [Option.getD_some]
 refine CQ.seq ?_
 refine CQ.r0 fine ?_
 refine EVO.e1 (.hp 0 0) [(0, .own (api_Pix.c a))] ?_
 refine EVO.e1 (.hp 1 0) [(1, .own (api_Pix.c b))] ?_
 refine EVO.e1 (.hp 2 0) [(2, .own (api_Pix.c c))] ?_
 refine EVO.p1 (aB false) ?_
 refine EVO.done ?_
 refine CQ.n1 [3, 4, 5] (mkS 19 0 [(3, .hp 0 0), (4, .hp 1 0), (5, .hp 2 0)]) [.own (api_Pix.c a), .own (api_Pix.c b), .own (api_Pix.c c)] ?_
 refine CQ.seq ?_
 replace hr := bd hr; obtain ⟨v1, hc2, hr⟩ := hr
 rcases Bool.eq_false_or_eq_true ((v1 : Int) == 0) with hb3 | hb3
 ·replace hr := cd_t hb3 hr
  replace hr := bd hr; obtain ⟨v4, hc5, hr⟩ := hr
  refine CQ.region fine (callOf_ok [{ f := 43, args := [.agg (api_Pix.c a), .agg (api_Pix.c b), .agg (api_Pix.c c)], H := [.own (api_Pix.c a), .own (api_Pix.c b), .own (api_Pix.c c)], r := .loc (aI64 v1) [] [] 0 : CE }, { f := 47, args := [.agg (api_Pix.c c), .agg (api_Pix.c a), .agg (api_Pix.c b)], H := [.own (api_Pix.c a), .own (api_Pix.c b), .own (api_Pix.c c)], r := .loc (aI64 v4) [] [] 0 : CE }] (List.forall_mem_cons.2 ⟨(callOk_val (l := []) (args' := [.agg (api_Pix.c a), .agg (api_Pix.c b), .agg (api_Pix.c c)]) rfl (SnL.cons (Sn.pure rfl) (SnL.cons (Sn.pure rfl) (SnL.cons (Sn.pure rfl) SnL.nil))) (predicate_cross_ok n a b c v1 hc2)), (List.forall_mem_cons.2 ⟨(callOk_val (l := []) (args' := [.agg (api_Pix.c c), .agg (api_Pix.c a), .agg (api_Pix.c b)]) rfl (SnL.cons (Sn.pure rfl) (SnL.cons (Sn.pure rfl) (SnL.cons (Sn.pure rfl) SnL.nil))) (predicate_dot_ok n c a b v4 hc5)), ce0⟩)⟩)) ?_
  refine EVO.p1 (.agg (api_Pix.c a)) ?_
  refine EVO.p1 (.agg (api_Pix.c b)) ?_
  refine EVO.p1 (.agg (api_Pix.c c)) ?_
  refine EVO.c0 (by kernel_rfl) (callOf_at (by kernel_rfl)) ?_
  refine EVO.p0 (v := aB true) (Eq.trans (b := some (.pure (aB ((v1 : Int) == 0)))) (by kernel_rfl) (by rw [hb3])) ?_
  refine EVO.p1 (aB true) ?_
  refine EVO.q1 (.agg (api_Pix.c c)) ?_
  refine EVO.q1 (.agg (api_Pix.c a)) ?_
  refine EVO.q1 (.agg (api_Pix.c b)) ?_
  refine EVO.cal (by kernel_rfl) (by kernel_rfl) (callOf_skip (fun h _ => absurd (show (47 : Nat) = 43 from h) (by decide)) (callOf_at (by kernel_rfl))) ?_
  refine EVO.q1 (aB (decide (v4 ≤ 0))) ?_
  refine EVO.p1 (aB (decide (v4 ≤ 0))) ?_
  refine EVO.p1 (aB (decide (v4 ≤ 0))) ?_
  refine EVO.done ?_
  refine CQ.ret ?_
  obtain rfl := Option.some.inj hr
  exact FinQ.r1 [aB (decide (v4 ≤ 0))]
 ·replace hr := cd_f hb3 hr
  refine CQ.region fine (callOf_1 43 [.agg (api_Pix.c a), .agg (api_Pix.c b), .agg (api_Pix.c c)] [.own (api_Pix.c a), .own (api_Pix.c b), .own (api_Pix.c c)] (.loc (aI64 v1) [] [] 0) (callOk_val (l := []) (args' := [.agg (api_Pix.c a), .agg (api_Pix.c b), .agg (api_Pix.c c)]) rfl (SnL.cons (Sn.pure rfl) (SnL.cons (Sn.pure rfl) (SnL.cons (Sn.pure rfl) SnL.nil))) (predicate_cross_ok n a b c v1 hc2))) ?_
  refine EVO.p1 (.agg (api_Pix.c a)) ?_
  refine EVO.p1 (.agg (api_Pix.c b)) ?_
  refine EVO.p1 (.agg (api_Pix.c c)) ?_
  refine EVO.c0 (by kernel_rfl) (callOf_at (by kernel_rfl)) ?_
  refine EVO.p0 (v := aB false) (Eq.trans (b := some (.pure (aB ((v1 : Int) == 0)))) (by kernel_rfl) (by rw [hb3])) ?_
  refine EVO.p1 (aB false) ?_
  refine EVO.s1 ?_
  refine EVO.s1 ?_
  refine EVO.s1 ?_
  refine EVO.s1 ?_
  refine EVO.s1 ?_
  refine EVO.p1 (aB false) ?_
  refine EVO.p1 (aB false) ?_
  refine EVO.done ?_
  refine CQ.ret ?_
  obtain rfl := Option.some.inj hr
  exact FinQ.r1 [aB false]

theorem slices_Index_fiducial_api_Pix_fiducial_api_Pix_ok (n : Nat) (s : List api_Pix) (v : api_Pix) (r : Int) (hr : slices_Index_fiducial_api_Pix_fiducial_api_Pix n s v = some r) : FnOk Tryz.prog 125 [slT api_Pix.c s, .agg [.at (.int .i64 v.X), .at (.int .i64 v.Y)]] (.at (.int .i64 r)) := by
 unfold slices_Index_fiducial_api_Pix_fiducial_api_Pix at hr
 refine FnOk.body fine Tryz.func125 (c := (Tryz.f125.body).getD .skip) rfl (s := mkS 19 0 [(0, slT api_Pix.c s), (1, .agg (api_Pix.c v))]) (by kernel_rfl) (rs := [.tmp 4]) rfl ?_
 unfold Tryz.f125
 simp only [Option.getD_some]
 refine CQ.seq ?_
 refine CQ.r0 fine ?_
 refine EVO.e1 (.hp 0 0) [(0, .own (api_Pix.c v))] ?_
 refine EVO.p1 (aI64 0) ?_
 refine EVO.done ?_
 refine CQ.n1 [0, 3] (mkS 19 0 [(0, slT api_Pix.c s), (3, .hp 0 0)]) [.own (api_Pix.c v)] ?_
 refine CQ.seq ?_
 refine CQ.seq ?_
 refine CQ.r0 fine ?_
 refine EVO.p1 (slT api_Pix.c s) ?_
 refine EVO.p1 (aI64 (s.length : Int)) ?_
 refine EVO.p1 (aI64 0) ?_
 refine EVO.done ?_
 refine CQ.n1 [0, 3, 7, 8] (mkS 19 0 [(0, slT api_Pix.c s), (3, .hp 0 0), (7, aI64 (s.length : Int)), (8, aI64 0)]) [.own (api_Pix.c v)] ?_
 refine CQ.block ?_
 replace hr := bd hr; obtain ⟨o9, hL10, hr⟩ := hr
 refine CQ.loopO (σ := fun z0 => match z0 with | x_1 => ⟨mkS 19 0 [(0, slT api_Pix.c s), (3, .hp 0 0), (7, aI64 (s.length : Int)), (8, aI64 x_1)], [.own (api_Pix.c v)]⟩) (Q := fun x st' => match (generalizing := false) o9 with | .inl _ => x = .exit 0 ∧ Wk 0 st' ⟨mkS 19 0 [], []⟩ | .inr (r0) => x = .ret ∧ FinQ Tryz.prog [.tmp 4] (aI64 r0) .ret st') hL10 ((Wk.gc [0, 3, 7, 8] [(0, true)] rfl trivial).to (by kernel_rfl)) ?_ ?_
 ·clear hr
  rintro m x_1 hr
  show CQ _ _ _ _ _ ⟨_, _⟩
  refine CQ.seq ?_
  refine CQ.r0 fine ?_
  refine EVO.p1 (aB (decide (x_1 < (s.length : Int)))) ?_
  refine EVO.done ?_
  refine CQ.seq ?_
  refine CQ.cond (t := decide (x_1 < (s.length : Int))) (by kernel_rfl) (fun hb6 => ?_) (fun hb6 => ?_)
  ·replace hr := cd_t hb6 hr
   refine CQ.skip ?_
   refine CQ.seq ?_
   refine CQ.block ?_
   refine CQ.seq ?_
   refine CQ.r0 fine ?_
   refine EVO.p1 (aI64 x_1) ?_
   refine EVO.p1 (aI64 x_1) ?_
   refine EVO.done ?_
   refine CQ.n1 [0, 3, 5, 7, 8] (mkS 19 0 [(0, slT api_Pix.c s), (3, .hp 0 0), (5, aI64 x_1), (7, aI64 (s.length : Int)), (8, aI64 x_1)]) [.own (api_Pix.c v)] ?_
   refine CQ.seq ?_
   replace hr := gd hr; obtain ⟨hg7, hr⟩ := hr
   refine CQ.regionT fine callOf_nil ?_
   refine EVT.p1 (.agg (api_Pix.c v)) ?_
   refine EVT.p1 (slT api_Pix.c s) ?_
   refine EVT.p1 (aI64 x_1) ?_
   refine EVT.pure (v := .pp (s.flatMap api_Pix.c) (x_1.toNat * 2)) (by kernel_rfl) (Eq.trans (b := ORes.ofP (guardV (inR x_1 s.length) (.pp (s.flatMap api_Pix.c) (x_1.toNat * 2)))) (by kernel_rfl) (ofP_guard hg7)) (by kernel_rfl) ?_
   refine EVT.pure (v := .agg (api_Pix.c (gt s x_1))) (by kernel_rfl) (Eq.trans (b := ORes.ofP (guardV (decide (2 ≤ ((s.flatMap api_Pix.c).drop (x_1.toNat * 2)).length)) (.agg (((s.flatMap api_Pix.c).drop (x_1.toNat * 2)).take 2)))) (by kernel_rfl) (flat_load api_Pix.len (inR_lt hg7) (by decide) (by omega : x_1.toNat * 2 = x_1.toNat * 2 + 0) (by kernel_rfl))) (by kernel_rfl) ?_
   refine EVT.p1 (aB (((v.X : Int) == (gt s x_1).X) && (((v.Y : Int) == (gt s x_1).Y) && true))) ?_
   refine EVT.done ⟨by kernel_rfl, ?_⟩
   refine CQ.n1 [0, 3, 5, 7, 8, 16] (mkS 19 0 [(0, slT api_Pix.c s), (3, .hp 0 0), (5, aI64 x_1), (7, aI64 (s.length : Int)), (8, aI64 x_1), (16, aB (((v.X : Int) == (gt s x_1).X) && (((v.Y : Int) == (gt s x_1).Y) && true)))]) [.own (api_Pix.c v)] ?_
   refine CQ.cond (t := ((v.X : Int) == (gt s x_1).X) && (((v.Y : Int) == (gt s x_1).Y) && true)) (by kernel_rfl) (fun hb8 => ?_) (fun hb8 => ?_)
   ·replace hr := cd_t hb8 hr
    refine CQ.seq ?_
    refine CQ.r0 fine ?_
    refine EVO.p1 (aI64 x_1) ?_
    refine EVO.p1 (aI64 x_1) ?_
    refine EVO.done ?_
    refine CQ.ret ?_
    obtain rfl := Option.some.inj hr
    exact ⟨rfl, FinQ.ret (vs := [aI64 x_1]) (by kernel_rfl) (Sn.pure rfl)⟩
   ·replace hr := cd_f hb8 hr
    refine CQ.skip ?_
    refine CQ.pop ?_
    refine CQ.r0 fine ?_
    refine EVO.p1 (aI64 (wrapF .i64 (x_1 + 1))) ?_
    refine EVO.p1 (aI64 (wrapF .i64 (x_1 + 1))) ?_
    refine EVO.done ?_
    exact loopF_back (wrapF .i64 (x_1 + 1)) hr ((Wk.gc [0, 3, 7, 8] [(0, true)] rfl trivial).to (by kernel_rfl))
  ·replace hr := cd_f hb6 hr
   refine CQ.leave rfl ?_
   obtain rfl := Option.some.inj hr
   exact ⟨rfl, ((Wk.gc [] [] rfl trivial).to (by kernel_rfl))⟩
 ·rcases o9 with ⟨⟩ | r0
  ·rintro x st' hq11
   clear hL10
   obtain ⟨rfl, hq11⟩ := hq11
   refine CQ_exit _ rfl ?_
   refine CQ.wk hq11 ?_
   refine CQ.seq ?_
   refine CQ.r0 fine ?_
   refine EVO.p1 (aI64 (-1)) ?_
   refine EVO.done ?_
   refine CQ.ret ?_
   obtain rfl := Option.some.inj hr
   exact FinQ.r1 [aI64 (-1)]
  ·rintro x st' hq11
   clear hL10
   obtain ⟨rfl, hq11⟩ := hq11
   obtain rfl := Option.some.inj hr
   exact CQ_ret _ hq11

theorem slices_Contains_fiducial_api_Pix_fiducial_api_Pix_ok (n : Nat) (s : List api_Pix) (v : api_Pix) (r : Bool) (hr : slices_Contains_fiducial_api_Pix_fiducial_api_Pix n s v = some r) : FnOk Tryz.prog 83 [slT api_Pix.c s, .agg [.at (.int .i64 v.X), .at (.int .i64 v.Y)]] (.at (.bool r)) := by
 unfold slices_Contains_fiducial_api_Pix_fiducial_api_Pix at hr
 refine FnOk.body fine Tryz.func83 (c := (Tryz.f83.body).getD .skip) rfl (s := mkS 9 0 [(0, slT api_Pix.c s), (1, .agg (api_Pix.c v))]) (by kernel_rfl) (rs := [.tmp 4]) rfl ?_
 unfold Tryz.f83
 simp only [Option.getD_some]
 refine CQ.seq ?_
 refine CQ.r0 fine ?_
 refine EVO.e1 (.hp 0 0) [(0, .own (api_Pix.c v))] ?_
 refine EVO.p1 (aB false) ?_
 refine EVO.done ?_
 refine CQ.n1 [0, 3] (mkS 9 0 [(0, slT api_Pix.c s), (3, .hp 0 0)]) [.own (api_Pix.c v)] ?_
 refine CQ.seq ?_
 replace hr := bd hr; obtain ⟨v1, hc2, hr⟩ := hr
 refine CQ.region fine (callOf_1 125 [slT api_Pix.c s, .agg (api_Pix.c v)] [.own (api_Pix.c v)] (.loc (aI64 v1) [] [] 0) (callOk_val (l := []) (args' := [slT api_Pix.c s, .agg (api_Pix.c v)]) rfl (SnL.cons (Sn.pure rfl) (SnL.cons (Sn.pure rfl) SnL.nil)) (slices_Index_fiducial_api_Pix_fiducial_api_Pix_ok n s v v1 hc2))) ?_
 refine EVO.p1 (slT api_Pix.c s) ?_
 refine EVO.p1 (.agg (api_Pix.c v)) ?_
 refine EVO.c0 (by kernel_rfl) (callOf_at (by kernel_rfl)) ?_
 refine EVO.p1 (aB (decide (v1 ≥ 0))) ?_
 refine EVO.p1 (aB (decide (v1 ≥ 0))) ?_
 refine EVO.done ?_
 refine CQ.ret ?_
 obtain rfl := Option.some.inj hr
 exact FinQ.r1 [aB (decide (v1 ≥ 0))]

theorem predicate_Relate_1_w_ok (n : Nat) (p : api_Pix) (lies : Bool) (p' : List api_Pix) (r : List api_Pix) (hr : predicate_Relate_1_w n p lies p' = some r) : FnMut 1 Tryz.prog 82 [.agg [.at (.int .i64 p.X), .at (.int .i64 p.Y)], .at (.bool lies), .hp 0 0] [.own [.hs 1 0 p'.length 2], .own (p'.flatMap api_Pix.c)] (.tup []) [.own [.hs 1 0 r.length 2], .own (r.flatMap api_Pix.c)] := by
 unfold predicate_Relate_1_w at hr
 refine FnMut.body fine Tryz.func82 (c := (Tryz.f82.body).getD .skip) rfl (us := []) (s := mkS 16 0 [(0, .agg (api_Pix.c p)), (1, aB lies), (2, .hp 0 0)]) (by kernel_rfl) (rs := []) rfl ?_
 unfold Tryz.f82
 simp only [Option.getD_some]
 refine CQ.seq ?_
 refine CQ.r0 fine ?_
 refine EVO.e1 (.hp 2 0) [(2, .own (api_Pix.c p))] ?_
 refine EVO.done ?_
 refine CQ.n1 [1, 2, 3] (mkS 16 0 [(1, aB lies), (2, .hp 0 0), (3, .hp 2 0)]) [.own [.hs 1 0 p'.length 2], .own (p'.flatMap api_Pix.c), .own (api_Pix.c p)] ?_
 refine CQ.seq ?_
 rcases Bool.eq_false_or_eq_true lies with hb8 | hb8
 ·replace hr := cd_t hb8 hr
  replace hr := bd hr; obtain ⟨v9, hc10, hr⟩ := hr
  refine CQ.region fine (callOf_1 83 [.hs 1 0 p'.length 2, .agg (api_Pix.c p)] [.own [.hs 1 0 p'.length 2], .own (p'.flatMap api_Pix.c), .own (api_Pix.c p)] (.loc (aB v9) [] [1] 0) (callOk_val (l := [1]) (args' := [slT api_Pix.c p', .agg (api_Pix.c p)]) rfl (SnL.cons (Sn.hs rfl (.inl rfl) (SnC.pure (ids_flat api_Pix.pure _)) (fun h => flat_nil0 h)) (SnL.cons (Sn.pure rfl) SnL.nil)) (slices_Contains_fiducial_api_Pix_fiducial_api_Pix_ok n p' p v9 hc10))) ?_
  refine EVO.p0 (v := aB true) (Eq.trans (b := some (.pure (aB lies))) (by kernel_rfl) (by rw [hb8])) ?_
  refine EVO.p1 (aB true) ?_
  refine EVO.q1 (.hs 1 0 p'.length 2) ?_
  refine EVO.q1 (.agg (api_Pix.c p)) ?_
  refine EVO.cal (by kernel_rfl) (by kernel_rfl) (callOf_at (by kernel_rfl)) ?_
  refine EVO.q1 (aB (!v9)) ?_
  refine EVO.p1 (aB (!v9)) ?_
  refine EVO.done ?_
  refine CQ.n1 [2, 3, 11] (mkS 16 0 [(2, .hp 0 0), (3, .hp 2 0), (11, aB (!v9))]) [.own [.hs 1 0 p'.length 2], .own (p'.flatMap api_Pix.c), .own (api_Pix.c p)] ?_
  refine CQ.cond (t := !v9) (by kernel_rfl) (fun hb11 => ?_) (fun hb11 => ?_)
  ·replace hr := cd_t hb11 hr
   replace hr := gd hr; obtain ⟨hg12, hr⟩ := hr
   replace hr := gd hr; obtain ⟨hg13, hr⟩ := hr
   refine CQ.r0 fine ?_
   refine EVO.p1 (.hs 1 0 p'.length 2) ?_
   refine EVO.p1 (.agg (api_Pix.c p)) ?_
   refine EVO.e1 (.hs 3 0 1 2) [(3, .own (api_Pix.c p))] ?_
   refine EVO.e0 (v := .hs 4 0 (p' ++ [p]).length 2) (ws := [(1, .dead), (4, .own ((p' ++ [p]).flatMap api_Pix.c))]) (Eq.trans (b := guardO (decide (0 + p'.length * 2 ≤ (p'.flatMap api_Pix.c).length) && decide ((p'.length + 1) * 16 ≤ 140737488355328) && decide (p'.length + 1 ≤ 4611686018427387904)) (some (.eff (.hs 4 0 (p'.length + 1) 2) [(1, .dead), (4, .own (((p'.flatMap api_Pix.c).drop 0).take (p'.length * 2) ++ (api_Pix.c p)))]))) (by kernel_rfl) (app_own (l := p') (xs := [p]) api_Pix.len rfl rfl (by kernel_rfl) hg12 hg13)) ?_
   refine EVO.e1 (.unk) [(0, .own [.hs 4 0 (p' ++ [p]).length 2])] ?_
   refine EVO.done ?_
   obtain rfl := Option.some.inj hr
   exact FinM.normal [] ((Wk.gc [] [(0, true), (4, false)] rfl (by exact ⟨ids_flat api_Pix.pure _, trivial⟩)).to (by kernel_rfl))
  ·replace hr := cd_f hb11 hr
   refine CQ.skip ?_
   obtain rfl := Option.some.inj hr
   exact FinM.normal [] ((Wk.gc [] [(0, true), (1, false)] rfl (by exact ⟨ids_flat api_Pix.pure _, trivial⟩)).to (by kernel_rfl))
 ·replace hr := cd_f hb8 hr
  refine CQ.r0 fine ?_
  refine EVO.p0 (v := aB false) (Eq.trans (b := some (.pure (aB lies))) (by kernel_rfl) (by rw [hb8])) ?_
  refine EVO.p1 (aB false) ?_
  refine EVO.s1 ?_
  refine EVO.s1 ?_
  refine EVO.s1 ?_
  refine EVO.s1 ?_
  refine EVO.p1 (aB false) ?_
  refine EVO.done ?_
  refine CQ.n1 [2, 3, 11] (mkS 16 0 [(2, .hp 0 0), (3, .hp 2 0), (11, aB false)]) [.own [.hs 1 0 p'.length 2], .own (p'.flatMap api_Pix.c), .own (api_Pix.c p)] ?_
  refine CQ.cF (by kernel_rfl) ?_
  refine CQ.skip ?_
  obtain rfl := Option.some.inj hr
  exact FinM.normal [] ((Wk.gc [] [(0, true), (1, false)] rfl (by exact ⟨ids_flat api_Pix.pure _, trivial⟩)).to (by kernel_rfl))

theorem cmp_isNaN_int_ok (n : Nat) (x' : Int) (r : Bool) (hr : cmp_isNaN_int n x' = some r) : FnOk Tryz.prog 122 [.at (.int .i64 x')] (.at (.bool r)) := by
 unfold cmp_isNaN_int at hr
 refine FnOk.body fine Tryz.func122 (c := (Tryz.f122.body).getD .skip) rfl (s := mkS 6 0 [(0, aI64 x')]) (by kernel_rfl) (rs := [.tmp 2]) rfl ?_
 unfold Tryz.f122
 simp only [Option.getD_some]
 refine CQ.seq ?_
 refine CQ.r0 fine ?_
 refine EVO.p1 (aB false) ?_
 refine EVO.done ?_
 refine CQ.n1 [0] (mkS 6 0 [(0, aI64 x')]) [] ?_
 refine CQ.seq ?_
 refine CQ.r0 fine ?_
 refine EVO.p1 (aI64 x') ?_
 refine EVO.p1 (aI64 x') ?_
 refine EVO.p1 (aB ((x' : Int) != x')) ?_
 refine EVO.p1 (aB ((x' : Int) != x')) ?_
 refine EVO.done ?_
 refine CQ.ret ?_
 obtain rfl := Option.some.inj hr
 exact FinQ.r1 [aB ((x' : Int) != x')]

theorem cmp_Compare_int_ok (n : Nat) (x' : Int) (y : Int) (r : Int) (hr : cmp_Compare_int n x' y = some r) : FnOk Tryz.prog 75 [.at (.int .i64 x'), .at (.int .i64 y)] (.at (.int .i64 r)) := by
 unfold cmp_Compare_int at hr
 refine FnOk.body fine Tryz.func75 (c := (Tryz.f75.body).getD .skip) rfl (s := mkS 20 0 [(0, aI64 x'), (1, aI64 y)]) (by kernel_rfl) (rs := [.tmp 4]) rfl ?_
 unfold Tryz.f75
 simp only [Option.getD_some]
 refine CQ.seq ?_
 refine CQ.r0 fine ?_
 refine EVO.p1 (aI64 0) ?_
 refine EVO.done ?_
 refine CQ.n1 [0, 1] (mkS 20 0 [(0, aI64 x'), (1, aI64 y)]) [] ?_
 refine CQ.seq ?_
 replace hr := bd hr; obtain ⟨v1, hc2, hr⟩ := hr
 refine CQ.region fine (callOf_1 122 [aI64 x'] [] (.loc (aB v1) [] [] 0) (callOk_val (l := []) (args' := [aI64 x']) rfl (SnL.cons (Sn.pure rfl) SnL.nil) (cmp_isNaN_int_ok n x' v1 hc2))) ?_
 refine EVO.p1 (aI64 x') ?_
 refine EVO.c0 (by kernel_rfl) (callOf_at (by kernel_rfl)) ?_
 refine EVO.p1 (aB v1) ?_
 refine EVO.done ?_
 refine CQ.n1 [0, 1, 5] (mkS 20 0 [(0, aI64 x'), (1, aI64 y), (5, aB v1)]) [] ?_
 refine CQ.seq ?_
 replace hr := bd hr; obtain ⟨v3, hc4, hr⟩ := hr
 refine CQ.region fine (callOf_1 122 [aI64 y] [] (.loc (aB v3) [] [] 0) (callOk_val (l := []) (args' := [aI64 y]) rfl (SnL.cons (Sn.pure rfl) SnL.nil) (cmp_isNaN_int_ok n y v3 hc4))) ?_
 refine EVO.p1 (aI64 y) ?_
 refine EVO.c0 (by kernel_rfl) (callOf_at (by kernel_rfl)) ?_
 refine EVO.p1 (aB v3) ?_
 refine EVO.done ?_
 refine CQ.n1 [0, 1, 5, 6] (mkS 20 0 [(0, aI64 x'), (1, aI64 y), (5, aB v1), (6, aB v3)]) [] ?_
 refine CQ.seq ?_
 refine CQ.seq ?_
 refine CQ.r0 fine ?_
 refine EVO.p1 (aB v1) ?_
 refine EVO.done ?_
 refine CQ.n1 [0, 1, 6, 11] (mkS 20 0 [(0, aI64 x'), (1, aI64 y), (6, aB v3), (11, aB v1)]) [] ?_
 refine CQ.cond (t := v1) (by kernel_rfl) (fun hb5 => ?_) (fun hb5 => ?_)
 ·replace hr := cd_t hb5 hr
  refine CQ.seq ?_
  refine CQ.seq ?_
  refine CQ.r0 fine ?_
  refine EVO.p1 (aB v3) ?_
  refine EVO.done ?_
  refine CQ.n1 [12] (mkS 20 0 [(12, aB v3)]) [] ?_
  refine CQ.cond (t := v3) (by kernel_rfl) (fun hb6 => ?_) (fun hb6 => ?_)
  ·replace hr := cd_t hb6 hr
   refine CQ.seq ?_
   refine CQ.r0 fine ?_
   refine EVO.p1 (aI64 0) ?_
   refine EVO.done ?_
   refine CQ.ret ?_
   obtain rfl := Option.some.inj hr
   exact FinQ.r1 [aI64 0]
  ·replace hr := cd_f hb6 hr
   refine CQ.skip ?_
   refine CQ.seq ?_
   refine CQ.r0 fine ?_
   refine EVO.p1 (aI64 (-1)) ?_
   refine EVO.done ?_
   refine CQ.ret ?_
   obtain rfl := Option.some.inj hr
   exact FinQ.r1 [aI64 (-1)]
 ·replace hr := cd_f hb5 hr
  refine CQ.skip ?_
  refine CQ.seq ?_
  refine CQ.seq ?_
  refine CQ.r0 fine ?_
  refine EVO.p1 (aB v3) ?_
  refine EVO.done ?_
  refine CQ.n1 [0, 1, 13] (mkS 20 0 [(0, aI64 x'), (1, aI64 y), (13, aB v3)]) [] ?_
  refine CQ.cond (t := v3) (by kernel_rfl) (fun hb7 => ?_) (fun hb7 => ?_)
  ·replace hr := cd_t hb7 hr
   refine CQ.seq ?_
   refine CQ.r0 fine ?_
   refine EVO.p1 (aI64 1) ?_
   refine EVO.done ?_
   refine CQ.ret ?_
   obtain rfl := Option.some.inj hr
   exact FinQ.r1 [aI64 1]
  ·replace hr := cd_f hb7 hr
   refine CQ.skip ?_
   refine CQ.seq ?_
   refine CQ.seq ?_
   refine CQ.r0 fine ?_
   refine EVO.p1 (aI64 x') ?_
   refine EVO.p1 (aI64 y) ?_
   refine EVO.p1 (aB (decide (x' < y))) ?_
   refine EVO.done ?_
   refine CQ.n1 [0, 1, 16] (mkS 20 0 [(0, aI64 x'), (1, aI64 y), (16, aB (decide (x' < y)))]) [] ?_
   refine CQ.cond (t := decide (x' < y)) (by kernel_rfl) (fun hb8 => ?_) (fun hb8 => ?_)
   ·replace hr := cd_t hb8 hr
    refine CQ.seq ?_
    refine CQ.r0 fine ?_
    refine EVO.p1 (aI64 (-1)) ?_
    refine EVO.done ?_
    refine CQ.ret ?_
    obtain rfl := Option.some.inj hr
    exact FinQ.r1 [aI64 (-1)]
   ·replace hr := cd_f hb8 hr
    refine CQ.skip ?_
    refine CQ.seq ?_
    refine CQ.seq ?_
    refine CQ.r0 fine ?_
    refine EVO.p1 (aI64 x') ?_
    refine EVO.p1 (aI64 y) ?_
    refine EVO.p1 (aB (decide (x' > y))) ?_
    refine EVO.done ?_
    refine CQ.n1 [19] (mkS 20 0 [(19, aB (decide (x' > y)))]) [] ?_
    refine CQ.cond (t := decide (x' > y)) (by kernel_rfl) (fun hb9 => ?_) (fun hb9 => ?_)
    ·replace hr := cd_t hb9 hr
     refine CQ.seq ?_
     refine CQ.r0 fine ?_
     refine EVO.p1 (aI64 1) ?_
     refine EVO.done ?_
     refine CQ.ret ?_
     obtain rfl := Option.some.inj hr
     exact FinQ.r1 [aI64 1]
    ·replace hr := cd_f hb9 hr
     refine CQ.skip ?_
     refine CQ.seq ?_
     refine CQ.r0 fine ?_
     refine EVO.p1 (aI64 0) ?_
     refine EVO.done ?_
     refine CQ.ret ?_
     obtain rfl := Option.some.inj hr
     exact FinQ.r1 [aI64 0]

theorem predicate_sign_inj {n' : Int} {n'_ : Int} (h : ([.at (.int .i64 n')] : List AV) = [.at (.int .i64 n'_)]) : n' = n'_ := by
 simp only [List.cons.injEq, AV.agg.injEq, AV.at.injEq, Value.int.injEq, Value.bool.injEq, AV.fn.injEq, AV.pp.injEq, true_and, and_true] at h
 simp_all
theorem predicate_sign_ok (n : Nat) (n' : Int) (r : Int) (hr : predicate_sign n n' = some r) : FnOk Tryz.prog 42 [.at (.int .i64 n')] (.at (.int .i64 r)) := by
 unfold predicate_sign at hr
 refine FnOk.body fine Tryz.func42 (c := (Tryz.f42.body).getD .skip) rfl (s := mkS 5 0 [(0, aI64 n')]) (by kernel_rfl) (rs := [.tmp 2]) rfl ?_
 unfold Tryz.f42
 simp only [Option.getD_some]
 refine CQ.seq ?_
 refine CQ.r0 fine ?_
 refine EVO.p1 (aI64 0) ?_
 refine EVO.done ?_
 refine CQ.n1 [0] (mkS 5 0 [(0, aI64 n')]) [] ?_
 refine CQ.seq ?_
 replace hr := bd hr; obtain ⟨v1, hc2, hr⟩ := hr
 refine CQ.region fine (callOf_1 75 [aI64 n', aI64 0] [] (.loc (aI64 v1) [] [] 0) (callOk_val (l := []) (args' := [aI64 n', aI64 0]) rfl (SnL.cons (Sn.pure rfl) (SnL.cons (Sn.pure rfl) SnL.nil)) (cmp_Compare_int_ok n n' 0 v1 hc2))) ?_
 refine EVO.p1 (aI64 n') ?_
 refine EVO.c0 (by kernel_rfl) (callOf_at (by kernel_rfl)) ?_
 refine EVO.p1 (aI64 v1) ?_
 refine EVO.done ?_
 refine CQ.ret ?_
 obtain rfl := Option.some.inj hr
 exact FinQ.r1 [aI64 v1]

theorem predicate_Relate_ok (n : Nat) (a : api_Pix) (b : api_Pix) (c : api_Pix) (d : api_Pix) (r : Int × Int) (hr : predicate_Relate n a b c d = some r) : FnOk Tryz.prog 36 [.agg [.at (.int .i64 a.X), .at (.int .i64 a.Y)], .agg [.at (.int .i64 b.X), .at (.int .i64 b.Y)], .agg [.at (.int .i64 c.X), .at (.int .i64 c.Y)], .agg [.at (.int .i64 d.X), .at (.int .i64 d.Y)]] (.tup [.at (.int .i64 r.1), .at (.int .i64 r.2)]) := by
 unfold predicate_Relate at hr
 refine FnOk.body fine Tryz.func36 (c := (Tryz.f36.body).getD .skip) rfl (s := mkS 83 0 [(0, .agg (api_Pix.c a)), (1, .agg (api_Pix.c b)), (2, .agg (api_Pix.c c)), (3, .agg (api_Pix.c d))]) (by kernel_rfl) (rs := [.tmp 8, .tmp 9]) rfl ?_
 unfold Tryz.f36
 simp only [Option.getD_some]
 refine CQ.seq ?_
 refine CQ.r0 fine ?_
 refine EVO.e1 (.hp 0 0) [(0, .own (api_Pix.c a))] ?_
 refine EVO.e1 (.hp 1 0) [(1, .own (api_Pix.c b))] ?_
 refine EVO.e1 (.hp 2 0) [(2, .own (api_Pix.c c))] ?_
 refine EVO.e1 (.hp 3 0) [(3, .own (api_Pix.c d))] ?_
 refine EVO.p1 (aI64 0) ?_
 refine EVO.p1 (aI64 0) ?_
 refine EVO.done ?_
 refine CQ.n1 [4, 5, 6, 7] (mkS 83 0 [(4, .hp 0 0), (5, .hp 1 0), (6, .hp 2 0), (7, .hp 3 0)]) [.own (api_Pix.c a), .own (api_Pix.c b), .own (api_Pix.c c), .own (api_Pix.c d)] ?_
 refine CQ.seq ?_
 refine CQ.seq ?_
 replace hr := bd hr; obtain ⟨v1, hc2, hr⟩ := hr
 refine CQ.region fine (callOf_1 41 [.hs 4 0 4 2] [.own (api_Pix.c a), .own (api_Pix.c b), .own (api_Pix.c c), .own (api_Pix.c d), .own [aI64 a.X, aI64 a.Y, aI64 b.X, aI64 b.Y, aI64 c.X, aI64 c.Y, aI64 d.X, aI64 d.Y]] (.loc (aI64 v1) [] [4] 0) (callOk_val (l := [4]) (args' := [slT api_Pix.c [a, b, c, d]]) rfl (SnL.cons (Sn.hs rfl (.inl rfl) (SnC.cons (Sn.pure rfl) (SnC.cons (Sn.pure rfl) (SnC.cons (Sn.pure rfl) (SnC.cons (Sn.pure rfl) (SnC.cons (Sn.pure rfl) (SnC.cons (Sn.pure rfl) (SnC.cons (Sn.pure rfl) (SnC.cons (Sn.pure rfl) SnC.nil)))))))) (fun h => nomatch h)) SnL.nil) (predicate_Check_ok n [a, b, c, d] v1 hc2))) ?_
 refine EVO.p1 (.agg (api_Pix.c a)) ?_
 refine EVO.p1 (.agg (api_Pix.c b)) ?_
 refine EVO.p1 (.agg (api_Pix.c c)) ?_
 refine EVO.p1 (.agg (api_Pix.c d)) ?_
 refine EVO.e1 (.hs 4 0 4 2) [(4, .own [aI64 a.X, aI64 a.Y, aI64 b.X, aI64 b.Y, aI64 c.X, aI64 c.Y, aI64 d.X, aI64 d.Y])] ?_
 refine EVO.c0 (by kernel_rfl) (callOf_at (by kernel_rfl)) ?_
 refine EVO.p1 (aI64 v1) ?_
 refine EVO.done ?_
 refine CQ.n1 [4, 5, 6, 7, 10] (mkS 83 0 [(4, .hp 0 0), (5, .hp 1 0), (6, .hp 2 0), (7, .hp 3 0), (10, aI64 v1)]) [.own (api_Pix.c a), .own (api_Pix.c b), .own (api_Pix.c c), .own (api_Pix.c d), .own [aI64 a.X, aI64 a.Y, aI64 b.X, aI64 b.Y, aI64 c.X, aI64 c.Y, aI64 d.X, aI64 d.Y]] ?_
 refine CQ.seq ?_
 refine CQ.r0 fine ?_
 refine EVO.p1 (aI64 v1) ?_
 refine EVO.p1 (aB ((v1 : Int) != 0)) ?_
 refine EVO.done ?_
 refine CQ.n1 [4, 5, 6, 7, 10, 20] (mkS 83 0 [(4, .hp 0 0), (5, .hp 1 0), (6, .hp 2 0), (7, .hp 3 0), (10, aI64 v1), (20, aB ((v1 : Int) != 0))]) [.own (api_Pix.c a), .own (api_Pix.c b), .own (api_Pix.c c), .own (api_Pix.c d), .own [aI64 a.X, aI64 a.Y, aI64 b.X, aI64 b.Y, aI64 c.X, aI64 c.Y, aI64 d.X, aI64 d.Y]] ?_
 refine CQ.cond (t := (v1 : Int) != 0) (by kernel_rfl) (fun hb3 => ?_) (fun hb3 => ?_)
 ·replace hr := cd_t hb3 hr
  refine CQ.seq ?_
  refine CQ.r0 fine ?_
  refine EVO.p1 (aI64 v1) ?_
  refine EVO.p1 (aI64 0) ?_
  refine EVO.p1 (aI64 v1) ?_
  refine EVO.done ?_
  refine CQ.ret ?_
  obtain rfl := Option.some.inj hr
  exact FinQ.ret (vs := [aI64 0, aI64 v1]) (by kernel_rfl) (Sn.tup (SnL.cons (Sn.pure rfl) (SnL.cons (Sn.pure rfl) SnL.nil)))
 ·replace hr := cd_f hb3 hr
  refine CQ.skip ?_
  refine CQ.seq ?_
  refine CQ.r0 fine ?_
  refine EVO.e1 (.hp 5 0) [(5, .own [.at (.slice none 0 0)])] ?_
  refine EVO.done ?_
  refine CQ.n1 [4, 5, 6, 7, 11] (mkS 83 0 [(4, .hp 0 0), (5, .hp 1 0), (6, .hp 2 0), (7, .hp 3 0), (11, .hp 5 0)]) [.own (api_Pix.c a), .own (api_Pix.c b), .own (api_Pix.c c), .own (api_Pix.c d), .own [aI64 a.X, aI64 a.Y, aI64 b.X, aI64 b.Y, aI64 c.X, aI64 c.Y, aI64 d.X, aI64 d.Y], .own [.at (.slice none 0 0)]] ?_
  refine CQ.seq ?_
  refine CQ.r0 fine ?_
  refine EVO.p1 (.fn 82 [] [.hp 5 0]) ?_
  refine EVO.p1 (.fn 82 [] [.hp 5 0]) ?_
  refine EVO.done ?_
  refine CQ.n1 [4, 5, 6, 7, 11, 12] (mkS 83 0 [(4, .hp 0 0), (5, .hp 1 0), (6, .hp 2 0), (7, .hp 3 0), (11, .hp 5 0), (12, .fn 82 [] [.hp 5 0])]) [.own (api_Pix.c a), .own (api_Pix.c b), .own (api_Pix.c c), .own (api_Pix.c d), .own [aI64 a.X, aI64 a.Y, aI64 b.X, aI64 b.Y, aI64 c.X, aI64 c.Y, aI64 d.X, aI64 d.Y], .own [.at (.slice none 0 0)]] ?_
  refine CQ.seq ?_
  refine CQ.wk ((Wk.nilcell 5 0 2 (cs := [.at (.slice none 0 0)]) (by kernel_rfl) (by kernel_rfl)).to (c := ⟨mkS 83 0 [(4, .hp 0 0), (5, .hp 1 0), (6, .hp 2 0), (7, .hp 3 0), (11, .hp 5 0), (12, .fn 82 [] [.hp 5 0])], [.own (api_Pix.c a), .own (api_Pix.c b), .own (api_Pix.c c), .own (api_Pix.c d), .own [aI64 a.X, aI64 a.Y, aI64 b.X, aI64 b.Y, aI64 c.X, aI64 c.Y, aI64 d.X, aI64 d.Y], .own [.hs 6 0 ([] : List api_Pix).length 2], .own (([] : List api_Pix).flatMap api_Pix.c)]⟩) (by kernel_rfl)) ?_
  replace hr := bd hr; obtain ⟨v4, hc5, hr⟩ := hr
  replace hr := bd hr; obtain ⟨v6, hc7, hr⟩ := hr
  refine CQ.regionT fine (callOf_ok [{ f := 84, args := [.agg (api_Pix.c c), .agg (api_Pix.c d), .agg (api_Pix.c a)], H := [.own (api_Pix.c a), .own (api_Pix.c b), .own (api_Pix.c c), .own (api_Pix.c d), .own [aI64 a.X, aI64 a.Y, aI64 b.X, aI64 b.Y, aI64 c.X, aI64 c.Y, aI64 d.X, aI64 d.Y], .own [.hs 6 0 ([] : List api_Pix).length 2], .own (([] : List api_Pix).flatMap api_Pix.c)], r := .loc (aB v4) [] [] 0 : CE }, { f := 82, args := [.agg (api_Pix.c a), aB v4, .hp 5 0], H := [.own (api_Pix.c a), .own (api_Pix.c b), .own (api_Pix.c c), .own (api_Pix.c d), .own [aI64 a.X, aI64 a.Y, aI64 b.X, aI64 b.Y, aI64 c.X, aI64 c.Y, aI64 d.X, aI64 d.Y], .own [.hs 6 0 ([] : List api_Pix).length 2], .own (([] : List api_Pix).flatMap api_Pix.c)], r := .loc (.tup []) [(5, .own [.hs 7 0 v6.length 2]), (7, .own (v6.flatMap api_Pix.c)), (6, .dead)] [5, 6] 1 : CE }] (List.forall_mem_cons.2 ⟨(callOk_val (l := []) (args' := [.agg (api_Pix.c c), .agg (api_Pix.c d), .agg (api_Pix.c a)]) rfl (SnL.cons (Sn.pure rfl) (SnL.cons (Sn.pure rfl) (SnL.cons (Sn.pure rfl) SnL.nil))) (predicate_on_ok n c d a v4 hc5)), (List.forall_mem_cons.2 ⟨(callOk_mut 1 [(5, true), (6, false)] [true, false] (predicate_Relate_1_w_ok n a v4 ([] : List api_Pix) v6 hc7) (by exact ⟨ids_flat api_Pix.pure _, trivial⟩) (by exact ⟨ids_flat api_Pix.pure _, trivial⟩) rfl rfl), ce0⟩)⟩)) ?_
  refine EVT.p1 (.fn 82 [] [.hp 5 0]) ?_
  refine EVT.p1 (.agg (api_Pix.c a)) ?_
  refine EVT.p1 (.agg (api_Pix.c c)) ?_
  refine EVT.p1 (.agg (api_Pix.c d)) ?_
  refine EVT.p1 (.agg (api_Pix.c a)) ?_
  refine EVT.cal (by kernel_rfl) (by kernel_rfl) (callOf_at (by kernel_rfl)) (by kernel_rfl) ?_
  refine EVT.cal (by kernel_rfl) (by kernel_rfl) (callOf_skip (fun h _ => absurd (show (82 : Nat) = 84 from h) (by decide)) (callOf_at (by kernel_rfl))) (by kernel_rfl) ?_
  refine EVT.done ⟨by kernel_rfl, ?_⟩
  refine CQ.n1 [4, 5, 6, 7, 11, 12] (mkS 83 0 [(4, .hp 0 0), (5, .hp 1 0), (6, .hp 2 0), (7, .hp 3 0), (11, .hp 5 0), (12, .fn 82 [] [.hp 5 0])]) [.own (api_Pix.c a), .own (api_Pix.c b), .own (api_Pix.c c), .own (api_Pix.c d), .own [aI64 a.X, aI64 a.Y, aI64 b.X, aI64 b.Y, aI64 c.X, aI64 c.Y, aI64 d.X, aI64 d.Y], .own [.hs 7 0 v6.length 2], .dead, .own (v6.flatMap api_Pix.c)] ?_
  refine CQ.seq ?_
  replace hr := bd hr; obtain ⟨v8, hc9, hr⟩ := hr
  replace hr := bd hr; obtain ⟨v10, hc11, hr⟩ := hr
  refine CQ.regionT fine (callOf_ok [{ f := 84, args := [.agg (api_Pix.c c), .agg (api_Pix.c d), .agg (api_Pix.c b)], H := [.own (api_Pix.c a), .own (api_Pix.c b), .own (api_Pix.c c), .own (api_Pix.c d), .own [aI64 a.X, aI64 a.Y, aI64 b.X, aI64 b.Y, aI64 c.X, aI64 c.Y, aI64 d.X, aI64 d.Y], .own [.hs 7 0 v6.length 2], .dead, .own (v6.flatMap api_Pix.c)], r := .loc (aB v8) [] [] 0 : CE }, { f := 82, args := [.agg (api_Pix.c b), aB v8, .hp 5 0], H := [.own (api_Pix.c a), .own (api_Pix.c b), .own (api_Pix.c c), .own (api_Pix.c d), .own [aI64 a.X, aI64 a.Y, aI64 b.X, aI64 b.Y, aI64 c.X, aI64 c.Y, aI64 d.X, aI64 d.Y], .own [.hs 7 0 v6.length 2], .dead, .own (v6.flatMap api_Pix.c)], r := .loc (.tup []) [(5, .own [.hs 8 0 v10.length 2]), (8, .own (v10.flatMap api_Pix.c)), (7, .dead)] [5, 7] 1 : CE }] (List.forall_mem_cons.2 ⟨(callOk_val (l := []) (args' := [.agg (api_Pix.c c), .agg (api_Pix.c d), .agg (api_Pix.c b)]) rfl (SnL.cons (Sn.pure rfl) (SnL.cons (Sn.pure rfl) (SnL.cons (Sn.pure rfl) SnL.nil))) (predicate_on_ok n c d b v8 hc9)), (List.forall_mem_cons.2 ⟨(callOk_mut 1 [(5, true), (7, false)] [true, false] (predicate_Relate_1_w_ok n b v8 v6 v10 hc11) (by exact ⟨ids_flat api_Pix.pure _, trivial⟩) (by exact ⟨ids_flat api_Pix.pure _, trivial⟩) rfl rfl), ce0⟩)⟩)) ?_
  refine EVT.p1 (.fn 82 [] [.hp 5 0]) ?_
  refine EVT.p1 (.agg (api_Pix.c b)) ?_
  refine EVT.p1 (.agg (api_Pix.c c)) ?_
  refine EVT.p1 (.agg (api_Pix.c d)) ?_
  refine EVT.p1 (.agg (api_Pix.c b)) ?_
  refine EVT.cal (by kernel_rfl) (by kernel_rfl) (callOf_at (by kernel_rfl)) (by kernel_rfl) ?_
  refine EVT.cal (by kernel_rfl) (by kernel_rfl) (callOf_skip (fun h _ => absurd (show (82 : Nat) = 84 from h) (by decide)) (callOf_at (by kernel_rfl))) (by kernel_rfl) ?_
  refine EVT.done ⟨by kernel_rfl, ?_⟩
  refine CQ.n1 [4, 5, 6, 7, 11, 12] (mkS 83 0 [(4, .hp 0 0), (5, .hp 1 0), (6, .hp 2 0), (7, .hp 3 0), (11, .hp 5 0), (12, .fn 82 [] [.hp 5 0])]) [.own (api_Pix.c a), .own (api_Pix.c b), .own (api_Pix.c c), .own (api_Pix.c d), .own [aI64 a.X, aI64 a.Y, aI64 b.X, aI64 b.Y, aI64 c.X, aI64 c.Y, aI64 d.X, aI64 d.Y], .own [.hs 8 0 v10.length 2], .dead, .dead, .own (v10.flatMap api_Pix.c)] ?_
  refine CQ.seq ?_
  replace hr := bd hr; obtain ⟨v12, hc13, hr⟩ := hr
  replace hr := bd hr; obtain ⟨v14, hc15, hr⟩ := hr
  refine CQ.regionT fine (callOf_ok [{ f := 84, args := [.agg (api_Pix.c a), .agg (api_Pix.c b), .agg (api_Pix.c c)], H := [.own (api_Pix.c a), .own (api_Pix.c b), .own (api_Pix.c c), .own (api_Pix.c d), .own [aI64 a.X, aI64 a.Y, aI64 b.X, aI64 b.Y, aI64 c.X, aI64 c.Y, aI64 d.X, aI64 d.Y], .own [.hs 8 0 v10.length 2], .dead, .dead, .own (v10.flatMap api_Pix.c)], r := .loc (aB v12) [] [] 0 : CE }, { f := 82, args := [.agg (api_Pix.c c), aB v12, .hp 5 0], H := [.own (api_Pix.c a), .own (api_Pix.c b), .own (api_Pix.c c), .own (api_Pix.c d), .own [aI64 a.X, aI64 a.Y, aI64 b.X, aI64 b.Y, aI64 c.X, aI64 c.Y, aI64 d.X, aI64 d.Y], .own [.hs 8 0 v10.length 2], .dead, .dead, .own (v10.flatMap api_Pix.c)], r := .loc (.tup []) [(5, .own [.hs 9 0 v14.length 2]), (9, .own (v14.flatMap api_Pix.c)), (8, .dead)] [5, 8] 1 : CE }] (List.forall_mem_cons.2 ⟨(callOk_val (l := []) (args' := [.agg (api_Pix.c a), .agg (api_Pix.c b), .agg (api_Pix.c c)]) rfl (SnL.cons (Sn.pure rfl) (SnL.cons (Sn.pure rfl) (SnL.cons (Sn.pure rfl) SnL.nil))) (predicate_on_ok n a b c v12 hc13)), (List.forall_mem_cons.2 ⟨(callOk_mut 1 [(5, true), (8, false)] [true, false] (predicate_Relate_1_w_ok n c v12 v10 v14 hc15) (by exact ⟨ids_flat api_Pix.pure _, trivial⟩) (by exact ⟨ids_flat api_Pix.pure _, trivial⟩) rfl rfl), ce0⟩)⟩)) ?_
  refine EVT.p1 (.fn 82 [] [.hp 5 0]) ?_
  refine EVT.p1 (.agg (api_Pix.c c)) ?_
  refine EVT.p1 (.agg (api_Pix.c a)) ?_
  refine EVT.p1 (.agg (api_Pix.c b)) ?_
  refine EVT.p1 (.agg (api_Pix.c c)) ?_
  refine EVT.cal (by kernel_rfl) (by kernel_rfl) (callOf_at (by kernel_rfl)) (by kernel_rfl) ?_
  refine EVT.cal (by kernel_rfl) (by kernel_rfl) (callOf_skip (fun h _ => absurd (show (82 : Nat) = 84 from h) (by decide)) (callOf_at (by kernel_rfl))) (by kernel_rfl) ?_
  refine EVT.done ⟨by kernel_rfl, ?_⟩
  refine CQ.n1 [4, 5, 6, 7, 11, 12] (mkS 83 0 [(4, .hp 0 0), (5, .hp 1 0), (6, .hp 2 0), (7, .hp 3 0), (11, .hp 5 0), (12, .fn 82 [] [.hp 5 0])]) [.own (api_Pix.c a), .own (api_Pix.c b), .own (api_Pix.c c), .own (api_Pix.c d), .own [aI64 a.X, aI64 a.Y, aI64 b.X, aI64 b.Y, aI64 c.X, aI64 c.Y, aI64 d.X, aI64 d.Y], .own [.hs 9 0 v14.length 2], .dead, .dead, .dead, .own (v14.flatMap api_Pix.c)] ?_
  refine CQ.seq ?_
  replace hr := bd hr; obtain ⟨v16, hc17, hr⟩ := hr
  replace hr := bd hr; obtain ⟨v18, hc19, hr⟩ := hr
  refine CQ.regionT fine (callOf_ok [{ f := 84, args := [.agg (api_Pix.c a), .agg (api_Pix.c b), .agg (api_Pix.c d)], H := [.own (api_Pix.c a), .own (api_Pix.c b), .own (api_Pix.c c), .own (api_Pix.c d), .own [aI64 a.X, aI64 a.Y, aI64 b.X, aI64 b.Y, aI64 c.X, aI64 c.Y, aI64 d.X, aI64 d.Y], .own [.hs 9 0 v14.length 2], .dead, .dead, .dead, .own (v14.flatMap api_Pix.c)], r := .loc (aB v16) [] [] 0 : CE }, { f := 82, args := [.agg (api_Pix.c d), aB v16, .hp 5 0], H := [.own (api_Pix.c a), .own (api_Pix.c b), .own (api_Pix.c c), .own (api_Pix.c d), .own [aI64 a.X, aI64 a.Y, aI64 b.X, aI64 b.Y, aI64 c.X, aI64 c.Y, aI64 d.X, aI64 d.Y], .own [.hs 9 0 v14.length 2], .dead, .dead, .dead, .own (v14.flatMap api_Pix.c)], r := .loc (.tup []) [(5, .own [.hs 10 0 v18.length 2]), (10, .own (v18.flatMap api_Pix.c)), (9, .dead)] [5, 9] 1 : CE }] (List.forall_mem_cons.2 ⟨(callOk_val (l := []) (args' := [.agg (api_Pix.c a), .agg (api_Pix.c b), .agg (api_Pix.c d)]) rfl (SnL.cons (Sn.pure rfl) (SnL.cons (Sn.pure rfl) (SnL.cons (Sn.pure rfl) SnL.nil))) (predicate_on_ok n a b d v16 hc17)), (List.forall_mem_cons.2 ⟨(callOk_mut 1 [(5, true), (9, false)] [true, false] (predicate_Relate_1_w_ok n d v16 v14 v18 hc19) (by exact ⟨ids_flat api_Pix.pure _, trivial⟩) (by exact ⟨ids_flat api_Pix.pure _, trivial⟩) rfl rfl), ce0⟩)⟩)) ?_
  refine EVT.p1 (.fn 82 [] [.hp 5 0]) ?_
  refine EVT.p1 (.agg (api_Pix.c d)) ?_
  refine EVT.p1 (.agg (api_Pix.c a)) ?_
  refine EVT.p1 (.agg (api_Pix.c b)) ?_
  refine EVT.p1 (.agg (api_Pix.c d)) ?_
  refine EVT.cal (by kernel_rfl) (by kernel_rfl) (callOf_at (by kernel_rfl)) (by kernel_rfl) ?_
  refine EVT.cal (by kernel_rfl) (by kernel_rfl) (callOf_skip (fun h _ => absurd (show (82 : Nat) = 84 from h) (by decide)) (callOf_at (by kernel_rfl))) (by kernel_rfl) ?_
  refine EVT.done ⟨by kernel_rfl, ?_⟩
  refine CQ.n1 [4, 5, 6, 7, 11] (mkS 83 0 [(4, .hp 0 0), (5, .hp 1 0), (6, .hp 2 0), (7, .hp 3 0), (11, .hp 5 0)]) [.own (api_Pix.c a), .own (api_Pix.c b), .own (api_Pix.c c), .own (api_Pix.c d), .own [aI64 a.X, aI64 a.Y, aI64 b.X, aI64 b.Y, aI64 c.X, aI64 c.Y, aI64 d.X, aI64 d.Y], .own [.hs 10 0 v18.length 2], .dead, .dead, .dead, .dead, .own (v18.flatMap api_Pix.c)] ?_
  refine CQ.seq ?_
  refine CQ.seq ?_
  refine CQ.r0 fine ?_
  refine EVO.p1 (.hs 10 0 v18.length 2) ?_
  refine EVO.p1 (aI64 (v18.length : Int)) ?_
  refine EVO.done ?_
  refine CQ.n1 [4, 5, 6, 7, 52] (mkS 83 0 [(4, .hp 0 0), (5, .hp 1 0), (6, .hp 2 0), (7, .hp 3 0), (52, aI64 (v18.length : Int))]) [.own (api_Pix.c a), .own (api_Pix.c b), .own (api_Pix.c c), .own (api_Pix.c d), .own [aI64 a.X, aI64 a.Y, aI64 b.X, aI64 b.Y, aI64 c.X, aI64 c.Y, aI64 d.X, aI64 d.Y], .own [.hs 10 0 v18.length 2], .dead, .dead, .dead, .dead, .own (v18.flatMap api_Pix.c)] ?_
  refine CQ.block ?_
  refine CQ.seq ?_
  refine CQ.r0 fine ?_
  refine EVO.p1 (aB (((v18.length : Int) : Int) == 0)) ?_
  refine EVO.p1 (aB (((v18.length : Int) : Int) == 0)) ?_
  refine EVO.done ?_
  refine CQ.n1 [4, 5, 6, 7, 52, 53] (mkS 83 0 [(4, .hp 0 0), (5, .hp 1 0), (6, .hp 2 0), (7, .hp 3 0), (52, aI64 (v18.length : Int)), (53, aB (((v18.length : Int) : Int) == 0))]) [.own (api_Pix.c a), .own (api_Pix.c b), .own (api_Pix.c c), .own (api_Pix.c d), .own [aI64 a.X, aI64 a.Y, aI64 b.X, aI64 b.Y, aI64 c.X, aI64 c.Y, aI64 d.X, aI64 d.Y], .own [.hs 10 0 v18.length 2], .dead, .dead, .dead, .dead, .own (v18.flatMap api_Pix.c)] ?_
  refine CQ.cond (t := ((v18.length : Int) : Int) == 0) (by kernel_rfl) (fun hb20 => ?_) (fun hb20 => ?_)
  ·replace hr := cd_t hb20 hr
   refine CQ.seq ?_
   refine CQ.seq ?_
   replace hr := bd hr; obtain ⟨v21, hc22, hr⟩ := hr
   replace hr := bd hr; obtain ⟨v23, hc24, hr⟩ := hr
   replace hr := bd hr; obtain ⟨v25, hc26, hr⟩ := hr
   replace hr := bd hr; obtain ⟨v27, hc28, hr⟩ := hr
   rcases Bool.eq_false_or_eq_true (decide ((wrapF .i64 (v23 * v27)) < 0)) with hb29 | hb29
   ·replace hr := cd_t hb29 hr
    replace hr := bd hr; obtain ⟨v30, hc31, hr⟩ := hr
    replace hr := bd hr; obtain ⟨v32, hc33, hr⟩ := hr
    replace hr := bd hr; obtain ⟨v34, hc35, hr⟩ := hr
    replace hr := bd hr; obtain ⟨v36, hc37, hr⟩ := hr
    refine CQ.regionT fine (callOf_ok [{ f := 43, args := [.agg (api_Pix.c a), .agg (api_Pix.c b), .agg (api_Pix.c c)], H := [.own (api_Pix.c a), .own (api_Pix.c b), .own (api_Pix.c c), .own (api_Pix.c d), .own [aI64 a.X, aI64 a.Y, aI64 b.X, aI64 b.Y, aI64 c.X, aI64 c.Y, aI64 d.X, aI64 d.Y], .own [.hs 10 0 v18.length 2], .dead, .dead, .dead, .dead, .own (v18.flatMap api_Pix.c)], r := .loc (aI64 v21) [] [] 0 : CE }, { f := 42, args := [aI64 v21], H := [.own (api_Pix.c a), .own (api_Pix.c b), .own (api_Pix.c c), .own (api_Pix.c d), .own [aI64 a.X, aI64 a.Y, aI64 b.X, aI64 b.Y, aI64 c.X, aI64 c.Y, aI64 d.X, aI64 d.Y], .own [.hs 10 0 v18.length 2], .dead, .dead, .dead, .dead, .own (v18.flatMap api_Pix.c)], r := .loc (aI64 v23) [] [] 0 : CE }, { f := 43, args := [.agg (api_Pix.c a), .agg (api_Pix.c b), .agg (api_Pix.c d)], H := [.own (api_Pix.c a), .own (api_Pix.c b), .own (api_Pix.c c), .own (api_Pix.c d), .own [aI64 a.X, aI64 a.Y, aI64 b.X, aI64 b.Y, aI64 c.X, aI64 c.Y, aI64 d.X, aI64 d.Y], .own [.hs 10 0 v18.length 2], .dead, .dead, .dead, .dead, .own (v18.flatMap api_Pix.c)], r := .loc (aI64 v25) [] [] 0 : CE }, { f := 42, args := [aI64 v25], H := [.own (api_Pix.c a), .own (api_Pix.c b), .own (api_Pix.c c), .own (api_Pix.c d), .own [aI64 a.X, aI64 a.Y, aI64 b.X, aI64 b.Y, aI64 c.X, aI64 c.Y, aI64 d.X, aI64 d.Y], .own [.hs 10 0 v18.length 2], .dead, .dead, .dead, .dead, .own (v18.flatMap api_Pix.c)], r := .loc (aI64 v27) [] [] 0 : CE }, { f := 43, args := [.agg (api_Pix.c c), .agg (api_Pix.c d), .agg (api_Pix.c a)], H := [.own (api_Pix.c a), .own (api_Pix.c b), .own (api_Pix.c c), .own (api_Pix.c d), .own [aI64 a.X, aI64 a.Y, aI64 b.X, aI64 b.Y, aI64 c.X, aI64 c.Y, aI64 d.X, aI64 d.Y], .own [.hs 10 0 v18.length 2], .dead, .dead, .dead, .dead, .own (v18.flatMap api_Pix.c)], r := .loc (aI64 v30) [] [] 0 : CE }, { f := 42, args := [aI64 v30], H := [.own (api_Pix.c a), .own (api_Pix.c b), .own (api_Pix.c c), .own (api_Pix.c d), .own [aI64 a.X, aI64 a.Y, aI64 b.X, aI64 b.Y, aI64 c.X, aI64 c.Y, aI64 d.X, aI64 d.Y], .own [.hs 10 0 v18.length 2], .dead, .dead, .dead, .dead, .own (v18.flatMap api_Pix.c)], r := .loc (aI64 v32) [] [] 0 : CE }, { f := 43, args := [.agg (api_Pix.c c), .agg (api_Pix.c d), .agg (api_Pix.c b)], H := [.own (api_Pix.c a), .own (api_Pix.c b), .own (api_Pix.c c), .own (api_Pix.c d), .own [aI64 a.X, aI64 a.Y, aI64 b.X, aI64 b.Y, aI64 c.X, aI64 c.Y, aI64 d.X, aI64 d.Y], .own [.hs 10 0 v18.length 2], .dead, .dead, .dead, .dead, .own (v18.flatMap api_Pix.c)], r := .loc (aI64 v34) [] [] 0 : CE }, { f := 42, args := [aI64 v34], H := [.own (api_Pix.c a), .own (api_Pix.c b), .own (api_Pix.c c), .own (api_Pix.c d), .own [aI64 a.X, aI64 a.Y, aI64 b.X, aI64 b.Y, aI64 c.X, aI64 c.Y, aI64 d.X, aI64 d.Y], .own [.hs 10 0 v18.length 2], .dead, .dead, .dead, .dead, .own (v18.flatMap api_Pix.c)], r := .loc (aI64 v36) [] [] 0 : CE }] (List.forall_mem_cons.2 ⟨(callOk_val (l := []) (args' := [.agg (api_Pix.c a), .agg (api_Pix.c b), .agg (api_Pix.c c)]) rfl (SnL.cons (Sn.pure rfl) (SnL.cons (Sn.pure rfl) (SnL.cons (Sn.pure rfl) SnL.nil))) (predicate_cross_ok n a b c v21 hc22)), (List.forall_mem_cons.2 ⟨(callOk_val (l := []) (args' := [aI64 v21]) rfl (SnL.cons (Sn.pure rfl) SnL.nil) (predicate_sign_ok n v21 v23 hc24)), (List.forall_mem_cons.2 ⟨(callOk_val (l := []) (args' := [.agg (api_Pix.c a), .agg (api_Pix.c b), .agg (api_Pix.c d)]) rfl (SnL.cons (Sn.pure rfl) (SnL.cons (Sn.pure rfl) (SnL.cons (Sn.pure rfl) SnL.nil))) (predicate_cross_ok n a b d v25 hc26)), (List.forall_mem_cons.2 ⟨(callOk_val (l := []) (args' := [aI64 v25]) rfl (SnL.cons (Sn.pure rfl) SnL.nil) (predicate_sign_ok n v25 v27 hc28)), (List.forall_mem_cons.2 ⟨(callOk_val (l := []) (args' := [.agg (api_Pix.c c), .agg (api_Pix.c d), .agg (api_Pix.c a)]) rfl (SnL.cons (Sn.pure rfl) (SnL.cons (Sn.pure rfl) (SnL.cons (Sn.pure rfl) SnL.nil))) (predicate_cross_ok n c d a v30 hc31)), (List.forall_mem_cons.2 ⟨(callOk_val (l := []) (args' := [aI64 v30]) rfl (SnL.cons (Sn.pure rfl) SnL.nil) (predicate_sign_ok n v30 v32 hc33)), (List.forall_mem_cons.2 ⟨(callOk_val (l := []) (args' := [.agg (api_Pix.c c), .agg (api_Pix.c d), .agg (api_Pix.c b)]) rfl (SnL.cons (Sn.pure rfl) (SnL.cons (Sn.pure rfl) (SnL.cons (Sn.pure rfl) SnL.nil))) (predicate_cross_ok n c d b v34 hc35)), (List.forall_mem_cons.2 ⟨(callOk_val (l := []) (args' := [aI64 v34]) rfl (SnL.cons (Sn.pure rfl) SnL.nil) (predicate_sign_ok n v34 v36 hc37)), ce0⟩)⟩)⟩)⟩)⟩)⟩)⟩)⟩)) ?_
    refine EVT.p1 (.agg (api_Pix.c a)) ?_
    refine EVT.p1 (.agg (api_Pix.c b)) ?_
    refine EVT.p1 (.agg (api_Pix.c c)) ?_
    refine EVT.cal (by kernel_rfl) (by kernel_rfl) (callOf_at (by kernel_rfl)) (by kernel_rfl) ?_
    refine EVT.cal (by kernel_rfl) (by kernel_rfl) (callOf_skip (fun h _ => absurd (show (42 : Nat) = 43 from h) (by decide)) (callOf_at (by kernel_rfl))) (by kernel_rfl) ?_
    refine EVT.p1 (.agg (api_Pix.c a)) ?_
    refine EVT.p1 (.agg (api_Pix.c b)) ?_
    refine EVT.p1 (.agg (api_Pix.c d)) ?_
    refine EVT.cal (by kernel_rfl) (by kernel_rfl) (callOf_skip (fun _ h => by obtain ⟨e0, e1, e2⟩ := predicate_cross_inj h; rw [show v25 = v21 from Option.some.inj (hc26.symm.trans ((show predicate_cross n a b d = predicate_cross n a b c from (congr (congr (congr rfl e0) e1) e2)).trans hc22))]) (callOf_skip (fun h _ => absurd (show (43 : Nat) = 42 from h) (by decide)) (callOf_at (by kernel_rfl)))) (by kernel_rfl) ?_
    refine EVT.cal (by kernel_rfl) (by kernel_rfl) (callOf_skip (fun h _ => absurd (show (42 : Nat) = 43 from h) (by decide)) (callOf_skip (fun _ h => by obtain e0 := predicate_sign_inj h; rw [show v27 = v23 from Option.some.inj (hc28.symm.trans ((show predicate_sign n v25 = predicate_sign n v21 from (congr rfl e0)).trans hc24))]) (callOf_skip (fun h _ => absurd (show (42 : Nat) = 43 from h) (by decide)) (callOf_at (by kernel_rfl))))) (by kernel_rfl) ?_
    refine EVT.p1 (aI64 (wrapF .i64 (v23 * v27))) ?_
    refine EVT.pure (v := aB true) (by kernel_rfl) (Eq.trans (b := some (.pure (aB (decide ((wrapF .i64 (v23 * v27)) < 0))))) (by kernel_rfl) (by rw [hb29])) (by kernel_rfl) ?_
    refine EVT.p1 (aB true) ?_
    refine EVT.p1 (.agg (api_Pix.c c)) ?_
    refine EVT.p1 (.agg (api_Pix.c d)) ?_
    refine EVT.p1 (.agg (api_Pix.c a)) ?_
    refine EVT.cal (by kernel_rfl) (by kernel_rfl) (callOf_skip (fun _ h => by obtain ⟨e0, e1, e2⟩ := predicate_cross_inj h; rw [show v30 = v21 from Option.some.inj (hc31.symm.trans ((show predicate_cross n c d a = predicate_cross n a b c from (congr (congr (congr rfl e0) e1) e2)).trans hc22))]) (callOf_skip (fun h _ => absurd (show (43 : Nat) = 42 from h) (by decide)) (callOf_skip (fun _ h => by obtain ⟨e0, e1, e2⟩ := predicate_cross_inj h; rw [show v30 = v25 from Option.some.inj (hc31.symm.trans ((show predicate_cross n c d a = predicate_cross n a b d from (congr (congr (congr rfl e0) e1) e2)).trans hc26))]) (callOf_skip (fun h _ => absurd (show (43 : Nat) = 42 from h) (by decide)) (callOf_at (by kernel_rfl)))))) (by kernel_rfl) ?_
    refine EVT.cal (by kernel_rfl) (by kernel_rfl) (callOf_skip (fun h _ => absurd (show (42 : Nat) = 43 from h) (by decide)) (callOf_skip (fun _ h => by obtain e0 := predicate_sign_inj h; rw [show v32 = v23 from Option.some.inj (hc33.symm.trans ((show predicate_sign n v30 = predicate_sign n v21 from (congr rfl e0)).trans hc24))]) (callOf_skip (fun h _ => absurd (show (42 : Nat) = 43 from h) (by decide)) (callOf_skip (fun _ h => by obtain e0 := predicate_sign_inj h; rw [show v32 = v27 from Option.some.inj (hc33.symm.trans ((show predicate_sign n v30 = predicate_sign n v25 from (congr rfl e0)).trans hc28))]) (callOf_skip (fun h _ => absurd (show (42 : Nat) = 43 from h) (by decide)) (callOf_at (by kernel_rfl))))))) (by kernel_rfl) ?_
    refine EVT.p1 (.agg (api_Pix.c c)) ?_
    refine EVT.p1 (.agg (api_Pix.c d)) ?_
    refine EVT.p1 (.agg (api_Pix.c b)) ?_
    refine EVT.cal (by kernel_rfl) (by kernel_rfl) (callOf_skip (fun _ h => by obtain ⟨e0, e1, e2⟩ := predicate_cross_inj h; rw [show v34 = v21 from Option.some.inj (hc35.symm.trans ((show predicate_cross n c d b = predicate_cross n a b c from (congr (congr (congr rfl e0) e1) e2)).trans hc22))]) (callOf_skip (fun h _ => absurd (show (43 : Nat) = 42 from h) (by decide)) (callOf_skip (fun _ h => by obtain ⟨e0, e1, e2⟩ := predicate_cross_inj h; rw [show v34 = v25 from Option.some.inj (hc35.symm.trans ((show predicate_cross n c d b = predicate_cross n a b d from (congr (congr (congr rfl e0) e1) e2)).trans hc26))]) (callOf_skip (fun h _ => absurd (show (43 : Nat) = 42 from h) (by decide)) (callOf_skip (fun _ h => by obtain ⟨e0, e1, e2⟩ := predicate_cross_inj h; rw [show v34 = v30 from Option.some.inj (hc35.symm.trans ((show predicate_cross n c d b = predicate_cross n c d a from (congr (congr (congr rfl e0) e1) e2)).trans hc31))]) (callOf_skip (fun h _ => absurd (show (43 : Nat) = 42 from h) (by decide)) (callOf_at (by kernel_rfl)))))))) (by kernel_rfl) ?_
    refine EVT.cal (by kernel_rfl) (by kernel_rfl) (callOf_skip (fun h _ => absurd (show (42 : Nat) = 43 from h) (by decide)) (callOf_skip (fun _ h => by obtain e0 := predicate_sign_inj h; rw [show v36 = v23 from Option.some.inj (hc37.symm.trans ((show predicate_sign n v34 = predicate_sign n v21 from (congr rfl e0)).trans hc24))]) (callOf_skip (fun h _ => absurd (show (42 : Nat) = 43 from h) (by decide)) (callOf_skip (fun _ h => by obtain e0 := predicate_sign_inj h; rw [show v36 = v27 from Option.some.inj (hc37.symm.trans ((show predicate_sign n v34 = predicate_sign n v25 from (congr rfl e0)).trans hc28))]) (callOf_skip (fun h _ => absurd (show (42 : Nat) = 43 from h) (by decide)) (callOf_skip (fun _ h => by obtain e0 := predicate_sign_inj h; rw [show v36 = v32 from Option.some.inj (hc37.symm.trans ((show predicate_sign n v34 = predicate_sign n v30 from (congr rfl e0)).trans hc33))]) (callOf_skip (fun h _ => absurd (show (42 : Nat) = 43 from h) (by decide)) (callOf_at (by kernel_rfl))))))))) (by kernel_rfl) ?_
    refine EVT.p1 (aI64 (wrapF .i64 (v32 * v36))) ?_
    refine EVT.p1 (aB (decide ((wrapF .i64 (v32 * v36)) < 0))) ?_
    refine EVT.p1 (aB (decide ((wrapF .i64 (v32 * v36)) < 0))) ?_
    refine EVT.done ⟨by kernel_rfl, ?_⟩
    refine CQ.n1 [80] (mkS 83 0 [(80, aB (decide ((wrapF .i64 (v32 * v36)) < 0)))]) [.own (api_Pix.c a), .own (api_Pix.c b), .own (api_Pix.c c), .own (api_Pix.c d), .own [aI64 a.X, aI64 a.Y, aI64 b.X, aI64 b.Y, aI64 c.X, aI64 c.Y, aI64 d.X, aI64 d.Y], .own [.hs 10 0 v18.length 2], .dead, .dead, .dead, .dead, .own (v18.flatMap api_Pix.c)] ?_
    refine CQ.cond (t := decide ((wrapF .i64 (v32 * v36)) < 0)) (by kernel_rfl) (fun hb38 => ?_) (fun hb38 => ?_)
    ·replace hr := cd_t hb38 hr
     refine CQ.seq ?_
     refine CQ.r0 fine ?_
     refine EVO.p1 (aI64 2) ?_
     refine EVO.p1 (aI64 0) ?_
     refine EVO.done ?_
     refine CQ.ret ?_
     obtain rfl := Option.some.inj hr
     exact FinQ.ret (vs := [aI64 2, aI64 0]) (by kernel_rfl) (Sn.tup (SnL.cons (Sn.pure rfl) (SnL.cons (Sn.pure rfl) SnL.nil)))
    ·replace hr := cd_f hb38 hr
     refine CQ.skip ?_
     refine CQ.seq ?_
     refine CQ.r0 fine ?_
     refine EVO.p1 (aI64 0) ?_
     refine EVO.p1 (aI64 0) ?_
     refine EVO.done ?_
     refine CQ.ret ?_
     obtain rfl := Option.some.inj hr
     exact FinQ.ret (vs := [aI64 0, aI64 0]) (by kernel_rfl) (Sn.tup (SnL.cons (Sn.pure rfl) (SnL.cons (Sn.pure rfl) SnL.nil)))
   ·replace hr := cd_f hb29 hr
    refine CQ.regionT fine (callOf_ok [{ f := 43, args := [.agg (api_Pix.c a), .agg (api_Pix.c b), .agg (api_Pix.c c)], H := [.own (api_Pix.c a), .own (api_Pix.c b), .own (api_Pix.c c), .own (api_Pix.c d), .own [aI64 a.X, aI64 a.Y, aI64 b.X, aI64 b.Y, aI64 c.X, aI64 c.Y, aI64 d.X, aI64 d.Y], .own [.hs 10 0 v18.length 2], .dead, .dead, .dead, .dead, .own (v18.flatMap api_Pix.c)], r := .loc (aI64 v21) [] [] 0 : CE }, { f := 42, args := [aI64 v21], H := [.own (api_Pix.c a), .own (api_Pix.c b), .own (api_Pix.c c), .own (api_Pix.c d), .own [aI64 a.X, aI64 a.Y, aI64 b.X, aI64 b.Y, aI64 c.X, aI64 c.Y, aI64 d.X, aI64 d.Y], .own [.hs 10 0 v18.length 2], .dead, .dead, .dead, .dead, .own (v18.flatMap api_Pix.c)], r := .loc (aI64 v23) [] [] 0 : CE }, { f := 43, args := [.agg (api_Pix.c a), .agg (api_Pix.c b), .agg (api_Pix.c d)], H := [.own (api_Pix.c a), .own (api_Pix.c b), .own (api_Pix.c c), .own (api_Pix.c d), .own [aI64 a.X, aI64 a.Y, aI64 b.X, aI64 b.Y, aI64 c.X, aI64 c.Y, aI64 d.X, aI64 d.Y], .own [.hs 10 0 v18.length 2], .dead, .dead, .dead, .dead, .own (v18.flatMap api_Pix.c)], r := .loc (aI64 v25) [] [] 0 : CE }, { f := 42, args := [aI64 v25], H := [.own (api_Pix.c a), .own (api_Pix.c b), .own (api_Pix.c c), .own (api_Pix.c d), .own [aI64 a.X, aI64 a.Y, aI64 b.X, aI64 b.Y, aI64 c.X, aI64 c.Y, aI64 d.X, aI64 d.Y], .own [.hs 10 0 v18.length 2], .dead, .dead, .dead, .dead, .own (v18.flatMap api_Pix.c)], r := .loc (aI64 v27) [] [] 0 : CE }] (List.forall_mem_cons.2 ⟨(callOk_val (l := []) (args' := [.agg (api_Pix.c a), .agg (api_Pix.c b), .agg (api_Pix.c c)]) rfl (SnL.cons (Sn.pure rfl) (SnL.cons (Sn.pure rfl) (SnL.cons (Sn.pure rfl) SnL.nil))) (predicate_cross_ok n a b c v21 hc22)), (List.forall_mem_cons.2 ⟨(callOk_val (l := []) (args' := [aI64 v21]) rfl (SnL.cons (Sn.pure rfl) SnL.nil) (predicate_sign_ok n v21 v23 hc24)), (List.forall_mem_cons.2 ⟨(callOk_val (l := []) (args' := [.agg (api_Pix.c a), .agg (api_Pix.c b), .agg (api_Pix.c d)]) rfl (SnL.cons (Sn.pure rfl) (SnL.cons (Sn.pure rfl) (SnL.cons (Sn.pure rfl) SnL.nil))) (predicate_cross_ok n a b d v25 hc26)), (List.forall_mem_cons.2 ⟨(callOk_val (l := []) (args' := [aI64 v25]) rfl (SnL.cons (Sn.pure rfl) SnL.nil) (predicate_sign_ok n v25 v27 hc28)), ce0⟩)⟩)⟩)⟩)) ?_
    refine EVT.p1 (.agg (api_Pix.c a)) ?_
    refine EVT.p1 (.agg (api_Pix.c b)) ?_
    refine EVT.p1 (.agg (api_Pix.c c)) ?_
    refine EVT.cal (by kernel_rfl) (by kernel_rfl) (callOf_at (by kernel_rfl)) (by kernel_rfl) ?_
    refine EVT.cal (by kernel_rfl) (by kernel_rfl) (callOf_skip (fun h _ => absurd (show (42 : Nat) = 43 from h) (by decide)) (callOf_at (by kernel_rfl))) (by kernel_rfl) ?_
    refine EVT.p1 (.agg (api_Pix.c a)) ?_
    refine EVT.p1 (.agg (api_Pix.c b)) ?_
    refine EVT.p1 (.agg (api_Pix.c d)) ?_
    refine EVT.cal (by kernel_rfl) (by kernel_rfl) (callOf_skip (fun _ h => by obtain ⟨e0, e1, e2⟩ := predicate_cross_inj h; rw [show v25 = v21 from Option.some.inj (hc26.symm.trans ((show predicate_cross n a b d = predicate_cross n a b c from (congr (congr (congr rfl e0) e1) e2)).trans hc22))]) (callOf_skip (fun h _ => absurd (show (43 : Nat) = 42 from h) (by decide)) (callOf_at (by kernel_rfl)))) (by kernel_rfl) ?_
    refine EVT.cal (by kernel_rfl) (by kernel_rfl) (callOf_skip (fun h _ => absurd (show (42 : Nat) = 43 from h) (by decide)) (callOf_skip (fun _ h => by obtain e0 := predicate_sign_inj h; rw [show v27 = v23 from Option.some.inj (hc28.symm.trans ((show predicate_sign n v25 = predicate_sign n v21 from (congr rfl e0)).trans hc24))]) (callOf_skip (fun h _ => absurd (show (42 : Nat) = 43 from h) (by decide)) (callOf_at (by kernel_rfl))))) (by kernel_rfl) ?_
    refine EVT.p1 (aI64 (wrapF .i64 (v23 * v27))) ?_
    refine EVT.pure (v := aB false) (by kernel_rfl) (Eq.trans (b := some (.pure (aB (decide ((wrapF .i64 (v23 * v27)) < 0))))) (by kernel_rfl) (by rw [hb29])) (by kernel_rfl) ?_
    refine EVT.p1 (aB false) ?_
    refine EVT.s1 ?_
    refine EVT.s1 ?_
    refine EVT.s1 ?_
    refine EVT.s1 ?_
    refine EVT.s1 ?_
    refine EVT.s1 ?_
    refine EVT.s1 ?_
    refine EVT.s1 ?_
    refine EVT.s1 ?_
    refine EVT.s1 ?_
    refine EVT.s1 ?_
    refine EVT.s1 ?_
    refine EVT.p1 (aB false) ?_
    refine EVT.done ⟨by kernel_rfl, ?_⟩
    refine CQ.n1 [80] (mkS 83 0 [(80, aB false)]) [.own (api_Pix.c a), .own (api_Pix.c b), .own (api_Pix.c c), .own (api_Pix.c d), .own [aI64 a.X, aI64 a.Y, aI64 b.X, aI64 b.Y, aI64 c.X, aI64 c.Y, aI64 d.X, aI64 d.Y], .own [.hs 10 0 v18.length 2], .dead, .dead, .dead, .dead, .own (v18.flatMap api_Pix.c)] ?_
    refine CQ.cF (by kernel_rfl) ?_
    refine CQ.skip ?_
    refine CQ.seq ?_
    refine CQ.r0 fine ?_
    refine EVO.p1 (aI64 0) ?_
    refine EVO.p1 (aI64 0) ?_
    refine EVO.done ?_
    refine CQ.ret ?_
    obtain rfl := Option.some.inj hr
    exact FinQ.ret (vs := [aI64 0, aI64 0]) (by kernel_rfl) (Sn.tup (SnL.cons (Sn.pure rfl) (SnL.cons (Sn.pure rfl) SnL.nil)))
  ·replace hr := cd_f hb20 hr
   refine CQ.seq ?_
   refine CQ.r0 fine ?_
   refine EVO.p1 (aB (((v18.length : Int) : Int) == 1)) ?_
   refine EVO.p1 (aB (((v18.length : Int) : Int) == 1)) ?_
   refine EVO.done ?_
   refine CQ.n1 [81] (mkS 83 0 [(81, aB (((v18.length : Int) : Int) == 1))]) [.own (api_Pix.c a), .own (api_Pix.c b), .own (api_Pix.c c), .own (api_Pix.c d), .own [aI64 a.X, aI64 a.Y, aI64 b.X, aI64 b.Y, aI64 c.X, aI64 c.Y, aI64 d.X, aI64 d.Y], .own [.hs 10 0 v18.length 2], .dead, .dead, .dead, .dead, .own (v18.flatMap api_Pix.c)] ?_
   refine CQ.cond (t := ((v18.length : Int) : Int) == 1) (by kernel_rfl) (fun hb39 => ?_) (fun hb39 => ?_)
   ·replace hr := cd_t hb39 hr
    refine CQ.seq ?_
    refine CQ.r0 fine ?_
    refine EVO.p1 (aI64 1) ?_
    refine EVO.p1 (aI64 0) ?_
    refine EVO.done ?_
    refine CQ.ret ?_
    obtain rfl := Option.some.inj hr
    exact FinQ.ret (vs := [aI64 1, aI64 0]) (by kernel_rfl) (Sn.tup (SnL.cons (Sn.pure rfl) (SnL.cons (Sn.pure rfl) SnL.nil)))
   ·replace hr := cd_f hb39 hr
    refine CQ.skip ?_
    refine CQ.pop ?_
    refine CQ.seq ?_
    refine CQ.r0 fine ?_
    refine EVO.p1 (aI64 3) ?_
    refine EVO.p1 (aI64 0) ?_
    refine EVO.done ?_
    refine CQ.ret ?_
    obtain rfl := Option.some.inj hr
    exact FinQ.ret (vs := [aI64 3, aI64 0]) (by kernel_rfl) (Sn.tup (SnL.cons (Sn.pure rfl) (SnL.cons (Sn.pure rfl) SnL.nil)))

theorem integer_split_inj {n' : Int} {n'_ : Int} (h : ([.at (.int .u64 n')] : List AV) = [.at (.int .u64 n'_)]) : n' = n'_ := by
 simp only [List.cons.injEq, AV.agg.injEq, AV.at.injEq, Value.int.injEq, Value.bool.injEq, AV.fn.injEq, AV.pp.injEq, true_and, and_true] at h
 simp_all
theorem integer_split_ok (n : Nat) (n' : Int) (r : List Int) (hr : integer_split n n' = some r) : FnOk Tryz.prog 96 [.at (.int .u64 n')] (slT (iC .u32) r) := by
 unfold integer_split at hr
 refine FnOk.body fine Tryz.func96 (c := (Tryz.f96.body).getD .skip) rfl (s := mkS 15 0 [(0, aU64 n')]) (by kernel_rfl) (rs := [.tmp 2]) rfl ?_
 unfold Tryz.f96
 simp only [Option.getD_some]
 refine CQ.seq ?_
 refine CQ.r0 fine ?_
 refine EVO.p1 (.at (.slice none 0 0)) ?_
 refine EVO.done ?_
 refine CQ.n1 [0] (mkS 15 0 [(0, aU64 n')]) [] ?_
 refine CQ.seq ?_
 refine CQ.r0 fine ?_
 refine EVO.p1 (.at (.slice none 0 0)) ?_
 refine EVO.done ?_
 refine CQ.seq ?_
 refine CQ.block ?_
 replace hr := bd hr; obtain ⟨g_6, hL12, hr⟩ := hr
 refine CQ.loopO (σ := fun z0 => match z0 with | (n_1, g_2) => ⟨mkS 15 0 [(0, aU64 n_1), (3, .hs 0 0 g_2.length 1)], [.own (g_2.flatMap (iC .u32))]⟩) (Q := fun x st' => x = .exit 0 ∧ Wk 0 st' ⟨mkS 15 0 [(3, .hs 0 0 g_6.length 1)], [.own (g_6.flatMap (iC .u32))]⟩) hL12 ((Wk.nil 3 1 (by kernel_rfl)).trans ((Wk.gc [0, 3] [(0, false)] rfl (by exact ⟨rfl, trivial⟩)).to (by kernel_rfl))) ?_ ?_
 ·clear hr
  rintro m ⟨n_1, g_2⟩ hr
  show CQ _ _ _ _ _ ⟨_, _⟩
  refine CQ.seq ?_
  refine CQ.seq ?_
  refine CQ.r0 fine ?_
  refine EVO.p1 (aU64 n_1) ?_
  refine EVO.p1 (aB (decide (n_1 > 0))) ?_
  refine EVO.done ?_
  refine CQ.n1 [0, 3, 5] (mkS 15 0 [(0, aU64 n_1), (3, .hs 0 0 g_2.length 1), (5, aB (decide (n_1 > 0)))]) [.own (g_2.flatMap (iC .u32))] ?_
  refine CQ.cond (t := decide (n_1 > 0)) (by kernel_rfl) (fun hb8 => ?_) (fun hb8 => ?_)
  ·replace hr := cd_t hb8 hr
   refine CQ.skip ?_
   refine CQ.seq ?_
   refine CQ.block ?_
   replace hr := gd hr; obtain ⟨hg9, hr⟩ := hr
   replace hr := gd hr; obtain ⟨hg10, hr⟩ := hr
   refine CQ.r0 fine ?_
   refine EVO.p1 (.hs 0 0 g_2.length 1) ?_
   refine EVO.p1 (aU64 n_1) ?_
   refine EVO.p1 (aU64 (n_1.tmod 1000000000)) ?_
   refine EVO.p1 (aU32 (wrapF .u32 (n_1.tmod 1000000000))) ?_
   refine EVO.e1 (.hs 1 0 1 1) [(1, .own [aU32 (wrapF .u32 (n_1.tmod 1000000000))])] ?_
   refine EVO.e0 (v := .hs 2 0 (g_2 ++ [wrapF .u32 (n_1.tmod 1000000000)]).length 1) (ws := [(0, .dead), (2, .own ((g_2 ++ [wrapF .u32 (n_1.tmod 1000000000)]).flatMap (iC .u32)))]) (Eq.trans (b := guardO (decide (0 + g_2.length * 1 ≤ (g_2.flatMap (iC .u32)).length) && decide ((g_2.length + 1) * 4 ≤ 140737488355328) && decide (g_2.length + 1 ≤ 4611686018427387904)) (some (.eff (.hs 2 0 (g_2.length + 1) 1) [(0, .dead), (2, .own (((g_2.flatMap (iC .u32)).drop 0).take (g_2.length * 1) ++ [aU32 (wrapF .u32 (n_1.tmod 1000000000))]))]))) (by kernel_rfl) (app_own (l := g_2) (xs := [wrapF .u32 (n_1.tmod 1000000000)]) (iC_len _) rfl rfl (by kernel_rfl) hg9 hg10)) ?_
   refine EVO.p1 (.hs 2 0 (g_2 ++ [wrapF .u32 (n_1.tmod 1000000000)]).length 1) ?_
   refine EVO.done ?_
   refine CQ.pop ?_
   refine CQ.r0 fine ?_
   refine EVO.p1 (aU64 n_1) ?_
   refine EVO.p1 (aU64 (wrapF .u64 (n_1.tdiv 1000000000))) ?_
   refine EVO.p1 (aU64 (wrapF .u64 (n_1.tdiv 1000000000))) ?_
   refine EVO.done ?_
   exact loopF_back (wrapF .u64 (n_1.tdiv 1000000000), g_2 ++ [wrapF .u32 (n_1.tmod 1000000000)]) hr ((Wk.gc [0, 3] [(2, false)] rfl (by exact ⟨ids_flat (iC_pure _) _, trivial⟩)).to (by kernel_rfl))
  ·replace hr := cd_f hb8 hr
   refine CQ.leave rfl ?_
   obtain rfl := Option.some.inj hr
   exact ⟨rfl, ((Wk.gc [3] [(0, false)] rfl (by exact ⟨ids_flat (iC_pure _) _, trivial⟩)).to (by kernel_rfl))⟩
 ·rintro x st' hq13
  clear hL12
  obtain ⟨rfl, hq13⟩ := hq13
  refine CQ_exit _ rfl ?_
  refine CQ.wk hq13 ?_
  refine CQ.seq ?_
  refine CQ.r0 fine ?_
  refine EVO.p1 (.hs 0 0 g_6.length 1) ?_
  refine EVO.p1 (.hs 0 0 g_6.length 1) ?_
  refine EVO.done ?_
  refine CQ.ret ?_
  obtain rfl := Option.some.inj hr
  exact FinQ.ret (vs := [.hs 0 0 g_6.length 1]) (by kernel_rfl) (Sn.hs rfl (.inl rfl) (SnC.pure (ids_flat (iC_pure _) _)) (fun h => flat_nil0 h))

theorem integer_trim_ok (n : Nat) (g : List Int) (r : List Int) (hr : integer_trim n g = some r) : FnOk Tryz.prog 131 [slT (iC .u32) g] (slT (iC .u32) r) := by
 unfold integer_trim at hr
 refine FnOk.body fine Tryz.func131 (c := (Tryz.f131.body).getD .skip) rfl (s := mkS 21 0 [(0, sU32 g)]) (by kernel_rfl) (rs := [.tmp 2]) rfl ?_
 unfold Tryz.f131
 simp only [Option.getD_some]
 refine CQ.seq ?_
 refine CQ.r0 fine ?_
 refine EVO.p1 (.at (.slice none 0 0)) ?_
 refine EVO.done ?_
 refine CQ.n1 [0] (mkS 21 0 [(0, sU32 g)]) [] ?_
 refine CQ.seq ?_
 refine CQ.block ?_
 replace hr := bd hr; obtain ⟨g_6, hL13, hr⟩ := hr
 refine CQ.loopO (σ := fun z0 => match z0 with | g_1 => ⟨mkS 21 0 [(0, sU32 g_1)], []⟩) (Q := fun x st' => x = .exit 0 ∧ Wk 0 st' ⟨mkS 21 0 [(0, sU32 g_6)], []⟩) hL13 ((Wk.gc [0] [] rfl trivial).to (by kernel_rfl)) ?_ ?_
 ·clear hr
  rintro m g_1 hr
  show CQ _ _ _ _ _ ⟨_, _⟩
  refine CQ.seq ?_
  refine CQ.seq ?_
  rcases Bool.eq_false_or_eq_true (decide ((g_1.length : Int) > 0)) with hb8 | hb8
  ·replace hr := cd_t hb8 hr
   replace hr := gd hr; obtain ⟨hg9, hr⟩ := hr
   refine CQ.r0 fine ?_
   refine EVO.p1 (sU32 g_1) ?_
   refine EVO.p1 (aI64 (g_1.length : Int)) ?_
   refine EVO.p0 (v := aB true) (Eq.trans (b := some (.pure (aB (decide ((g_1.length : Int) > 0))))) (by kernel_rfl) (by rw [hb8])) ?_
   refine EVO.p1 (aB true) ?_
   refine EVO.q1 (sU32 g_1) ?_
   refine EVO.q1 (sU32 g_1) ?_
   refine EVO.q1 (aI64 (g_1.length : Int)) ?_
   refine EVO.q1 (aI64 (wrapF .i64 ((g_1.length : Int) - 1))) ?_
   refine EVO.pure (v := .pp (g_1.flatMap (iC .u32)) ((wrapF .i64 ((g_1.length : Int) - 1)).toNat * 1)) (by kernel_rfl) (Eq.trans (b := ORes.ofP (guardV (inR (wrapF .i64 ((g_1.length : Int) - 1)) g_1.length) (.pp (g_1.flatMap (iC .u32)) ((wrapF .i64 ((g_1.length : Int) - 1)).toNat * 1)))) (by kernel_rfl) (ofP_guard hg9)) ?_
   refine EVO.pure (v := aU32 (gt g_1 (wrapF .i64 ((g_1.length : Int) - 1)))) (by kernel_rfl) (Eq.trans (b := ORes.ofP ((g_1.flatMap (iC .u32))[(wrapF .i64 ((g_1.length : Int) - 1)).toNat * 1]?)) (by kernel_rfl) (ofP_some (flat_get (iC_len _) (inR_lt hg9) (by decide : 0 < 1) (by omega : (wrapF .i64 ((g_1.length : Int) - 1)).toNat * 1 = (wrapF .i64 ((g_1.length : Int) - 1)).toNat * 1 + 0) (by kernel_rfl)))) ?_
   refine EVO.q1 (aB (((gt g_1 (wrapF .i64 ((g_1.length : Int) - 1))) : Int) == 0)) ?_
   refine EVO.p1 (aB (((gt g_1 (wrapF .i64 ((g_1.length : Int) - 1))) : Int) == 0)) ?_
   refine EVO.done ?_
   refine CQ.n1 [0, 14] (mkS 21 0 [(0, sU32 g_1), (14, aB (((gt g_1 (wrapF .i64 ((g_1.length : Int) - 1))) : Int) == 0))]) [] ?_
   refine CQ.cond (t := ((gt g_1 (wrapF .i64 ((g_1.length : Int) - 1))) : Int) == 0) (by kernel_rfl) (fun hb10 => ?_) (fun hb10 => ?_)
   ·replace hr := cd_t hb10 hr
    refine CQ.skip ?_
    refine CQ.block ?_
    replace hr := gd hr; obtain ⟨hg11, hr⟩ := hr
    refine CQ.r0 fine ?_
    refine EVO.p1 (sU32 g_1) ?_
    refine EVO.p1 (sU32 g_1) ?_
    refine EVO.p1 (aI64 (g_1.length : Int)) ?_
    refine EVO.p1 (aI64 (wrapF .i64 ((g_1.length : Int) - 1))) ?_
    refine EVO.p0 (v := sU32 ((g_1.drop (0 : Int).toNat).take ((wrapF .i64 ((g_1.length : Int) - 1)).toNat - (0 : Int).toNat))) (Eq.trans (b := slO (inS 0 (wrapF .i64 ((g_1.length : Int) - 1)) g_1.length) (0 : Int).toNat (wrapF .i64 ((g_1.length : Int) - 1)).toNat (fun z1 z2 => .sl true (((g_1.flatMap (iC .u32)).drop (z1 * 1)).take ((z2 - z1) * 1)) (z2 - z1))) (by kernel_rfl) (slO_t hg11 (sub_sl (iC_len _) (inS_le hg11)))) ?_
    refine EVO.p1 (sU32 ((g_1.drop (0 : Int).toNat).take ((wrapF .i64 ((g_1.length : Int) - 1)).toNat - (0 : Int).toNat))) ?_
    refine EVO.done ?_
    refine CQ.pop ?_
    exact loopF_back ((g_1.drop (0 : Int).toNat).take ((wrapF .i64 ((g_1.length : Int) - 1)).toNat - (0 : Int).toNat)) hr ((Wk.gc [0] [] rfl trivial).to (by kernel_rfl))
   ·replace hr := cd_f hb10 hr
    refine CQ.leave rfl ?_
    obtain rfl := Option.some.inj hr
    exact ⟨rfl, ((Wk.gc [0] [] rfl trivial).to (by kernel_rfl))⟩
  ·replace hr := cd_f hb8 hr
   refine CQ.r0 fine ?_
   refine EVO.p1 (sU32 g_1) ?_
   refine EVO.p1 (aI64 (g_1.length : Int)) ?_
   refine EVO.p0 (v := aB false) (Eq.trans (b := some (.pure (aB (decide ((g_1.length : Int) > 0))))) (by kernel_rfl) (by rw [hb8])) ?_
   refine EVO.p1 (aB false) ?_
   refine EVO.s1 ?_
   refine EVO.s1 ?_
   refine EVO.s1 ?_
   refine EVO.s1 ?_
   refine EVO.s1 ?_
   refine EVO.s1 ?_
   refine EVO.s1 ?_
   refine EVO.p1 (aB false) ?_
   refine EVO.done ?_
   refine CQ.n1 [0, 14] (mkS 21 0 [(0, sU32 g_1), (14, aB false)]) [] ?_
   refine CQ.cF (by kernel_rfl) ?_
   refine CQ.leave rfl ?_
   obtain rfl := Option.some.inj hr
   exact ⟨rfl, ((Wk.gc [0] [] rfl trivial).to (by kernel_rfl))⟩
 ·rintro x st' hq14
  clear hL13
  obtain ⟨rfl, hq14⟩ := hq14
  refine CQ_exit _ rfl ?_
  refine CQ.wk hq14 ?_
  refine CQ.seq ?_
  refine CQ.r0 fine ?_
  refine EVO.p1 (sU32 g_6) ?_
  refine EVO.p1 (sU32 g_6) ?_
  refine EVO.done ?_
  refine CQ.ret ?_
  obtain rfl := Option.some.inj hr
  exact FinQ.r1 [sU32 g_6]

theorem integer_made_inj {negative : Bool} {g : List Int} {negative_ : Bool} {g_ : List Int} (h : ([.at (.bool negative), slT (iC .u32) g] : List AV) = [.at (.bool negative_), slT (iC .u32) g_]) : negative = negative_ ∧ g = g_ := by
 simp only [List.cons.injEq, AV.agg.injEq, AV.at.injEq, Value.int.injEq, Value.bool.injEq, AV.fn.injEq, AV.pp.injEq, true_and, and_true, slT_inj_int] at h
 simp_all
theorem integer_made_ok (n : Nat) (negative : Bool) (g : List Int) (r : api_Int) (hr : integer_made n negative g = some r) : FnOk Tryz.prog 95 [.at (.bool negative), slT (iC .u32) g] (.agg [.at (.bool r.Negative), slT (iC .u32) r.Groups]) := by
 unfold integer_made at hr
 refine FnOk.body fine Tryz.func95 (c := (Tryz.f95.body).getD .skip) rfl (s := mkS 14 0 [(0, aB negative), (1, sU32 g)]) (by kernel_rfl) (rs := [.cell 4 37]) rfl ?_
 unfold Tryz.f95
 simp only [Option.getD_some]
 refine CQ.seq ?_
 refine CQ.r0 fine ?_
 refine EVO.e1 (.hp 0 0) [(0, .own [aB false, .at (.slice none 0 0)])] ?_
 refine EVO.done ?_
 refine CQ.seq ?_
 replace hr := bd hr; obtain ⟨v1, hc2, hr⟩ := hr
 refine CQ.region fine (callOf_1 131 [sU32 g] [.own [aB false, .at (.slice none 0 0)]] (.loc (sU32 v1) [] [] 0) (callOk_ref (l := []) (args' := [sU32 g]) (SnL.cons (Sn.pure rfl) SnL.nil) (integer_trim_ok n g v1 hc2))) ?_
 refine EVO.p1 (sU32 g) ?_
 refine EVO.c0 (by kernel_rfl) (callOf_at (by kernel_rfl)) ?_
 refine EVO.p1 (sU32 v1) ?_
 refine EVO.done ?_
 refine CQ.n1 [0, 1, 4] (mkS 14 0 [(0, aB negative), (1, sU32 v1), (4, .hp 0 0)]) [.own [aB false, .at (.slice none 0 0)]] ?_
 refine CQ.seq ?_
 refine CQ.seq ?_
 refine CQ.r0 fine ?_
 refine EVO.p1 (sU32 v1) ?_
 refine EVO.p1 (aI64 (v1.length : Int)) ?_
 refine EVO.p1 (aB (((v1.length : Int) : Int) == 0)) ?_
 refine EVO.done ?_
 refine CQ.n1 [0, 1, 4, 9] (mkS 14 0 [(0, aB negative), (1, sU32 v1), (4, .hp 0 0), (9, aB (((v1.length : Int) : Int) == 0))]) [.own [aB false, .at (.slice none 0 0)]] ?_
 refine CQ.cond (t := ((v1.length : Int) : Int) == 0) (by kernel_rfl) (fun hb3 => ?_) (fun hb3 => ?_)
 ·replace hr := cd_t hb3 hr
  refine CQ.seq ?_
  refine CQ.r0 fine ?_
  refine EVO.p1 (.agg [aB false, .at (.slice none 0 0)]) ?_
  refine EVO.e1 (.unk) [(0, .own [aB false, .at (.slice none 0 0)])] ?_
  refine EVO.done ?_
  refine CQ.ret ?_
  obtain rfl := Option.some.inj hr
  exact FinQ.ret (vs := [.agg [aB false, .at (.slice none 0 0)]]) (by kernel_rfl) (Sn.agg (SnL.cons (Sn.pure rfl) (SnL.cons Sn.nilsl SnL.nil)))
 ·replace hr := cd_f hb3 hr
  refine CQ.skip ?_
  refine CQ.seq ?_
  refine CQ.r0 fine ?_
  refine EVO.p1 (aB negative) ?_
  refine EVO.p1 (sU32 v1) ?_
  refine EVO.p1 (.agg [aB negative, sU32 v1]) ?_
  refine EVO.e1 (.unk) [(0, .own [aB negative, sU32 v1])] ?_
  refine EVO.done ?_
  refine CQ.ret ?_
  obtain rfl := Option.some.inj hr
  exact FinQ.r1 [.agg [aB negative, sU32 v1]]

theorem integer_Of_inj {n' : Int} {n'_ : Int} (h : ([.at (.int .i64 n')] : List AV) = [.at (.int .i64 n'_)]) : n' = n'_ := by
 simp only [List.cons.injEq, AV.agg.injEq, AV.at.injEq, Value.int.injEq, Value.bool.injEq, AV.fn.injEq, AV.pp.injEq, true_and, and_true] at h
 simp_all
theorem integer_Of_ok (n : Nat) (n' : Int) (r : api_Int) (hr : integer_Of n n' = some r) : FnOk Tryz.prog 49 [.at (.int .i64 n')] (.agg [.at (.bool r.Negative), slT (iC .u32) r.Groups]) := by
 unfold integer_Of at hr
 refine FnOk.body fine Tryz.func49 (c := (Tryz.f49.body).getD .skip) rfl (s := mkS 15 0 [(0, aI64 n')]) (by kernel_rfl) (rs := [.cell 2 37]) rfl ?_
 unfold Tryz.f49
 simp only [Option.getD_some]
 refine CQ.seq ?_
 refine CQ.r0 fine ?_
 refine EVO.e1 (.hp 0 0) [(0, .own [aB false, .at (.slice none 0 0)])] ?_
 refine EVO.done ?_
 refine CQ.seq ?_
 refine CQ.r0 fine ?_
 refine EVO.p1 (aI64 n') ?_
 refine EVO.p1 (aU64 (wrapF .u64 n')) ?_
 refine EVO.p1 (aU64 (wrapF .u64 n')) ?_
 refine EVO.done ?_
 refine CQ.n1 [0, 2, 3] (mkS 15 0 [(0, aI64 n'), (2, .hp 0 0), (3, aU64 (wrapF .u64 n'))]) [.own [aB false, .at (.slice none 0 0)]] ?_
 refine CQ.seq ?_
 refine CQ.seq ?_
 refine CQ.r0 fine ?_
 refine EVO.p1 (aI64 n') ?_
 refine EVO.p1 (aB (decide (n' < 0))) ?_
 refine EVO.done ?_
 refine CQ.n1 [0, 2, 3, 7] (mkS 15 0 [(0, aI64 n'), (2, .hp 0 0), (3, aU64 (wrapF .u64 n')), (7, aB (decide (n' < 0)))]) [.own [aB false, .at (.slice none 0 0)]] ?_
 refine CQ.cond (t := decide (n' < 0)) (by kernel_rfl) (fun hb1 => ?_) (fun hb1 => ?_)
 ·replace hr := cd_t hb1 hr
  refine CQ.r0 fine ?_
  refine EVO.p1 (aU64 (wrapF .u64 n')) ?_
  refine EVO.p0 (v := aU64 (wrapF .u64 (0 - (wrapF .u64 n')))) (Eq.trans (b := some (.pure (aU64 (IntKind.wrap .u64 (0 - (wrapF .u64 n')))))) (by kernel_rfl) wrap_at) ?_
  refine EVO.p1 (aU64 (wrapF .u64 (0 - (wrapF .u64 n')))) ?_
  refine EVO.done ?_
  refine CQ.n1 [0, 2, 3] (mkS 15 0 [(0, aI64 n'), (2, .hp 0 0), (3, aU64 (wrapF .u64 (0 - (wrapF .u64 n'))))]) [.own [aB false, .at (.slice none 0 0)]] ?_
  refine CQ.seq ?_
  replace hr := bd hr; obtain ⟨v2, hc3, hr⟩ := hr
  replace hr := bd hr; obtain ⟨v4, hc5, hr⟩ := hr
  refine CQ.region fine (callOf_ok [{ f := 96, args := [aU64 (wrapF .u64 (0 - (wrapF .u64 n')))], H := [.own [aB false, .at (.slice none 0 0)]], r := .loc (sU32 v2) [] [] 0 : CE }, { f := 95, args := [aB true, sU32 v2], H := [.own [aB false, .at (.slice none 0 0)]], r := .loc (.agg (api_Int.c v4)) [] [] 0 : CE }] (List.forall_mem_cons.2 ⟨(callOk_ref (l := []) (args' := [aU64 (wrapF .u64 (0 - (wrapF .u64 n')))]) (SnL.cons (Sn.pure rfl) SnL.nil) (integer_split_ok n (wrapF .u64 (0 - (wrapF .u64 n'))) v2 hc3)), (List.forall_mem_cons.2 ⟨(callOk_ref (l := []) (args' := [aB true, sU32 v2]) (SnL.cons (Sn.pure rfl) (SnL.cons (Sn.pure rfl) SnL.nil)) (integer_made_ok n true v2 v4 hc5)), ce0⟩)⟩)) ?_
  refine EVO.p1 (aI64 n') ?_
  refine EVO.p0 (v := aB true) (Eq.trans (b := some (.pure (aB (decide (n' < 0))))) (by kernel_rfl) (by rw [hb1])) ?_
  refine EVO.p1 (aU64 (wrapF .u64 (0 - (wrapF .u64 n')))) ?_
  refine EVO.c0 (by kernel_rfl) (callOf_at (by kernel_rfl)) ?_
  refine EVO.c0 (by kernel_rfl) (callOf_skip (fun h _ => absurd (show (95 : Nat) = 96 from h) (by decide)) (callOf_at (by kernel_rfl))) ?_
  refine EVO.e1 (.unk) [(0, .own (api_Int.c v4))] ?_
  refine EVO.done ?_
  refine CQ.ret ?_
  obtain rfl := Option.some.inj hr
  exact FinQ.r1 [.agg (api_Int.c v4)]
 ·replace hr := cd_f hb1 hr
  refine CQ.skip ?_
  refine CQ.seq ?_
  replace hr := bd hr; obtain ⟨v6, hc7, hr⟩ := hr
  replace hr := bd hr; obtain ⟨v8, hc9, hr⟩ := hr
  refine CQ.region fine (callOf_ok [{ f := 96, args := [aU64 (wrapF .u64 n')], H := [.own [aB false, .at (.slice none 0 0)]], r := .loc (sU32 v6) [] [] 0 : CE }, { f := 95, args := [aB false, sU32 v6], H := [.own [aB false, .at (.slice none 0 0)]], r := .loc (.agg (api_Int.c v8)) [] [] 0 : CE }] (List.forall_mem_cons.2 ⟨(callOk_ref (l := []) (args' := [aU64 (wrapF .u64 n')]) (SnL.cons (Sn.pure rfl) SnL.nil) (integer_split_ok n (wrapF .u64 n') v6 hc7)), (List.forall_mem_cons.2 ⟨(callOk_ref (l := []) (args' := [aB false, sU32 v6]) (SnL.cons (Sn.pure rfl) (SnL.cons (Sn.pure rfl) SnL.nil)) (integer_made_ok n false v6 v8 hc9)), ce0⟩)⟩)) ?_
  refine EVO.p1 (aI64 n') ?_
  refine EVO.p0 (v := aB false) (Eq.trans (b := some (.pure (aB (decide (n' < 0))))) (by kernel_rfl) (by rw [hb1])) ?_
  refine EVO.p1 (aU64 (wrapF .u64 n')) ?_
  refine EVO.c0 (by kernel_rfl) (callOf_at (by kernel_rfl)) ?_
  refine EVO.c0 (by kernel_rfl) (callOf_skip (fun h _ => absurd (show (95 : Nat) = 96 from h) (by decide)) (callOf_at (by kernel_rfl))) ?_
  refine EVO.e1 (.unk) [(0, .own (api_Int.c v8))] ?_
  refine EVO.done ?_
  refine CQ.ret ?_
  obtain rfl := Option.some.inj hr
  exact FinQ.r1 [.agg (api_Int.c v8)]

theorem fraction_Whole_inj {n' : Int} {n'_ : Int} (h : ([.at (.int .i64 n')] : List AV) = [.at (.int .i64 n'_)]) : n' = n'_ := by
 simp only [List.cons.injEq, AV.agg.injEq, AV.at.injEq, Value.int.injEq, Value.bool.injEq, AV.fn.injEq, AV.pp.injEq, true_and, and_true] at h
 simp_all
theorem fraction_Whole_ok (n : Nat) (n' : Int) (r : api_Rat) (hr : fraction_Whole n n' = some r) : FnOk Tryz.prog 48 [.at (.int .i64 n')] (.agg [.at (.bool r.Num.Negative), slT (iC .u32) r.Num.Groups, .at (.bool r.Den.Negative), slT (iC .u32) r.Den.Groups]) := by
 unfold fraction_Whole at hr
 refine FnOk.body fine Tryz.func48 (c := (Tryz.f48.body).getD .skip) rfl (s := mkS 7 0 [(0, aI64 n')]) (by kernel_rfl) (rs := [.cell 2 39]) rfl ?_
 unfold Tryz.f48
 simp only [Option.getD_some]
 refine CQ.seq ?_
 refine CQ.r0 fine ?_
 refine EVO.e1 (.hp 0 0) [(0, .own [aB false, .at (.slice none 0 0), aB false, .at (.slice none 0 0)])] ?_
 refine EVO.done ?_
 refine CQ.seq ?_
 replace hr := bd hr; obtain ⟨v1, hc2, hr⟩ := hr
 replace hr := bd hr; obtain ⟨v3, hc4, hr⟩ := hr
 refine CQ.region fine (callOf_ok [{ f := 49, args := [aI64 n'], H := [.own [aB false, .at (.slice none 0 0), aB false, .at (.slice none 0 0)]], r := .loc (.agg (api_Int.c v1)) [] [] 0 : CE }, { f := 49, args := [aI64 1], H := [.own [aB false, .at (.slice none 0 0), aB false, .at (.slice none 0 0)]], r := .loc (.agg (api_Int.c v3)) [] [] 0 : CE }] (List.forall_mem_cons.2 ⟨(callOk_ref (l := []) (args' := [aI64 n']) (SnL.cons (Sn.pure rfl) SnL.nil) (integer_Of_ok n n' v1 hc2)), (List.forall_mem_cons.2 ⟨(callOk_ref (l := []) (args' := [aI64 1]) (SnL.cons (Sn.pure rfl) SnL.nil) (integer_Of_ok n 1 v3 hc4)), ce0⟩)⟩)) ?_
 refine EVO.p1 (aI64 n') ?_
 refine EVO.c0 (by kernel_rfl) (callOf_at (by kernel_rfl)) ?_
 refine EVO.c0 (by kernel_rfl) (callOf_skip (fun _ h => by obtain e0 := integer_Of_inj h; rw [show v3 = v1 from Option.some.inj (hc4.symm.trans ((show integer_Of n 1 = integer_Of n n' from (congr rfl e0)).trans hc2))]) (callOf_at (by kernel_rfl))) ?_
 refine EVO.p1 (.agg [aB v1.Negative, sU32 v1.Groups, aB v3.Negative, sU32 v3.Groups]) ?_
 refine EVO.e1 (.unk) [(0, .own [aB v1.Negative, sU32 v1.Groups, aB v3.Negative, sU32 v3.Groups])] ?_
 refine EVO.done ?_
 refine CQ.ret ?_
 obtain rfl := Option.some.inj hr
 exact FinQ.r1 [.agg [aB v1.Negative, sU32 v1.Groups, aB v3.Negative, sU32 v3.Groups]]

theorem integer_Valid_1_ok (n : Nat) (g : Int) (r : Bool) (hr : integer_Valid_1 n g = some r) : FnOk Tryz.prog 176 [.at (.int .u32 g)] (.at (.bool r)) := by
 unfold integer_Valid_1 at hr
 refine FnOk.body fine Tryz.func176 (c := (Tryz.f176.body).getD .skip) rfl (s := mkS 5 0 [(0, aU32 g)]) (by kernel_rfl) (rs := [.tmp 2]) rfl ?_
 unfold Tryz.f176
 simp only [Option.getD_some]
 refine CQ.seq ?_
 refine CQ.r0 fine ?_
 refine EVO.p1 (aB false) ?_
 refine EVO.done ?_
 refine CQ.n1 [0] (mkS 5 0 [(0, aU32 g)]) [] ?_
 refine CQ.seq ?_
 refine CQ.r0 fine ?_
 refine EVO.p1 (aU32 g) ?_
 refine EVO.p1 (aB (decide (g ≥ 1000000000))) ?_
 refine EVO.p1 (aB (decide (g ≥ 1000000000))) ?_
 refine EVO.done ?_
 refine CQ.ret ?_
 obtain rfl := Option.some.inj hr
 exact FinQ.r1 [aB (decide (g ≥ 1000000000))]

theorem slices_IndexFunc_uint32_uint32_of_integer_Valid_1_ok (n : Nat) (s : List Int) (r : Int) (hr : slices_IndexFunc_uint32_uint32_of_integer_Valid_1 n s = some r) : FnOk Tryz.prog 200 [slT (iC .u32) s, .fn 176 [] []] (.at (.int .i64 r)) := by
 unfold slices_IndexFunc_uint32_uint32_of_integer_Valid_1 at hr
 refine FnOk.body fine Tryz.func200 (c := (Tryz.f200.body).getD .skip) rfl (s := mkS 19 0 [(0, sU32 s), (1, .fn 176 [] [])]) (by kernel_rfl) (rs := [.tmp 4]) rfl ?_
 unfold Tryz.f200
 simp only [Option.getD_some]
 refine CQ.seq ?_
 refine CQ.r0 fine ?_
 refine EVO.p1 (aI64 0) ?_
 refine EVO.done ?_
 refine CQ.n1 [0, 1] (mkS 19 0 [(0, sU32 s), (1, .fn 176 [] [])]) [] ?_
 refine CQ.seq ?_
 refine CQ.seq ?_
 refine CQ.r0 fine ?_
 refine EVO.p1 (sU32 s) ?_
 refine EVO.p1 (aI64 (s.length : Int)) ?_
 refine EVO.p1 (aI64 0) ?_
 refine EVO.done ?_
 refine CQ.n1 [0, 1, 7, 8] (mkS 19 0 [(0, sU32 s), (1, .fn 176 [] []), (7, aI64 (s.length : Int)), (8, aI64 0)]) [] ?_
 refine CQ.block ?_
 replace hr := bd hr; obtain ⟨o13, hL14, hr⟩ := hr
 refine CQ.loopO (σ := fun z0 => match z0 with | x_1 => ⟨mkS 19 0 [(0, sU32 s), (1, .fn 176 [] []), (7, aI64 (s.length : Int)), (8, aI64 x_1)], []⟩) (Q := fun x st' => match (generalizing := false) o13 with | .inl _ => x = .exit 0 ∧ Wk 0 st' ⟨mkS 19 0 [], []⟩ | .inr (r0) => x = .ret ∧ FinQ Tryz.prog [.tmp 4] (aI64 r0) .ret st') hL14 ((Wk.gc [0, 1, 7, 8] [] rfl trivial).to (by kernel_rfl)) ?_ ?_
 ·clear hr
  rintro m x_1 hr
  show CQ _ _ _ _ _ ⟨_, _⟩
  refine CQ.seq ?_
  refine CQ.r0 fine ?_
  refine EVO.p1 (aB (decide (x_1 < (s.length : Int)))) ?_
  refine EVO.done ?_
  refine CQ.seq ?_
  refine CQ.cond (t := decide (x_1 < (s.length : Int))) (by kernel_rfl) (fun hb8 => ?_) (fun hb8 => ?_)
  ·replace hr := cd_t hb8 hr
   refine CQ.skip ?_
   refine CQ.seq ?_
   refine CQ.block ?_
   refine CQ.seq ?_
   refine CQ.r0 fine ?_
   refine EVO.p1 (aI64 x_1) ?_
   refine EVO.p1 (aI64 x_1) ?_
   refine EVO.done ?_
   refine CQ.n1 [0, 1, 5, 7, 8] (mkS 19 0 [(0, sU32 s), (1, .fn 176 [] []), (5, aI64 x_1), (7, aI64 (s.length : Int)), (8, aI64 x_1)]) [] ?_
   refine CQ.seq ?_
   replace hr := gd hr; obtain ⟨hg9, hr⟩ := hr
   replace hr := bd hr; obtain ⟨v10, hc11, hr⟩ := hr
   refine CQ.region fine (callOf_1 176 [aU32 (gt s x_1)] [] (.loc (aB v10) [] [] 0) (callOk_val (l := []) (args' := [aU32 (gt s x_1)]) rfl (SnL.cons (Sn.pure rfl) SnL.nil) (integer_Valid_1_ok n (gt s x_1) v10 hc11))) ?_
   refine EVO.p1 (.fn 176 [] []) ?_
   refine EVO.p1 (sU32 s) ?_
   refine EVO.p1 (aI64 x_1) ?_
   refine EVO.p0 (v := .pp (s.flatMap (iC .u32)) (x_1.toNat * 1)) (Eq.trans (b := ORes.ofP (guardV (inR x_1 s.length) (.pp (s.flatMap (iC .u32)) (x_1.toNat * 1)))) (by kernel_rfl) (ofP_guard hg9)) ?_
   refine EVO.p0 (v := aU32 (gt s x_1)) (Eq.trans (b := ORes.ofP ((s.flatMap (iC .u32))[x_1.toNat * 1]?)) (by kernel_rfl) (ofP_some (flat_get (iC_len _) (inR_lt hg9) (by decide : 0 < 1) (by omega : x_1.toNat * 1 = x_1.toNat * 1 + 0) (by kernel_rfl)))) ?_
   refine EVO.c0 (by kernel_rfl) (callOf_at (by kernel_rfl)) ?_
   refine EVO.done ?_
   refine CQ.n1 [0, 1, 5, 7, 8, 16] (mkS 19 0 [(0, sU32 s), (1, .fn 176 [] []), (5, aI64 x_1), (7, aI64 (s.length : Int)), (8, aI64 x_1), (16, aB v10)]) [] ?_
   refine CQ.cond (t := v10) (by kernel_rfl) (fun hb12 => ?_) (fun hb12 => ?_)
   ·replace hr := cd_t hb12 hr
    refine CQ.seq ?_
    refine CQ.r0 fine ?_
    refine EVO.p1 (aI64 x_1) ?_
    refine EVO.p1 (aI64 x_1) ?_
    refine EVO.done ?_
    refine CQ.ret ?_
    obtain rfl := Option.some.inj hr
    exact ⟨rfl, FinQ.ret (vs := [aI64 x_1]) (by kernel_rfl) (Sn.pure rfl)⟩
   ·replace hr := cd_f hb12 hr
    refine CQ.skip ?_
    refine CQ.pop ?_
    refine CQ.r0 fine ?_
    refine EVO.p1 (aI64 (wrapF .i64 (x_1 + 1))) ?_
    refine EVO.p1 (aI64 (wrapF .i64 (x_1 + 1))) ?_
    refine EVO.done ?_
    exact loopF_back (wrapF .i64 (x_1 + 1)) hr ((Wk.gc [0, 1, 7, 8] [] rfl trivial).to (by kernel_rfl))
  ·replace hr := cd_f hb8 hr
   refine CQ.leave rfl ?_
   obtain rfl := Option.some.inj hr
   exact ⟨rfl, ((Wk.gc [] [] rfl trivial).to (by kernel_rfl))⟩
 ·rcases o13 with ⟨⟩ | r0
  ·rintro x st' hq15
   clear hL14
   obtain ⟨rfl, hq15⟩ := hq15
   refine CQ_exit _ rfl ?_
   refine CQ.wk hq15 ?_
   refine CQ.seq ?_
   refine CQ.r0 fine ?_
   refine EVO.p1 (aI64 (-1)) ?_
   refine EVO.done ?_
   refine CQ.ret ?_
   obtain rfl := Option.some.inj hr
   exact FinQ.r1 [aI64 (-1)]
  ·rintro x st' hq15
   clear hL14
   obtain ⟨rfl, hq15⟩ := hq15
   obtain rfl := Option.some.inj hr
   exact CQ_ret _ hq15

theorem slices_ContainsFunc_uint32_uint32_of_integer_Valid_1_ok (n : Nat) (s : List Int) (r : Bool) (hr : slices_ContainsFunc_uint32_uint32_of_integer_Valid_1 n s = some r) : FnOk Tryz.prog 175 [slT (iC .u32) s, .fn 176 [] []] (.at (.bool r)) := by
 unfold slices_ContainsFunc_uint32_uint32_of_integer_Valid_1 at hr
 refine FnOk.body fine Tryz.func175 (c := (Tryz.f175.body).getD .skip) rfl (s := mkS 9 0 [(0, sU32 s), (1, .fn 176 [] [])]) (by kernel_rfl) (rs := [.tmp 4]) rfl ?_
 unfold Tryz.f175
 simp only [Option.getD_some]
 refine CQ.seq ?_
 refine CQ.r0 fine ?_
 refine EVO.p1 (aB false) ?_
 refine EVO.done ?_
 refine CQ.n1 [0, 1] (mkS 9 0 [(0, sU32 s), (1, .fn 176 [] [])]) [] ?_
 refine CQ.seq ?_
 replace hr := bd hr; obtain ⟨v1, hc2, hr⟩ := hr
 refine CQ.region fine (callOf_1 200 [sU32 s, .fn 176 [] []] [] (.loc (aI64 v1) [] [] 0) (callOk_val (l := []) (args' := [sU32 s, .fn 176 [] []]) rfl (SnL.cons (Sn.pure rfl) (SnL.cons (Sn.pure rfl) SnL.nil)) (slices_IndexFunc_uint32_uint32_of_integer_Valid_1_ok n s v1 hc2))) ?_
 refine EVO.p1 (sU32 s) ?_
 refine EVO.p1 (.fn 176 [] []) ?_
 refine EVO.c0 (by kernel_rfl) (callOf_at (by kernel_rfl)) ?_
 refine EVO.p1 (aB (decide (v1 ≥ 0))) ?_
 refine EVO.p1 (aB (decide (v1 ≥ 0))) ?_
 refine EVO.done ?_
 refine CQ.ret ?_
 obtain rfl := Option.some.inj hr
 exact FinQ.r1 [aB (decide (v1 ≥ 0))]

theorem integer_Valid_inj {x' : api_Int} {x'_ : api_Int} (h : ([.agg [.at (.bool x'.Negative), slT (iC .u32) x'.Groups]] : List AV) = [.agg [.at (.bool x'_.Negative), slT (iC .u32) x'_.Groups]]) : x' = x'_ := by
 obtain ⟨_, _⟩ := x'
 obtain ⟨_, _⟩ := x'_
 simp only [List.cons.injEq, AV.agg.injEq, AV.at.injEq, Value.int.injEq, Value.bool.injEq, AV.fn.injEq, AV.pp.injEq, true_and, and_true, slT_inj_int] at h
 simp_all
theorem integer_Valid_ok (n : Nat) (x' : api_Int) (r : Bool) (hr : integer_Valid n x' = some r) : FnOk Tryz.prog 132 [.agg [.at (.bool x'.Negative), slT (iC .u32) x'.Groups]] (.at (.bool r)) := by
 unfold integer_Valid at hr
 refine FnOk.body fine Tryz.func132 (c := (Tryz.f132.body).getD .skip) rfl (s := mkS 25 0 [(0, .agg (api_Int.c x'))]) (by kernel_rfl) (rs := [.tmp 2]) rfl ?_
 unfold Tryz.f132
 simp only [Option.getD_some]
 refine CQ.seq ?_
 refine CQ.r0 fine ?_
 refine EVO.e1 (.hp 0 0) [(0, .own (api_Int.c x'))] ?_
 refine EVO.p1 (aB false) ?_
 refine EVO.done ?_
 refine CQ.n1 [1] (mkS 25 0 [(1, .hp 0 0)]) [.own (api_Int.c x')] ?_
 refine CQ.seq ?_
 refine CQ.r0 fine ?_
 refine EVO.p1 (.hp 0 1) ?_
 refine EVO.p1 (sU32 x'.Groups) ?_
 refine EVO.p1 (aI64 (x'.Groups.length : Int)) ?_
 refine EVO.p1 (aI64 (x'.Groups.length : Int)) ?_
 refine EVO.done ?_
 refine CQ.n1 [1, 3] (mkS 25 0 [(1, .hp 0 0), (3, aI64 (x'.Groups.length : Int))]) [.own (api_Int.c x')] ?_
 refine CQ.seq ?_
 refine CQ.seq ?_
 refine CQ.r0 fine ?_
 refine EVO.p1 (aI64 (x'.Groups.length : Int)) ?_
 refine EVO.p1 (aB (((x'.Groups.length : Int) : Int) == 0)) ?_
 refine EVO.done ?_
 refine CQ.n1 [1, 3, 8] (mkS 25 0 [(1, .hp 0 0), (3, aI64 (x'.Groups.length : Int)), (8, aB (((x'.Groups.length : Int) : Int) == 0))]) [.own (api_Int.c x')] ?_
 refine CQ.cond (t := ((x'.Groups.length : Int) : Int) == 0) (by kernel_rfl) (fun hb1 => ?_) (fun hb1 => ?_)
 ·replace hr := cd_t hb1 hr
  refine CQ.seq ?_
  refine CQ.r0 fine ?_
  refine EVO.p1 (.hp 0 0) ?_
  refine EVO.p1 (aB x'.Negative) ?_
  refine EVO.p1 (aB (!x'.Negative)) ?_
  refine EVO.p1 (aB (!x'.Negative)) ?_
  refine EVO.done ?_
  refine CQ.ret ?_
  obtain rfl := Option.some.inj hr
  exact FinQ.r1 [aB (!x'.Negative)]
 ·replace hr := cd_f hb1 hr
  refine CQ.skip ?_
  refine CQ.seq ?_
  replace hr := gd hr; obtain ⟨hg2, hr⟩ := hr
  rcases Bool.eq_false_or_eq_true (((gt x'.Groups (wrapF .i64 ((x'.Groups.length : Int) - 1))) : Int) != 0) with hb3 | hb3
  ·replace hr := cd_t hb3 hr
   replace hr := bd hr; obtain ⟨v4, hc5, hr⟩ := hr
   refine CQ.region fine (callOf_1 175 [sU32 x'.Groups, .fn 176 [] []] [.own (api_Int.c x')] (.loc (aB v4) [] [] 0) (callOk_val (l := []) (args' := [sU32 x'.Groups, .fn 176 [] []]) rfl (SnL.cons (Sn.pure rfl) (SnL.cons (Sn.pure rfl) SnL.nil)) (slices_ContainsFunc_uint32_uint32_of_integer_Valid_1_ok n x'.Groups v4 hc5))) ?_
   refine EVO.p1 (.hp 0 1) ?_
   refine EVO.p1 (sU32 x'.Groups) ?_
   refine EVO.p1 (aI64 (x'.Groups.length : Int)) ?_
   refine EVO.p1 (aI64 (wrapF .i64 ((x'.Groups.length : Int) - 1))) ?_
   refine EVO.p0 (v := .pp (x'.Groups.flatMap (iC .u32)) ((wrapF .i64 ((x'.Groups.length : Int) - 1)).toNat * 1)) (Eq.trans (b := ORes.ofP (guardV (inR (wrapF .i64 ((x'.Groups.length : Int) - 1)) x'.Groups.length) (.pp (x'.Groups.flatMap (iC .u32)) ((wrapF .i64 ((x'.Groups.length : Int) - 1)).toNat * 1)))) (by kernel_rfl) (ofP_guard hg2)) ?_
   refine EVO.p0 (v := aU32 (gt x'.Groups (wrapF .i64 ((x'.Groups.length : Int) - 1)))) (Eq.trans (b := ORes.ofP ((x'.Groups.flatMap (iC .u32))[(wrapF .i64 ((x'.Groups.length : Int) - 1)).toNat * 1]?)) (by kernel_rfl) (ofP_some (flat_get (iC_len _) (inR_lt hg2) (by decide : 0 < 1) (by omega : (wrapF .i64 ((x'.Groups.length : Int) - 1)).toNat * 1 = (wrapF .i64 ((x'.Groups.length : Int) - 1)).toNat * 1 + 0) (by kernel_rfl)))) ?_
   refine EVO.p0 (v := aB true) (Eq.trans (b := some (.pure (aB (((gt x'.Groups (wrapF .i64 ((x'.Groups.length : Int) - 1))) : Int) != 0)))) (by kernel_rfl) (by rw [hb3])) ?_
   refine EVO.p1 (aB true) ?_
   refine EVO.q1 (.hp 0 1) ?_
   refine EVO.q1 (sU32 x'.Groups) ?_
   refine EVO.cal (by kernel_rfl) (by kernel_rfl) (callOf_at (by kernel_rfl)) ?_
   refine EVO.q1 (aB (!v4)) ?_
   refine EVO.p1 (aB (!v4)) ?_
   refine EVO.p1 (aB (!v4)) ?_
   refine EVO.done ?_
   refine CQ.ret ?_
   obtain rfl := Option.some.inj hr
   exact FinQ.r1 [aB (!v4)]
  ·replace hr := cd_f hb3 hr
   refine CQ.r0 fine ?_
   refine EVO.p1 (.hp 0 1) ?_
   refine EVO.p1 (sU32 x'.Groups) ?_
   refine EVO.p1 (aI64 (x'.Groups.length : Int)) ?_
   refine EVO.p1 (aI64 (wrapF .i64 ((x'.Groups.length : Int) - 1))) ?_
   refine EVO.p0 (v := .pp (x'.Groups.flatMap (iC .u32)) ((wrapF .i64 ((x'.Groups.length : Int) - 1)).toNat * 1)) (Eq.trans (b := ORes.ofP (guardV (inR (wrapF .i64 ((x'.Groups.length : Int) - 1)) x'.Groups.length) (.pp (x'.Groups.flatMap (iC .u32)) ((wrapF .i64 ((x'.Groups.length : Int) - 1)).toNat * 1)))) (by kernel_rfl) (ofP_guard hg2)) ?_
   refine EVO.p0 (v := aU32 (gt x'.Groups (wrapF .i64 ((x'.Groups.length : Int) - 1)))) (Eq.trans (b := ORes.ofP ((x'.Groups.flatMap (iC .u32))[(wrapF .i64 ((x'.Groups.length : Int) - 1)).toNat * 1]?)) (by kernel_rfl) (ofP_some (flat_get (iC_len _) (inR_lt hg2) (by decide : 0 < 1) (by omega : (wrapF .i64 ((x'.Groups.length : Int) - 1)).toNat * 1 = (wrapF .i64 ((x'.Groups.length : Int) - 1)).toNat * 1 + 0) (by kernel_rfl)))) ?_
   refine EVO.p0 (v := aB false) (Eq.trans (b := some (.pure (aB (((gt x'.Groups (wrapF .i64 ((x'.Groups.length : Int) - 1))) : Int) != 0)))) (by kernel_rfl) (by rw [hb3])) ?_
   refine EVO.p1 (aB false) ?_
   refine EVO.s1 ?_
   refine EVO.s1 ?_
   refine EVO.s1 ?_
   refine EVO.s1 ?_
   refine EVO.p1 (aB false) ?_
   refine EVO.p1 (aB false) ?_
   refine EVO.done ?_
   refine CQ.ret ?_
   obtain rfl := Option.some.inj hr
   exact FinQ.r1 [aB false]

theorem fraction_counted_inj {n' : api_Int} {n'_ : api_Int} (h : ([.agg [.at (.bool n'.Negative), slT (iC .u32) n'.Groups]] : List AV) = [.agg [.at (.bool n'_.Negative), slT (iC .u32) n'_.Groups]]) : n' = n'_ := by
 obtain ⟨_, _⟩ := n'
 obtain ⟨_, _⟩ := n'_
 simp only [List.cons.injEq, AV.agg.injEq, AV.at.injEq, Value.int.injEq, Value.bool.injEq, AV.fn.injEq, AV.pp.injEq, true_and, and_true, slT_inj_int] at h
 simp_all
theorem fraction_counted_ok (n : Nat) (n' : api_Int) (r : api_Int) (hr : fraction_counted n n' = some r) : FnOk Tryz.prog 97 [.agg [.at (.bool n'.Negative), slT (iC .u32) n'.Groups]] (.agg [.at (.bool r.Negative), slT (iC .u32) r.Groups]) := by
 unfold fraction_counted at hr
 refine FnOk.body fine Tryz.func97 (c := (Tryz.f97.body).getD .skip) rfl (s := mkS 7 0 [(0, .agg (api_Int.c n'))]) (by kernel_rfl) (rs := [.cell 2 37]) rfl ?_
 unfold Tryz.f97
 simp only [Option.getD_some]
 refine CQ.seq ?_
 refine CQ.r0 fine ?_
 refine EVO.e1 (.hp 0 0) [(0, .own (api_Int.c n'))] ?_
 refine EVO.e1 (.hp 1 0) [(1, .own [aB false, .at (.slice none 0 0)])] ?_
 refine EVO.done ?_
 refine CQ.n1 [1, 2] (mkS 7 0 [(1, .hp 0 0), (2, .hp 1 0)]) [.own (api_Int.c n'), .own [aB false, .at (.slice none 0 0)]] ?_
 refine CQ.seq ?_
 refine CQ.seq ?_
 replace hr := bd hr; obtain ⟨v1, hc2, hr⟩ := hr
 refine CQ.region fine (callOf_1 132 [.agg (api_Int.c n')] [.own (api_Int.c n'), .own [aB false, .at (.slice none 0 0)]] (.loc (aB v1) [] [] 0) (callOk_val (l := []) (args' := [.agg (api_Int.c n')]) rfl (SnL.cons (Sn.pure rfl) SnL.nil) (integer_Valid_ok n n' v1 hc2))) ?_
 refine EVO.p1 (.agg (api_Int.c n')) ?_
 refine EVO.c0 (by kernel_rfl) (callOf_at (by kernel_rfl)) ?_
 refine EVO.done ?_
 refine CQ.n1 [1, 2, 4] (mkS 7 0 [(1, .hp 0 0), (2, .hp 1 0), (4, aB v1)]) [.own (api_Int.c n'), .own [aB false, .at (.slice none 0 0)]] ?_
 refine CQ.cond (t := v1) (by kernel_rfl) (fun hb3 => ?_) (fun hb3 => ?_)
 ·replace hr := cd_t hb3 hr
  refine CQ.seq ?_
  refine CQ.r0 fine ?_
  refine EVO.p1 (.agg (api_Int.c n')) ?_
  refine EVO.e1 (.unk) [(1, .own (api_Int.c n'))] ?_
  refine EVO.done ?_
  refine CQ.ret ?_
  obtain rfl := Option.some.inj hr
  exact FinQ.r1 [.agg (api_Int.c n')]
 ·replace hr := cd_f hb3 hr
  refine CQ.skip ?_
  refine CQ.seq ?_
  replace hr := bd hr; obtain ⟨v4, hc5, hr⟩ := hr
  refine CQ.region fine (callOf_1 49 [aI64 0] [.own (api_Int.c n'), .own [aB false, .at (.slice none 0 0)]] (.loc (.agg (api_Int.c v4)) [] [] 0) (callOk_ref (l := []) (args' := [aI64 0]) (SnL.cons (Sn.pure rfl) SnL.nil) (integer_Of_ok n 0 v4 hc5))) ?_
  refine EVO.c0 (by kernel_rfl) (callOf_at (by kernel_rfl)) ?_
  refine EVO.e1 (.unk) [(1, .own (api_Int.c v4))] ?_
  refine EVO.done ?_
  refine CQ.ret ?_
  obtain rfl := Option.some.inj hr
  exact FinQ.r1 [.agg (api_Int.c v4)]

theorem integer_groups_inj {x' : api_Int} {x'_ : api_Int} (h : ([.agg [.at (.bool x'.Negative), slT (iC .u32) x'.Groups]] : List AV) = [.agg [.at (.bool x'_.Negative), slT (iC .u32) x'_.Groups]]) : x' = x'_ := by
 obtain ⟨_, _⟩ := x'
 obtain ⟨_, _⟩ := x'_
 simp only [List.cons.injEq, AV.agg.injEq, AV.at.injEq, Value.int.injEq, Value.bool.injEq, AV.fn.injEq, AV.pp.injEq, true_and, and_true, slT_inj_int] at h
 simp_all
theorem integer_groups_ok (n : Nat) (x' : api_Int) (r : List Int) (hr : integer_groups n x' = some r) : FnOk Tryz.prog 100 [.agg [.at (.bool x'.Negative), slT (iC .u32) x'.Groups]] (slT (iC .u32) r) := by
 unfold integer_groups at hr
 refine FnOk.body fine Tryz.func100 (c := (Tryz.f100.body).getD .skip) rfl (s := mkS 8 0 [(0, .agg (api_Int.c x'))]) (by kernel_rfl) (rs := [.tmp 2]) rfl ?_
 unfold Tryz.f100
 simp only [Option.getD_some]
 refine CQ.seq ?_
 refine CQ.r0 fine ?_
 refine EVO.e1 (.hp 0 0) [(0, .own (api_Int.c x'))] ?_
 refine EVO.p1 (.at (.slice none 0 0)) ?_
 refine EVO.done ?_
 refine CQ.n1 [1] (mkS 8 0 [(1, .hp 0 0)]) [.own (api_Int.c x')] ?_
 refine CQ.seq ?_
 refine CQ.seq ?_
 replace hr := bd hr; obtain ⟨v1, hc2, hr⟩ := hr
 refine CQ.region fine (callOf_1 132 [.agg (api_Int.c x')] [.own (api_Int.c x')] (.loc (aB v1) [] [] 0) (callOk_val (l := []) (args' := [.agg (api_Int.c x')]) rfl (SnL.cons (Sn.pure rfl) SnL.nil) (integer_Valid_ok n x' v1 hc2))) ?_
 refine EVO.p1 (.agg (api_Int.c x')) ?_
 refine EVO.c0 (by kernel_rfl) (callOf_at (by kernel_rfl)) ?_
 refine EVO.p1 (aB (!v1)) ?_
 refine EVO.done ?_
 refine CQ.n1 [1, 5] (mkS 8 0 [(1, .hp 0 0), (5, aB (!v1))]) [.own (api_Int.c x')] ?_
 refine CQ.cond (t := !v1) (by kernel_rfl) (fun hb3 => ?_) (fun hb3 => ?_)
 ·replace hr := cd_t hb3 hr
  refine CQ.seq ?_
  refine CQ.r0 fine ?_
  refine EVO.p1 (.at (.slice none 0 0)) ?_
  refine EVO.done ?_
  refine CQ.ret ?_
  obtain rfl := Option.some.inj hr
  exact FinQ.ret (vs := [.at (.slice none 0 0)]) (by kernel_rfl) Sn.nilsl
 ·replace hr := cd_f hb3 hr
  refine CQ.skip ?_
  refine CQ.seq ?_
  refine CQ.r0 fine ?_
  refine EVO.p1 (.hp 0 1) ?_
  refine EVO.p1 (sU32 x'.Groups) ?_
  refine EVO.p1 (sU32 x'.Groups) ?_
  refine EVO.done ?_
  refine CQ.ret ?_
  obtain rfl := Option.some.inj hr
  exact FinQ.r1 [sU32 x'.Groups]

theorem integer_Sign_inj {x' : api_Int} {x'_ : api_Int} (h : ([.agg [.at (.bool x'.Negative), slT (iC .u32) x'.Groups]] : List AV) = [.agg [.at (.bool x'_.Negative), slT (iC .u32) x'_.Groups]]) : x' = x'_ := by
 obtain ⟨_, _⟩ := x'
 obtain ⟨_, _⟩ := x'_
 simp only [List.cons.injEq, AV.agg.injEq, AV.at.injEq, Value.int.injEq, Value.bool.injEq, AV.fn.injEq, AV.pp.injEq, true_and, and_true, slT_inj_int] at h
 simp_all
theorem integer_Sign_ok (n : Nat) (x' : api_Int) (r : Int) (hr : integer_Sign n x' = some r) : FnOk Tryz.prog 91 [.agg [.at (.bool x'.Negative), slT (iC .u32) x'.Groups]] (.at (.int .i64 r)) := by
 unfold integer_Sign at hr
 refine FnOk.body fine Tryz.func91 (c := (Tryz.f91.body).getD .skip) rfl (s := mkS 11 0 [(0, .agg (api_Int.c x'))]) (by kernel_rfl) (rs := [.tmp 2]) rfl ?_
 unfold Tryz.f91
 simp only [Option.getD_some]
 refine CQ.seq ?_
 refine CQ.r0 fine ?_
 refine EVO.e1 (.hp 0 0) [(0, .own (api_Int.c x'))] ?_
 refine EVO.p1 (aI64 0) ?_
 refine EVO.done ?_
 refine CQ.n1 [1] (mkS 11 0 [(1, .hp 0 0)]) [.own (api_Int.c x')] ?_
 refine CQ.seq ?_
 refine CQ.block ?_
 refine CQ.seq ?_
 replace hr := bd hr; obtain ⟨v1, hc2, hr⟩ := hr
 refine CQ.region fine (callOf_1 100 [.agg (api_Int.c x')] [.own (api_Int.c x')] (.loc (sU32 v1) [] [] 0) (callOk_ref (l := []) (args' := [.agg (api_Int.c x')]) (SnL.cons (Sn.pure rfl) SnL.nil) (integer_groups_ok n x' v1 hc2))) ?_
 refine EVO.p1 (.agg (api_Int.c x')) ?_
 refine EVO.c0 (by kernel_rfl) (callOf_at (by kernel_rfl)) ?_
 refine EVO.p1 (aI64 (v1.length : Int)) ?_
 refine EVO.p1 (aB (((v1.length : Int) : Int) == 0)) ?_
 refine EVO.p1 (aB (((v1.length : Int) : Int) == 0)) ?_
 refine EVO.done ?_
 refine CQ.n1 [1, 3] (mkS 11 0 [(1, .hp 0 0), (3, aB (((v1.length : Int) : Int) == 0))]) [.own (api_Int.c x')] ?_
 refine CQ.cond (t := ((v1.length : Int) : Int) == 0) (by kernel_rfl) (fun hb3 => ?_) (fun hb3 => ?_)
 ·replace hr := cd_t hb3 hr
  refine CQ.seq ?_
  refine CQ.r0 fine ?_
  refine EVO.p1 (aI64 0) ?_
  refine EVO.done ?_
  refine CQ.ret ?_
  obtain rfl := Option.some.inj hr
  exact FinQ.r1 [aI64 0]
 ·replace hr := cd_f hb3 hr
  refine CQ.seq ?_
  refine CQ.r0 fine ?_
  refine EVO.p1 (.hp 0 0) ?_
  refine EVO.p1 (aB x'.Negative) ?_
  refine EVO.p1 (aB x'.Negative) ?_
  refine EVO.done ?_
  refine CQ.n1 [8] (mkS 11 0 [(8, aB x'.Negative)]) [.own (api_Int.c x')] ?_
  refine CQ.cond (t := x'.Negative) (by kernel_rfl) (fun hb4 => ?_) (fun hb4 => ?_)
  ·replace hr := cd_t hb4 hr
   refine CQ.seq ?_
   refine CQ.r0 fine ?_
   refine EVO.p1 (aI64 (-1)) ?_
   refine EVO.done ?_
   refine CQ.ret ?_
   obtain rfl := Option.some.inj hr
   exact FinQ.r1 [aI64 (-1)]
  ·replace hr := cd_f hb4 hr
   refine CQ.skip ?_
   refine CQ.pop ?_
   refine CQ.seq ?_
   refine CQ.r0 fine ?_
   refine EVO.p1 (aI64 1) ?_
   refine EVO.done ?_
   refine CQ.ret ?_
   obtain rfl := Option.some.inj hr
   exact FinQ.r1 [aI64 1]

theorem slices_Clone_uint32_uint32_ok (n : Nat) (s : List Int) (r : List Int) (hr : slices_Clone_uint32_uint32 n s = some r) : FnOk Tryz.prog 177 [slT (iC .u32) s] (slT (iC .u32) r) := by
 unfold slices_Clone_uint32_uint32 at hr
 refine FnOk.body fine Tryz.func177 (c := (Tryz.f177.body).getD .skip) rfl (s := mkS 8 0 [(0, sU32 s)]) (by kernel_rfl) (rs := [.tmp 2]) rfl ?_
 unfold Tryz.f177
 simp only [Option.getD_some]
 refine CQ.seq ?_
 refine CQ.r0 fine ?_
 refine EVO.p1 (.at (.slice none 0 0)) ?_
 refine EVO.done ?_
 refine CQ.n1 [0] (mkS 8 0 [(0, sU32 s)]) [] ?_
 refine CQ.seq ?_
 refine CQ.seq ?_
 refine CQ.nilcase (t := 0) (cs := s.flatMap (iC .u32)) (len := s.length) (by kernel_rfl) (fun hn3 => ?_) ?_
 ·obtain rfl : s = [] := List.length_eq_zero_iff.1 hn3
  have hx := gd hr; clear hr; obtain ⟨_, hr⟩ := hx
  have hx := gd hr; clear hr; obtain ⟨_, hr⟩ := hx
  refine CQ.r0 fine ?_
  refine EVO.p1 (.at (.slice none 0 0)) ?_
  refine EVO.p1 (aB true) ?_
  refine EVO.done ?_
  refine CQ.n1 [0, 4] (mkS 8 0 [(0, .at (.slice none 0 0)), (4, aB true)]) [] ?_
  refine CQ.cT (by kernel_rfl) ?_
  refine CQ.seq ?_
  refine CQ.r0 fine ?_
  refine EVO.p1 (.at (.slice none 0 0)) ?_
  refine EVO.done ?_
  refine CQ.ret ?_
  obtain rfl := Option.some.inj hr
  exact FinQ.ret (vs := [.at (.slice none 0 0)]) (by kernel_rfl) Sn.nilsl
 ·refine CQ.r0 fine ?_
  refine EVO.p1 (.sl false (s.flatMap (iC .u32)) s.length) ?_
  refine EVO.p1 (aB false) ?_
  refine EVO.done ?_
  refine CQ.n1 [0, 4] (mkS 8 0 [(0, .sl false (s.flatMap (iC .u32)) s.length), (4, aB false)]) [] ?_
  refine CQ.cF (by kernel_rfl) ?_
  refine CQ.skip ?_
  refine CQ.seq ?_
  replace hr := gd hr; obtain ⟨hg1, hr⟩ := hr
  replace hr := gd hr; obtain ⟨hg2, hr⟩ := hr
  refine CQ.r0 fine ?_
  refine EVO.e1 (.hs 0 0 0 1) [(0, .own [])] ?_
  refine EVO.p1 (.sl false (s.flatMap (iC .u32)) s.length) ?_
  refine EVO.e0 (v := .hs 1 0 s.length 1) (ws := [(0, .dead), (1, .own (s.flatMap (iC .u32)))]) (Eq.trans (b := appS (decide (((s.flatMap (iC .u32))).length = s.length * 1)) (s.flatMap (iC .u32)) s.length (fun z1 z2 => guardO (decide (0 + 0 * 1 ≤ (([] : List Int).flatMap (iC .u32)).length) && decide ((0 + z2) * 4 ≤ 140737488355328) && decide (0 + z2 ≤ 4611686018427387904)) (some (.eff (.hs 1 0 (0 + z2) 1) [(0, .dead), (1, .own (((([] : List Int).flatMap (iC .u32)).drop 0).take (0 * 1) ++ z1))])))) (by kernel_rfl) (appS_t (flat_lenB (iC_len _)) rfl (app_own (l := ([] : List Int)) (xs := s) (iC_len _) rfl rfl rfl hg1 hg2))) ?_
  refine EVO.p1 (.hs 1 0 s.length 1) ?_
  refine EVO.done ?_
  refine CQ.ret ?_
  obtain rfl := Option.some.inj hr
  exact FinQ.ret (vs := [.hs 1 0 s.length 1]) (by kernel_rfl) (Sn.hs rfl (.inl rfl) (SnC.pure (ids_flat (iC_pure _) _)) (fun h => flat_nil0 h))

theorem integer_Neg_inj {x' : api_Int} {x'_ : api_Int} (h : ([.agg [.at (.bool x'.Negative), slT (iC .u32) x'.Groups]] : List AV) = [.agg [.at (.bool x'_.Negative), slT (iC .u32) x'_.Groups]]) : x' = x'_ := by
 obtain ⟨_, _⟩ := x'
 obtain ⟨_, _⟩ := x'_
 simp only [List.cons.injEq, AV.agg.injEq, AV.at.injEq, Value.int.injEq, Value.bool.injEq, AV.fn.injEq, AV.pp.injEq, true_and, and_true, slT_inj_int] at h
 simp_all
theorem integer_Neg_ok (n : Nat) (x' : api_Int) (r : api_Int) (hr : integer_Neg n x' = some r) : FnOk Tryz.prog 133 [.agg [.at (.bool x'.Negative), slT (iC .u32) x'.Groups]] (.agg [.at (.bool r.Negative), slT (iC .u32) r.Groups]) := by
 unfold integer_Neg at hr
 refine FnOk.body fine Tryz.func133 (c := (Tryz.f133.body).getD .skip) rfl (s := mkS 10 0 [(0, .agg (api_Int.c x'))]) (by kernel_rfl) (rs := [.cell 2 37]) rfl ?_
 unfold Tryz.f133
 simp only [Option.getD_some]
 refine CQ.seq ?_
 refine CQ.r0 fine ?_
 refine EVO.e1 (.hp 0 0) [(0, .own (api_Int.c x'))] ?_
 refine EVO.e1 (.hp 1 0) [(1, .own [aB false, .at (.slice none 0 0)])] ?_
 refine EVO.done ?_
 refine CQ.n1 [1, 2] (mkS 10 0 [(1, .hp 0 0), (2, .hp 1 0)]) [.own (api_Int.c x'), .own [aB false, .at (.slice none 0 0)]] ?_
 refine CQ.seq ?_
 replace hr := bd hr; obtain ⟨v1, hc2, hr⟩ := hr
 replace hr := bd hr; obtain ⟨v3, hc4, hr⟩ := hr
 replace hr := bd hr; obtain ⟨v5, hc6, hr⟩ := hr
 refine CQ.regionT fine (callOf_ok [{ f := 100, args := [.agg (api_Int.c x')], H := [.own (api_Int.c x'), .own [aB false, .at (.slice none 0 0)]], r := .loc (sU32 v1) [] [] 0 : CE }, { f := 177, args := [sU32 v1], H := [.own (api_Int.c x'), .own [aB false, .at (.slice none 0 0)]], r := .loc (sU32 v3) [] [] 0 : CE }, { f := 95, args := [aB (!x'.Negative), sU32 v3], H := [.own (api_Int.c x'), .own [aB false, .at (.slice none 0 0)]], r := .loc (.agg (api_Int.c v5)) [] [] 0 : CE }] (List.forall_mem_cons.2 ⟨(callOk_ref (l := []) (args' := [.agg (api_Int.c x')]) (SnL.cons (Sn.pure rfl) SnL.nil) (integer_groups_ok n x' v1 hc2)), (List.forall_mem_cons.2 ⟨(callOk_ref (l := []) (args' := [sU32 v1]) (SnL.cons (Sn.pure rfl) SnL.nil) (slices_Clone_uint32_uint32_ok n v1 v3 hc4)), (List.forall_mem_cons.2 ⟨(callOk_ref (l := []) (args' := [aB (!x'.Negative), sU32 v3]) (SnL.cons (Sn.pure rfl) (SnL.cons (Sn.pure rfl) SnL.nil)) (integer_made_ok n (!x'.Negative) v3 v5 hc6)), ce0⟩)⟩)⟩)) ?_
 refine EVT.p1 (.hp 0 0) ?_
 refine EVT.p1 (aB x'.Negative) ?_
 refine EVT.p1 (aB (!x'.Negative)) ?_
 refine EVT.p1 (.agg (api_Int.c x')) ?_
 refine EVT.cal (by kernel_rfl) (by kernel_rfl) (callOf_at (by kernel_rfl)) (by kernel_rfl) ?_
 refine EVT.cal (by kernel_rfl) (by kernel_rfl) (callOf_skip (fun h _ => absurd (show (177 : Nat) = 100 from h) (by decide)) (callOf_at (by kernel_rfl))) (by kernel_rfl) ?_
 refine EVT.cal (by kernel_rfl) (by kernel_rfl) (callOf_skip (fun h _ => absurd (show (95 : Nat) = 100 from h) (by decide)) (callOf_skip (fun h _ => absurd (show (95 : Nat) = 177 from h) (by decide)) (callOf_at (by kernel_rfl)))) (by kernel_rfl) ?_
 refine EVT.e1 (.unk) [(1, .own (api_Int.c v5))] ?_
 refine EVT.done ⟨by kernel_rfl, ?_⟩
 refine CQ.ret ?_
 obtain rfl := Option.some.inj hr
 exact FinQ.r1 [.agg (api_Int.c v5)]



theorem integer_short_ok (n : Nat) (a : List Int) (d : Int) (r : List Int × Int) (hr : integer_short n a d = some r) : FnOk Tryz.prog 201 [slT (iC .u32) a, .at (.int .u32 d)] (.tup [slT (iC .u32) r.1, .at (.int .u32 r.2)]) := by cases hr

theorem integer_times_ok (n : Nat) (a : List Int) (b : List Int) (r : List Int) (hr : integer_times n a b = some r) : FnOk Tryz.prog 99 [slT (iC .u32) a, slT (iC .u32) b] (slT (iC .u32) r) := by
 unfold integer_times at hr
 refine FnOk.body fine Tryz.func99 (c := (Tryz.f99.body).getD .skip) rfl (s := mkS 69 0 [(0, sU32 a), (1, sU32 b)]) (by kernel_rfl) (rs := [.tmp 4]) rfl ?_
 unfold Tryz.f99
 simp only [Option.getD_some]
 refine CQ.seq ?_
 refine CQ.r0 fine ?_
 refine EVO.p1 (.at (.slice none 0 0)) ?_
 refine EVO.done ?_
 refine CQ.n1 [0, 1] (mkS 69 0 [(0, sU32 a), (1, sU32 b)]) [] ?_
 refine CQ.seq ?_
 replace hr := gd hr; obtain ⟨hg1, hr⟩ := hr
 replace hr := gd hr; obtain ⟨hg2, hr⟩ := hr
 replace hr := gd hr; obtain ⟨hg3, hr⟩ := hr
 refine CQ.r0 fine ?_
 refine EVO.p1 (sU32 a) ?_
 refine EVO.p1 (aI64 (a.length : Int)) ?_
 refine EVO.p1 (sU32 b) ?_
 refine EVO.p1 (aI64 (b.length : Int)) ?_
 refine EVO.p1 (aI64 (wrapF .i64 ((a.length : Int) + (b.length : Int)))) ?_
 refine EVO.e0 (v := .hs 0 0 (List.replicate (wrapF .i64 ((a.length : Int) + (b.length : Int))).toNat (0 : Int)).length 1) (ws := [(0, .own ((List.replicate (wrapF .i64 ((a.length : Int) + (b.length : Int))).toNat (0 : Int)).flatMap (iC .u32)))]) (Eq.trans (b := guardO (decide (0 ≤ (wrapF .i64 ((a.length : Int) + (b.length : Int)))) && decide ((wrapF .i64 ((a.length : Int) + (b.length : Int))) ≤ (wrapF .i64 ((a.length : Int) + (b.length : Int)))) && decide ((4 : Int) * (wrapF .i64 ((a.length : Int) + (b.length : Int))) ≤ 281474976710656) && decide ((wrapF .i64 ((a.length : Int) + (b.length : Int))) ≤ 9223372036854775807) && true && true && true) (some (.eff (.hs 0 0 (wrapF .i64 ((a.length : Int) + (b.length : Int))).toNat 1) [(0, .own (zerosA [aU32 0] (wrapF .i64 ((a.length : Int) + (b.length : Int))).toNat))]))) (by kernel_rfl) (make_own (c := (iC .u32)) (z := 0) rfl hg1 hg2 hg3)) ?_
 refine EVO.p1 (.hs 0 0 (List.replicate (wrapF .i64 ((a.length : Int) + (b.length : Int))).toNat (0 : Int)).length 1) ?_
 refine EVO.done ?_
 refine CQ.n1 [0, 1, 5] (mkS 69 0 [(0, sU32 a), (1, sU32 b), (5, .hs 0 0 (List.replicate (wrapF .i64 ((a.length : Int) + (b.length : Int))).toNat (0 : Int)).length 1)]) [.own ((List.replicate (wrapF .i64 ((a.length : Int) + (b.length : Int))).toNat (0 : Int)).flatMap (iC .u32))] ?_
 refine CQ.seq ?_
 refine CQ.seq ?_
 refine CQ.r0 fine ?_
 refine EVO.p1 (sU32 a) ?_
 refine EVO.p1 (aI64 (a.length : Int)) ?_
 refine EVO.p1 (aI64 0) ?_
 refine EVO.done ?_
 refine CQ.n1 [1, 5, 18, 19, 20] (mkS 69 0 [(1, sU32 b), (5, .hs 0 0 (List.replicate (wrapF .i64 ((a.length : Int) + (b.length : Int))).toNat (0 : Int)).length 1), (18, sU32 a), (19, aI64 (a.length : Int)), (20, aI64 0)]) [.own ((List.replicate (wrapF .i64 ((a.length : Int) + (b.length : Int))).toNat (0 : Int)).flatMap (iC .u32))] ?_
 refine CQ.block ?_
 replace hr := bd hr; obtain ⟨out_24, hL45, hr⟩ := hr
 refine CQ.loopO (σ := fun z0 => match z0 with | (out_4, x_5) => ⟨mkS 69 0 [(1, sU32 b), (5, .hs 0 0 out_4.length 1), (18, sU32 a), (19, aI64 (a.length : Int)), (20, aI64 x_5)], [.own (out_4.flatMap (iC .u32))]⟩) (Q := fun x st' => x = .exit 0 ∧ Wk 0 st' ⟨mkS 69 0 [(5, .hs 0 0 out_24.length 1)], [.own (out_24.flatMap (iC .u32))]⟩) hL45 ((Wk.gc [1, 5, 18, 19, 20] [(0, false)] rfl (by exact ⟨ids_flat (iC_pure _) _, trivial⟩)).to (by kernel_rfl)) ?_ ?_
 ·clear hr
  rintro m ⟨out_4, x_5⟩ hr
  show CQ _ _ _ _ _ ⟨_, _⟩
  refine CQ.seq ?_
  refine CQ.r0 fine ?_
  refine EVO.p1 (aB (decide (x_5 < (a.length : Int)))) ?_
  refine EVO.done ?_
  refine CQ.seq ?_
  refine CQ.cond (t := decide (x_5 < (a.length : Int))) (by kernel_rfl) (fun hb26 => ?_) (fun hb26 => ?_)
  ·replace hr := cd_t hb26 hr
   refine CQ.skip ?_
   refine CQ.seq ?_
   refine CQ.block ?_
   refine CQ.seq ?_
   replace hr := gd hr; obtain ⟨hg27, hr⟩ := hr
   refine CQ.r0 fine ?_
   refine EVO.p1 (aI64 x_5) ?_
   refine EVO.p0 (v := .pp (a.flatMap (iC .u32)) (x_5.toNat * 1)) (Eq.trans (b := ORes.ofP (guardV (inR x_5 a.length) (.pp (a.flatMap (iC .u32)) (x_5.toNat * 1)))) (by kernel_rfl) (ofP_guard hg27)) ?_
   refine EVO.p0 (v := aU32 (gt a x_5)) (Eq.trans (b := ORes.ofP ((a.flatMap (iC .u32))[x_5.toNat * 1]?)) (by kernel_rfl) (ofP_some (flat_get (iC_len _) (inR_lt hg27) (by decide : 0 < 1) (by omega : x_5.toNat * 1 = x_5.toNat * 1 + 0) (by kernel_rfl)))) ?_
   refine EVO.p1 (aI64 x_5) ?_
   refine EVO.p1 (aU32 (gt a x_5)) ?_
   refine EVO.done ?_
   refine CQ.n1 [1, 5, 6, 7, 18, 19, 20] (mkS 69 0 [(1, sU32 b), (5, .hs 0 0 out_4.length 1), (6, aI64 x_5), (7, aU32 (gt a x_5)), (18, sU32 a), (19, aI64 (a.length : Int)), (20, aI64 x_5)]) [.own (out_4.flatMap (iC .u32))] ?_
   refine CQ.seq ?_
   refine CQ.r0 fine ?_
   refine EVO.p1 (aU64 0) ?_
   refine EVO.done ?_
   refine CQ.seq ?_
   refine CQ.seq ?_
   refine CQ.r0 fine ?_
   refine EVO.p1 (sU32 b) ?_
   refine EVO.p1 (aI64 (b.length : Int)) ?_
   refine EVO.p1 (aI64 0) ?_
   refine EVO.done ?_
   refine CQ.block ?_
   replace hr := bd hr; obtain ⟨o40, hL41, hr⟩ := hr
   refine CQ.loopO (σ := fun z0 => match z0 with | (out_28, carry_29, x_30) => ⟨mkS 69 0 [(1, sU32 b), (5, .hs 0 0 out_28.length 1), (6, aI64 x_5), (7, aU32 (gt a x_5)), (8, aU64 carry_29), (18, sU32 a), (19, aI64 (a.length : Int)), (20, aI64 x_5), (25, sU32 b), (26, aI64 (b.length : Int)), (27, aI64 x_30)], [.own (out_28.flatMap (iC .u32))]⟩) (Q := fun x st' => match (generalizing := false) o40 with | (out_34, carry_35) => x = .exit 2 ∧ Wk 0 st' ⟨mkS 69 0 [(1, sU32 b), (5, .hs 0 0 out_34.length 1), (6, aI64 x_5), (8, aU64 carry_35), (18, sU32 a), (19, aI64 (a.length : Int)), (20, aI64 x_5)], [.own (out_34.flatMap (iC .u32))]⟩) hL41 ((Wk.gc [1, 5, 6, 7, 8, 18, 19, 20, 25, 26, 27] [(0, false)] rfl (by exact ⟨ids_flat (iC_pure _) _, trivial⟩)).to (by kernel_rfl)) ?_ ?_
   ·clear hr
    rintro m ⟨out_28, carry_29, x_30⟩ hr
    show CQ _ _ _ _ _ ⟨_, _⟩
    refine CQ.seq ?_
    refine CQ.r0 fine ?_
    refine EVO.p1 (aB (decide (x_30 < (b.length : Int)))) ?_
    refine EVO.done ?_
    refine CQ.seq ?_
    refine CQ.cond (t := decide (x_30 < (b.length : Int))) (by kernel_rfl) (fun hb37 => ?_) (fun hb37 => ?_)
    ·replace hr := cd_t hb37 hr
     refine CQ.skip ?_
     refine CQ.seq ?_
     refine CQ.block ?_
     refine CQ.seq ?_
     replace hr := gd hr; obtain ⟨hg38, hr⟩ := hr
     refine CQ.r0 fine ?_
     refine EVO.p1 (aI64 x_30) ?_
     refine EVO.p0 (v := .pp (b.flatMap (iC .u32)) (x_30.toNat * 1)) (Eq.trans (b := ORes.ofP (guardV (inR x_30 b.length) (.pp (b.flatMap (iC .u32)) (x_30.toNat * 1)))) (by kernel_rfl) (ofP_guard hg38)) ?_
     refine EVO.p0 (v := aU32 (gt b x_30)) (Eq.trans (b := ORes.ofP ((b.flatMap (iC .u32))[x_30.toNat * 1]?)) (by kernel_rfl) (ofP_some (flat_get (iC_len _) (inR_lt hg38) (by decide : 0 < 1) (by omega : x_30.toNat * 1 = x_30.toNat * 1 + 0) (by kernel_rfl)))) ?_
     refine EVO.p1 (aI64 x_30) ?_
     refine EVO.p1 (aU32 (gt b x_30)) ?_
     refine EVO.done ?_
     refine CQ.n1 [1, 5, 6, 7, 8, 9, 10, 18, 19, 20, 25, 26, 27] (mkS 69 0 [(1, sU32 b), (5, .hs 0 0 out_28.length 1), (6, aI64 x_5), (7, aU32 (gt a x_5)), (8, aU64 carry_29), (9, aI64 x_30), (10, aU32 (gt b x_30)), (18, sU32 a), (19, aI64 (a.length : Int)), (20, aI64 x_5), (25, sU32 b), (26, aI64 (b.length : Int)), (27, aI64 x_30)]) [.own (out_28.flatMap (iC .u32))] ?_
     refine CQ.seq ?_
     replace hr := gd hr; obtain ⟨hg39, hr⟩ := hr
     refine CQ.r0 fine ?_
     refine EVO.p1 (.hs 0 0 out_28.length 1) ?_
     refine EVO.p1 (aI64 x_5) ?_
     refine EVO.p1 (aI64 x_30) ?_
     refine EVO.p1 (aI64 (wrapF .i64 (x_5 + x_30))) ?_
     refine EVO.p0 (v := .hp 0 (0 + (wrapF .i64 (x_5 + x_30)).toNat * 1)) (Eq.trans (b := ORes.ofP (guardV (inR (wrapF .i64 (x_5 + x_30)) out_28.length) (.hp 0 (0 + (wrapF .i64 (x_5 + x_30)).toNat * 1)))) (by kernel_rfl) (ofP_guard hg39)) ?_
     refine EVO.p0 (v := aU32 (gt out_28 (wrapF .i64 (x_5 + x_30)))) (Eq.trans (b := ORes.ofP ((out_28.flatMap (iC .u32))[0 + (wrapF .i64 (x_5 + x_30)).toNat * 1]?)) (by kernel_rfl) (ofP_some (flat_get (iC_len _) (inR_lt hg39) (by decide : 0 < 1) (by omega : 0 + (wrapF .i64 (x_5 + x_30)).toNat * 1 = (wrapF .i64 (x_5 + x_30)).toNat * 1 + 0) (by kernel_rfl)))) ?_
     refine EVO.p1 (aU64 (wrapF .u64 (gt out_28 (wrapF .i64 (x_5 + x_30))))) ?_
     refine EVO.p1 (aU32 (gt a x_5)) ?_
     refine EVO.p1 (aU64 (wrapF .u64 (gt a x_5))) ?_
     refine EVO.p1 (aU32 (gt b x_30)) ?_
     refine EVO.p1 (aU64 (wrapF .u64 (gt b x_30))) ?_
     refine EVO.p1 (aU64 (wrapF .u64 ((wrapF .u64 (gt a x_5)) * (wrapF .u64 (gt b x_30))))) ?_
     refine EVO.p1 (aU64 (wrapF .u64 ((wrapF .u64 (gt out_28 (wrapF .i64 (x_5 + x_30)))) + (wrapF .u64 ((wrapF .u64 (gt a x_5)) * (wrapF .u64 (gt b x_30))))))) ?_
     refine EVO.p1 (aU64 carry_29) ?_
     refine EVO.p1 (aU64 (wrapF .u64 ((wrapF .u64 ((wrapF .u64 (gt out_28 (wrapF .i64 (x_5 + x_30)))) + (wrapF .u64 ((wrapF .u64 (gt a x_5)) * (wrapF .u64 (gt b x_30)))))) + carry_29))) ?_
     refine EVO.p1 (aU64 (wrapF .u64 ((wrapF .u64 ((wrapF .u64 (gt out_28 (wrapF .i64 (x_5 + x_30)))) + (wrapF .u64 ((wrapF .u64 (gt a x_5)) * (wrapF .u64 (gt b x_30)))))) + carry_29))) ?_
     refine EVO.done ?_
     refine CQ.n1 [1, 5, 6, 7, 9, 11, 18, 19, 20, 25, 26, 27] (mkS 69 0 [(1, sU32 b), (5, .hs 0 0 out_28.length 1), (6, aI64 x_5), (7, aU32 (gt a x_5)), (9, aI64 x_30), (11, aU64 (wrapF .u64 ((wrapF .u64 ((wrapF .u64 (gt out_28 (wrapF .i64 (x_5 + x_30)))) + (wrapF .u64 ((wrapF .u64 (gt a x_5)) * (wrapF .u64 (gt b x_30)))))) + carry_29))), (18, sU32 a), (19, aI64 (a.length : Int)), (20, aI64 x_5), (25, sU32 b), (26, aI64 (b.length : Int)), (27, aI64 x_30)]) [.own (out_28.flatMap (iC .u32))] ?_
     refine CQ.r0 fine ?_
     refine EVO.p1 (.hs 0 0 out_28.length 1) ?_
     refine EVO.p1 (aI64 x_5) ?_
     refine EVO.p1 (aI64 x_30) ?_
     refine EVO.p1 (aI64 (wrapF .i64 (x_5 + x_30))) ?_
     refine EVO.p1 (aU64 (wrapF .u64 ((wrapF .u64 ((wrapF .u64 (gt out_28 (wrapF .i64 (x_5 + x_30)))) + (wrapF .u64 ((wrapF .u64 (gt a x_5)) * (wrapF .u64 (gt b x_30)))))) + carry_29))) ?_
     refine EVO.p1 (aU64 ((wrapF .u64 ((wrapF .u64 ((wrapF .u64 (gt out_28 (wrapF .i64 (x_5 + x_30)))) + (wrapF .u64 ((wrapF .u64 (gt a x_5)) * (wrapF .u64 (gt b x_30)))))) + carry_29)).tmod 1000000000)) ?_
     refine EVO.p1 (aU32 (wrapF .u32 ((wrapF .u64 ((wrapF .u64 ((wrapF .u64 (gt out_28 (wrapF .i64 (x_5 + x_30)))) + (wrapF .u64 ((wrapF .u64 (gt a x_5)) * (wrapF .u64 (gt b x_30)))))) + carry_29)).tmod 1000000000))) ?_
     refine EVO.p1 (aU64 (wrapF .u64 ((wrapF .u64 ((wrapF .u64 (gt out_28 (wrapF .i64 (x_5 + x_30)))) + (wrapF .u64 ((wrapF .u64 (gt a x_5)) * (wrapF .u64 (gt b x_30)))))) + carry_29))) ?_
     refine EVO.p1 (aU64 (wrapF .u64 ((wrapF .u64 ((wrapF .u64 ((wrapF .u64 (gt out_28 (wrapF .i64 (x_5 + x_30)))) + (wrapF .u64 ((wrapF .u64 (gt a x_5)) * (wrapF .u64 (gt b x_30)))))) + carry_29)).tdiv 1000000000))) ?_
     refine EVO.p0 (v := .hp 0 (0 + (wrapF .i64 (x_5 + x_30)).toNat * 1)) (Eq.trans (b := ORes.ofP (guardV (inR (wrapF .i64 (x_5 + x_30)) out_28.length) (.hp 0 (0 + (wrapF .i64 (x_5 + x_30)).toNat * 1)))) (by kernel_rfl) (ofP_guard hg39)) ?_
     refine EVO.e0 (v := .unk) (ws := [(0, .own ((out_28.set (wrapF .i64 (x_5 + x_30)).toNat (wrapF .u32 ((wrapF .u64 ((wrapF .u64 ((wrapF .u64 (gt out_28 (wrapF .i64 (x_5 + x_30)))) + (wrapF .u64 ((wrapF .u64 (gt a x_5)) * (wrapF .u64 (gt b x_30)))))) + carry_29)).tmod 1000000000))).flatMap (iC .u32)))]) (Eq.trans (b := stO (decide ((0 + (wrapF .i64 (x_5 + x_30)).toNat * 1) + 1 ≤ (out_28.flatMap (iC .u32)).length) && true) [(0, .own (setCells (out_28.flatMap (iC .u32)) (0 + (wrapF .i64 (x_5 + x_30)).toNat * 1) [aU32 (wrapF .u32 ((wrapF .u64 ((wrapF .u64 ((wrapF .u64 (gt out_28 (wrapF .i64 (x_5 + x_30)))) + (wrapF .u64 ((wrapF .u64 (gt a x_5)) * (wrapF .u64 (gt b x_30)))))) + carry_29)).tmod 1000000000))]))]) (by kernel_rfl) (stO_t (and_t (flat_fits (iC_len _) (inR_lt hg39) (Nat.le_of_ble_eq_true rfl) (by omega : 0 + (wrapF .i64 (x_5 + x_30)).toNat * 1 = (wrapF .i64 (x_5 + x_30)).toNat * 1 + 0))) (congrArg Blk.own (flat_set (iC_len _) (inR_lt hg39) (Nat.le_of_ble_eq_true rfl) (by omega : 0 + (wrapF .i64 (x_5 + x_30)).toNat * 1 = (wrapF .i64 (x_5 + x_30)).toNat * 1 + 0) (by kernel_rfl))))) ?_
     refine EVO.p1 (aU64 (wrapF .u64 ((wrapF .u64 ((wrapF .u64 ((wrapF .u64 (gt out_28 (wrapF .i64 (x_5 + x_30)))) + (wrapF .u64 ((wrapF .u64 (gt a x_5)) * (wrapF .u64 (gt b x_30)))))) + carry_29)).tdiv 1000000000))) ?_
     refine EVO.done ?_
     refine CQ.pop ?_
     refine CQ.r0 fine ?_
     refine EVO.p1 (aI64 (wrapF .i64 (x_30 + 1))) ?_
     refine EVO.p1 (aI64 (wrapF .i64 (x_30 + 1))) ?_
     refine EVO.done ?_
     exact loopF_back (out_28.set (wrapF .i64 (x_5 + x_30)).toNat (wrapF .u32 ((wrapF .u64 ((wrapF .u64 ((wrapF .u64 (gt out_28 (wrapF .i64 (x_5 + x_30)))) + (wrapF .u64 ((wrapF .u64 (gt a x_5)) * (wrapF .u64 (gt b x_30)))))) + carry_29)).tmod 1000000000)), wrapF .u64 ((wrapF .u64 ((wrapF .u64 ((wrapF .u64 (gt out_28 (wrapF .i64 (x_5 + x_30)))) + (wrapF .u64 ((wrapF .u64 (gt a x_5)) * (wrapF .u64 (gt b x_30)))))) + carry_29)).tdiv 1000000000), wrapF .i64 (x_30 + 1)) hr ((Wk.relen 5 (b := 0) (es := 1) (len := out_28.length) (out_28.set (wrapF .i64 (x_5 + x_30)).toNat (wrapF .u32 ((wrapF .u64 ((wrapF .u64 ((wrapF .u64 (gt out_28 (wrapF .i64 (x_5 + x_30)))) + (wrapF .u64 ((wrapF .u64 (gt a x_5)) * (wrapF .u64 (gt b x_30)))))) + carry_29)).tmod 1000000000))).length (by kernel_rfl) (by simp)).trans ((Wk.gc [1, 5, 6, 7, 8, 18, 19, 20, 25, 26, 27] [(0, false)] rfl (by exact ⟨ids_flat (iC_pure _) _, trivial⟩)).to (by kernel_rfl)))
    ·replace hr := cd_f hb37 hr
     refine CQ.leave rfl ?_
     obtain rfl := Option.some.inj hr
     exact ⟨rfl, ((Wk.gc [1, 5, 6, 8, 18, 19, 20] [(0, false)] rfl (by exact ⟨ids_flat (iC_pure _) _, trivial⟩)).to (by kernel_rfl))⟩
   ·rcases o40 with ⟨out_34, carry_35⟩
    rintro x st' hq42
    clear hL41
    obtain ⟨rfl, hq42⟩ := hq42
    refine CQ_exit _ rfl ?_
    refine CQ.wk hq42 ?_
    replace hr := gd hr; obtain ⟨hg43, hr⟩ := hr
    refine CQ.r0 fine ?_
    refine EVO.p1 (.hs 0 0 out_34.length 1) ?_
    refine EVO.p1 (aI64 x_5) ?_
    refine EVO.p1 (sU32 b) ?_
    refine EVO.p1 (aI64 (b.length : Int)) ?_
    refine EVO.p1 (aI64 (wrapF .i64 (x_5 + (b.length : Int)))) ?_
    refine EVO.p1 (aU64 carry_35) ?_
    refine EVO.p1 (aU32 (wrapF .u32 carry_35)) ?_
    refine EVO.p0 (v := .hp 0 (0 + (wrapF .i64 (x_5 + (b.length : Int))).toNat * 1)) (Eq.trans (b := ORes.ofP (guardV (inR (wrapF .i64 (x_5 + (b.length : Int))) out_34.length) (.hp 0 (0 + (wrapF .i64 (x_5 + (b.length : Int))).toNat * 1)))) (by kernel_rfl) (ofP_guard hg43)) ?_
    refine EVO.e0 (v := .unk) (ws := [(0, .own ((out_34.set (wrapF .i64 (x_5 + (b.length : Int))).toNat (wrapF .u32 carry_35)).flatMap (iC .u32)))]) (Eq.trans (b := stO (decide ((0 + (wrapF .i64 (x_5 + (b.length : Int))).toNat * 1) + 1 ≤ (out_34.flatMap (iC .u32)).length) && true) [(0, .own (setCells (out_34.flatMap (iC .u32)) (0 + (wrapF .i64 (x_5 + (b.length : Int))).toNat * 1) [aU32 (wrapF .u32 carry_35)]))]) (by kernel_rfl) (stO_t (and_t (flat_fits (iC_len _) (inR_lt hg43) (Nat.le_of_ble_eq_true rfl) (by omega : 0 + (wrapF .i64 (x_5 + (b.length : Int))).toNat * 1 = (wrapF .i64 (x_5 + (b.length : Int))).toNat * 1 + 0))) (congrArg Blk.own (flat_set (iC_len _) (inR_lt hg43) (Nat.le_of_ble_eq_true rfl) (by omega : 0 + (wrapF .i64 (x_5 + (b.length : Int))).toNat * 1 = (wrapF .i64 (x_5 + (b.length : Int))).toNat * 1 + 0) (by kernel_rfl))))) ?_
    refine EVO.done ?_
    refine CQ.pop ?_
    refine CQ.r0 fine ?_
    refine EVO.p1 (aI64 (wrapF .i64 (x_5 + 1))) ?_
    refine EVO.p1 (aI64 (wrapF .i64 (x_5 + 1))) ?_
    refine EVO.done ?_
    exact loopF_back (out_34.set (wrapF .i64 (x_5 + (b.length : Int))).toNat (wrapF .u32 carry_35), wrapF .i64 (x_5 + 1)) hr ((Wk.relen 5 (b := 0) (es := 1) (len := out_34.length) (out_34.set (wrapF .i64 (x_5 + (b.length : Int))).toNat (wrapF .u32 carry_35)).length (by kernel_rfl) (by simp)).trans ((Wk.gc [1, 5, 18, 19, 20] [(0, false)] rfl (by exact ⟨ids_flat (iC_pure _) _, trivial⟩)).to (by kernel_rfl)))
  ·replace hr := cd_f hb26 hr
   refine CQ.leave rfl ?_
   obtain rfl := Option.some.inj hr
   exact ⟨rfl, ((Wk.gc [5] [(0, false)] rfl (by exact ⟨ids_flat (iC_pure _) _, trivial⟩)).to (by kernel_rfl))⟩
 ·rintro x st' hq46
  clear hL45
  obtain ⟨rfl, hq46⟩ := hq46
  refine CQ_exit _ rfl ?_
  refine CQ.wk hq46 ?_
  refine CQ.seq ?_
  replace hr := bd hr; obtain ⟨v47, hc48, hr⟩ := hr
  refine CQ.region fine (callOf_1 131 [.hs 0 0 out_24.length 1] [.own (out_24.flatMap (iC .u32))] (.loc (sU32 v47) [(0, .fix (out_24.flatMap (iC .u32)))] [0] 0) (callOk_ref (l := [0]) (args' := [sU32 out_24]) (SnL.cons (Sn.hs rfl (.inl rfl) (SnC.pure (ids_flat (iC_pure _) _)) (fun h => flat_nil0 h)) SnL.nil) (integer_trim_ok n out_24 v47 hc48))) ?_
  refine EVO.p1 (.hs 0 0 out_24.length 1) ?_
  refine EVO.c0 (by kernel_rfl) (callOf_at (by kernel_rfl)) ?_
  refine EVO.p1 (sU32 v47) ?_
  refine EVO.done ?_
  refine CQ.ret ?_
  obtain rfl := Option.some.inj hr
  exact FinQ.r1 [sU32 v47]

theorem integer_long_ok (n : Nat) (a : List Int) (b : List Int) (r : List Int × List Int) (hr : integer_long n a b = some r) : FnOk Tryz.prog 202 [slT (iC .u32) a, slT (iC .u32) b] (.tup [slT (iC .u32) r.1, slT (iC .u32) r.2]) := by cases hr

theorem integer_over_ok (n : Nat) (a : List Int) (b : List Int) (r : List Int × List Int) (hr : integer_over n a b = some r) : FnOk Tryz.prog 179 [slT (iC .u32) a, slT (iC .u32) b] (.tup [slT (iC .u32) r.1, slT (iC .u32) r.2]) := by
 unfold integer_over at hr
 refine FnOk.body fine Tryz.func179 (c := (Tryz.f179.body).getD .skip) rfl (s := mkS 59 0 [(0, sU32 a), (1, sU32 b)]) (by kernel_rfl) (rs := [.tmp 4, .tmp 5]) rfl ?_
 unfold Tryz.f179
 simp only [Option.getD_some]
 refine CQ.seq ?_
 refine CQ.r0 fine ?_
 refine EVO.p1 (.at (.slice none 0 0)) ?_
 refine EVO.p1 (.at (.slice none 0 0)) ?_
 refine EVO.done ?_
 refine CQ.n1 [0, 1] (mkS 59 0 [(0, sU32 a), (1, sU32 b)]) [] ?_
 refine CQ.seq ?_
 refine CQ.seq ?_
 replace hr := bd hr; obtain ⟨v1, hc2, hr⟩ := hr
 refine CQ.region fine (callOf_1 172 [sU32 a, sU32 b] [] (.loc (aI64 v1) [] [] 0) (callOk_val (l := []) (args' := [sU32 a, sU32 b]) rfl (SnL.cons (Sn.pure rfl) (SnL.cons (Sn.pure rfl) SnL.nil)) (integer_compare_ok n a b v1 hc2))) ?_
 refine EVO.p1 (sU32 a) ?_
 refine EVO.p1 (sU32 b) ?_
 refine EVO.c0 (by kernel_rfl) (callOf_at (by kernel_rfl)) ?_
 refine EVO.p1 (aB (decide (v1 < 0))) ?_
 refine EVO.done ?_
 refine CQ.n1 [0, 1, 15] (mkS 59 0 [(0, sU32 a), (1, sU32 b), (15, aB (decide (v1 < 0)))]) [] ?_
 refine CQ.cond (t := decide (v1 < 0)) (by kernel_rfl) (fun hb3 => ?_) (fun hb3 => ?_)
 ·replace hr := cd_t hb3 hr
  refine CQ.seq ?_
  refine CQ.r0 fine ?_
  refine EVO.p1 (sU32 a) ?_
  refine EVO.p1 (.at (.slice none 0 0)) ?_
  refine EVO.p1 (sU32 a) ?_
  refine EVO.done ?_
  refine CQ.ret ?_
  obtain rfl := Option.some.inj hr
  exact FinQ.ret (vs := [.at (.slice none 0 0), sU32 a]) (by kernel_rfl) (Sn.tup (SnL.cons Sn.nilsl (SnL.cons (Sn.pure rfl) SnL.nil)))
 ·replace hr := cd_f hb3 hr
  refine CQ.skip ?_
  refine CQ.seq ?_
  replace hr := bd hr; obtain ⟨v4, hc5, hr⟩ := hr
  refine CQ.region fine (callOf_1 178 [sU32 a] [] (.loc (.tup [aU64 v4.1, aB v4.2]) [] [] 0) (callOk_val (l := []) (args' := [sU32 a]) rfl (SnL.cons (Sn.pure rfl) SnL.nil) (integer_word_ok n a v4 hc5))) ?_
  refine EVO.p1 (sU32 a) ?_
  refine EVO.c0 (by kernel_rfl) (callOf_at (by kernel_rfl)) ?_
  refine EVO.p1 (.tup [aU64 v4.1, aB v4.2]) ?_
  refine EVO.p1 (aU64 v4.1) ?_
  refine EVO.p1 (aB v4.2) ?_
  refine EVO.p1 (aU64 v4.1) ?_
  refine EVO.p1 (aB v4.2) ?_
  refine EVO.done ?_
  refine CQ.n1 [0, 1, 6, 7] (mkS 59 0 [(0, sU32 a), (1, sU32 b), (6, aU64 v4.1), (7, aB v4.2)]) [] ?_
  refine CQ.seq ?_
  replace hr := bd hr; obtain ⟨v6, hc7, hr⟩ := hr
  refine CQ.region fine (callOf_1 178 [sU32 b] [] (.loc (.tup [aU64 v6.1, aB v6.2]) [] [] 0) (callOk_val (l := []) (args' := [sU32 b]) rfl (SnL.cons (Sn.pure rfl) SnL.nil) (integer_word_ok n b v6 hc7))) ?_
  refine EVO.p1 (sU32 b) ?_
  refine EVO.c0 (by kernel_rfl) (callOf_at (by kernel_rfl)) ?_
  refine EVO.p1 (.tup [aU64 v6.1, aB v6.2]) ?_
  refine EVO.p1 (aU64 v6.1) ?_
  refine EVO.p1 (aB v6.2) ?_
  refine EVO.p1 (aU64 v6.1) ?_
  refine EVO.p1 (aB v6.2) ?_
  refine EVO.done ?_
  refine CQ.n1 [0, 1, 6, 7, 8, 9] (mkS 59 0 [(0, sU32 a), (1, sU32 b), (6, aU64 v4.1), (7, aB v4.2), (8, aU64 v6.1), (9, aB v6.2)]) [] ?_
  refine CQ.seq ?_
  refine CQ.seq ?_
  rcases Bool.eq_false_or_eq_true v4.2 with hb8 | hb8
  ·replace hr := cd_t hb8 hr
   refine CQ.r0 fine ?_
   refine EVO.p0 (v := aB true) (Eq.trans (b := some (.pure (aB v4.2))) (by kernel_rfl) (by rw [hb8])) ?_
   refine EVO.p1 (aB true) ?_
   refine EVO.q1 (aB v6.2) ?_
   refine EVO.p1 (aB v6.2) ?_
   refine EVO.done ?_
   refine CQ.n1 [0, 1, 6, 8, 30] (mkS 59 0 [(0, sU32 a), (1, sU32 b), (6, aU64 v4.1), (8, aU64 v6.1), (30, aB v6.2)]) [] ?_
   refine CQ.cond (t := v6.2) (by kernel_rfl) (fun hb9 => ?_) (fun hb9 => ?_)
   ·replace hr := cd_t hb9 hr
    refine CQ.seq ?_
    replace hr := gd hr; obtain ⟨hg10, hr⟩ := hr
    replace hr := bd hr; obtain ⟨v11, hc12, hr⟩ := hr
    replace hr := bd hr; obtain ⟨v13, hc14, hr⟩ := hr
    refine CQ.regionT fine (callOf_ok [{ f := 96, args := [aU64 (wrapF .u64 (v4.1.tdiv v6.1))], H := [], r := .loc (sU32 v11) [] [] 0 : CE }, { f := 96, args := [aU64 (v4.1.tmod v6.1)], H := [], r := .loc (sU32 v13) [] [] 0 : CE }] (List.forall_mem_cons.2 ⟨(callOk_ref (l := []) (args' := [aU64 (wrapF .u64 (v4.1.tdiv v6.1))]) (SnL.cons (Sn.pure rfl) SnL.nil) (integer_split_ok n (wrapF .u64 (v4.1.tdiv v6.1)) v11 hc12)), (List.forall_mem_cons.2 ⟨(callOk_ref (l := []) (args' := [aU64 (v4.1.tmod v6.1)]) (SnL.cons (Sn.pure rfl) SnL.nil) (integer_split_ok n (v4.1.tmod v6.1) v13 hc14)), ce0⟩)⟩)) ?_
    refine EVT.p1 (aU64 v4.1) ?_
    refine EVT.p1 (aU64 v6.1) ?_
    refine EVT.pure (v := aU64 (wrapF .u64 (v4.1.tdiv v6.1))) (by kernel_rfl) (op_quo (x := v4.1) (y := v6.1) (by kernel_rfl) (by kernel_rfl) hg10) (by kernel_rfl) ?_
    refine EVT.cal (by kernel_rfl) (by kernel_rfl) (callOf_at (by kernel_rfl)) (by kernel_rfl) ?_
    refine EVT.p1 (aU64 v4.1) ?_
    refine EVT.p1 (aU64 v6.1) ?_
    refine EVT.pure (v := aU64 (v4.1.tmod v6.1)) (by kernel_rfl) (op_rem (x := v4.1) (y := v6.1) (by kernel_rfl) (by kernel_rfl) hg10) (by kernel_rfl) ?_
    refine EVT.cal (by kernel_rfl) (by kernel_rfl) (callOf_skip (fun _ h => by obtain e0 := integer_split_inj h; rw [show v13 = v11 from Option.some.inj (hc14.symm.trans ((show integer_split n (v4.1.tmod v6.1) = integer_split n (wrapF .u64 (v4.1.tdiv v6.1)) from (congr rfl e0)).trans hc12))]) (callOf_at (by kernel_rfl))) (by kernel_rfl) ?_
    refine EVT.p1 (sU32 v11) ?_
    refine EVT.p1 (sU32 v13) ?_
    refine EVT.done ⟨by kernel_rfl, ?_⟩
    refine CQ.ret ?_
    obtain rfl := Option.some.inj hr
    exact FinQ.ret (vs := [sU32 v11, sU32 v13]) (by kernel_rfl) (Sn.tup (SnL.cons (Sn.pure rfl) (SnL.cons (Sn.pure rfl) SnL.nil)))
   ·replace hr := cd_f hb9 hr
    refine CQ.skip ?_
    refine CQ.seq ?_
    refine CQ.seq ?_
    refine CQ.r0 fine ?_
    refine EVO.p1 (sU32 b) ?_
    refine EVO.p1 (aI64 (b.length : Int)) ?_
    refine EVO.p1 (aB (((b.length : Int) : Int) == 1)) ?_
    refine EVO.done ?_
    refine CQ.n1 [0, 1, 41] (mkS 59 0 [(0, sU32 a), (1, sU32 b), (41, aB (((b.length : Int) : Int) == 1))]) [] ?_
    refine CQ.cond (t := ((b.length : Int) : Int) == 1) (by kernel_rfl) (fun hb15 => ?_) (fun hb15 => ?_)
    ·replace hr := cd_t hb15 hr
     refine CQ.seq ?_
     replace hr := gd hr; obtain ⟨hg16, hr⟩ := hr
     replace hr := bd hr; obtain ⟨v17, hc18, hr⟩ := hr
     refine CQ.region fine (callOf_1 201 [sU32 a, aU32 (gt b 0)] [] (.loc (.tup [sU32 v17.1, aU32 v17.2]) [] [] 0) (callOk_ref (l := []) (args' := [sU32 a, aU32 (gt b 0)]) (SnL.cons (Sn.pure rfl) (SnL.cons (Sn.pure rfl) SnL.nil)) (integer_short_ok n a (gt b 0) v17 hc18))) ?_
     refine EVO.p1 (sU32 a) ?_
     refine EVO.p1 (sU32 b) ?_
     refine EVO.p0 (v := .pp (b.flatMap (iC .u32)) ((0 : Int).toNat * 1)) (Eq.trans (b := ORes.ofP (guardV (inR 0 b.length) (.pp (b.flatMap (iC .u32)) ((0 : Int).toNat * 1)))) (by kernel_rfl) (ofP_guard hg16)) ?_
     refine EVO.p0 (v := aU32 (gt b 0)) (Eq.trans (b := ORes.ofP ((b.flatMap (iC .u32))[(0 : Int).toNat * 1]?)) (by kernel_rfl) (ofP_some (flat_get (iC_len _) (inR_lt hg16) (by decide : 0 < 1) (by omega : (0 : Int).toNat * 1 = (0 : Int).toNat * 1 + 0) (by kernel_rfl)))) ?_
     refine EVO.c0 (by kernel_rfl) (callOf_at (by kernel_rfl)) ?_
     refine EVO.p1 (.tup [sU32 v17.1, aU32 v17.2]) ?_
     refine EVO.p1 (sU32 v17.1) ?_
     refine EVO.p1 (aU32 v17.2) ?_
     refine EVO.p1 (sU32 v17.1) ?_
     refine EVO.p1 (aU32 v17.2) ?_
     refine EVO.done ?_
     refine CQ.n1 [10, 11] (mkS 59 0 [(10, sU32 v17.1), (11, aU32 v17.2)]) [] ?_
     refine CQ.seq ?_
     replace hr := bd hr; obtain ⟨v19, hc20, hr⟩ := hr
     refine CQ.region fine (callOf_1 96 [aU64 (wrapF .u64 v17.2)] [] (.loc (sU32 v19) [] [] 0) (callOk_ref (l := []) (args' := [aU64 (wrapF .u64 v17.2)]) (SnL.cons (Sn.pure rfl) SnL.nil) (integer_split_ok n (wrapF .u64 v17.2) v19 hc20))) ?_
     refine EVO.p1 (sU32 v17.1) ?_
     refine EVO.p1 (aU32 v17.2) ?_
     refine EVO.p1 (aU64 (wrapF .u64 v17.2)) ?_
     refine EVO.c0 (by kernel_rfl) (callOf_at (by kernel_rfl)) ?_
     refine EVO.p1 (sU32 v17.1) ?_
     refine EVO.p1 (sU32 v19) ?_
     refine EVO.done ?_
     refine CQ.ret ?_
     obtain rfl := Option.some.inj hr
     exact FinQ.ret (vs := [sU32 v17.1, sU32 v19]) (by kernel_rfl) (Sn.tup (SnL.cons (Sn.pure rfl) (SnL.cons (Sn.pure rfl) SnL.nil)))
    ·replace hr := cd_f hb15 hr
     refine CQ.skip ?_
     refine CQ.seq ?_
     replace hr := bd hr; obtain ⟨v21, hc22, hr⟩ := hr
     refine CQ.region fine (callOf_1 202 [sU32 a, sU32 b] [] (.loc (.tup [sU32 v21.1, sU32 v21.2]) [] [] 0) (callOk_ref (l := []) (args' := [sU32 a, sU32 b]) (SnL.cons (Sn.pure rfl) (SnL.cons (Sn.pure rfl) SnL.nil)) (integer_long_ok n a b v21 hc22))) ?_
     refine EVO.p1 (sU32 a) ?_
     refine EVO.p1 (sU32 b) ?_
     refine EVO.c0 (by kernel_rfl) (callOf_at (by kernel_rfl)) ?_
     refine EVO.p1 (sU32 v21.1) ?_
     refine EVO.p1 (sU32 v21.2) ?_
     refine EVO.p1 (sU32 v21.1) ?_
     refine EVO.p1 (sU32 v21.2) ?_
     refine EVO.done ?_
     refine CQ.ret ?_
     obtain rfl := Option.some.inj hr
     exact FinQ.ret (vs := [sU32 v21.1, sU32 v21.2]) (by kernel_rfl) (Sn.tup (SnL.cons (Sn.pure rfl) (SnL.cons (Sn.pure rfl) SnL.nil)))
  ·replace hr := cd_f hb8 hr
   refine CQ.r0 fine ?_
   refine EVO.p0 (v := aB false) (Eq.trans (b := some (.pure (aB v4.2))) (by kernel_rfl) (by rw [hb8])) ?_
   refine EVO.p1 (aB false) ?_
   refine EVO.s1 ?_
   refine EVO.p1 (aB false) ?_
   refine EVO.done ?_
   refine CQ.n1 [0, 1, 6, 8, 30] (mkS 59 0 [(0, sU32 a), (1, sU32 b), (6, aU64 v4.1), (8, aU64 v6.1), (30, aB false)]) [] ?_
   refine CQ.cF (by kernel_rfl) ?_
   refine CQ.skip ?_
   refine CQ.seq ?_
   refine CQ.seq ?_
   refine CQ.r0 fine ?_
   refine EVO.p1 (sU32 b) ?_
   refine EVO.p1 (aI64 (b.length : Int)) ?_
   refine EVO.p1 (aB (((b.length : Int) : Int) == 1)) ?_
   refine EVO.done ?_
   refine CQ.n1 [0, 1, 41] (mkS 59 0 [(0, sU32 a), (1, sU32 b), (41, aB (((b.length : Int) : Int) == 1))]) [] ?_
   refine CQ.cond (t := ((b.length : Int) : Int) == 1) (by kernel_rfl) (fun hb23 => ?_) (fun hb23 => ?_)
   ·replace hr := cd_t hb23 hr
    refine CQ.seq ?_
    replace hr := gd hr; obtain ⟨hg24, hr⟩ := hr
    replace hr := bd hr; obtain ⟨v25, hc26, hr⟩ := hr
    refine CQ.region fine (callOf_1 201 [sU32 a, aU32 (gt b 0)] [] (.loc (.tup [sU32 v25.1, aU32 v25.2]) [] [] 0) (callOk_ref (l := []) (args' := [sU32 a, aU32 (gt b 0)]) (SnL.cons (Sn.pure rfl) (SnL.cons (Sn.pure rfl) SnL.nil)) (integer_short_ok n a (gt b 0) v25 hc26))) ?_
    refine EVO.p1 (sU32 a) ?_
    refine EVO.p1 (sU32 b) ?_
    refine EVO.p0 (v := .pp (b.flatMap (iC .u32)) ((0 : Int).toNat * 1)) (Eq.trans (b := ORes.ofP (guardV (inR 0 b.length) (.pp (b.flatMap (iC .u32)) ((0 : Int).toNat * 1)))) (by kernel_rfl) (ofP_guard hg24)) ?_
    refine EVO.p0 (v := aU32 (gt b 0)) (Eq.trans (b := ORes.ofP ((b.flatMap (iC .u32))[(0 : Int).toNat * 1]?)) (by kernel_rfl) (ofP_some (flat_get (iC_len _) (inR_lt hg24) (by decide : 0 < 1) (by omega : (0 : Int).toNat * 1 = (0 : Int).toNat * 1 + 0) (by kernel_rfl)))) ?_
    refine EVO.c0 (by kernel_rfl) (callOf_at (by kernel_rfl)) ?_
    refine EVO.p1 (.tup [sU32 v25.1, aU32 v25.2]) ?_
    refine EVO.p1 (sU32 v25.1) ?_
    refine EVO.p1 (aU32 v25.2) ?_
    refine EVO.p1 (sU32 v25.1) ?_
    refine EVO.p1 (aU32 v25.2) ?_
    refine EVO.done ?_
    refine CQ.n1 [10, 11] (mkS 59 0 [(10, sU32 v25.1), (11, aU32 v25.2)]) [] ?_
    refine CQ.seq ?_
    replace hr := bd hr; obtain ⟨v27, hc28, hr⟩ := hr
    refine CQ.region fine (callOf_1 96 [aU64 (wrapF .u64 v25.2)] [] (.loc (sU32 v27) [] [] 0) (callOk_ref (l := []) (args' := [aU64 (wrapF .u64 v25.2)]) (SnL.cons (Sn.pure rfl) SnL.nil) (integer_split_ok n (wrapF .u64 v25.2) v27 hc28))) ?_
    refine EVO.p1 (sU32 v25.1) ?_
    refine EVO.p1 (aU32 v25.2) ?_
    refine EVO.p1 (aU64 (wrapF .u64 v25.2)) ?_
    refine EVO.c0 (by kernel_rfl) (callOf_at (by kernel_rfl)) ?_
    refine EVO.p1 (sU32 v25.1) ?_
    refine EVO.p1 (sU32 v27) ?_
    refine EVO.done ?_
    refine CQ.ret ?_
    obtain rfl := Option.some.inj hr
    exact FinQ.ret (vs := [sU32 v25.1, sU32 v27]) (by kernel_rfl) (Sn.tup (SnL.cons (Sn.pure rfl) (SnL.cons (Sn.pure rfl) SnL.nil)))
   ·replace hr := cd_f hb23 hr
    refine CQ.skip ?_
    refine CQ.seq ?_
    replace hr := bd hr; obtain ⟨v29, hc30, hr⟩ := hr
    refine CQ.region fine (callOf_1 202 [sU32 a, sU32 b] [] (.loc (.tup [sU32 v29.1, sU32 v29.2]) [] [] 0) (callOk_ref (l := []) (args' := [sU32 a, sU32 b]) (SnL.cons (Sn.pure rfl) (SnL.cons (Sn.pure rfl) SnL.nil)) (integer_long_ok n a b v29 hc30))) ?_
    refine EVO.p1 (sU32 a) ?_
    refine EVO.p1 (sU32 b) ?_
    refine EVO.c0 (by kernel_rfl) (callOf_at (by kernel_rfl)) ?_
    refine EVO.p1 (sU32 v29.1) ?_
    refine EVO.p1 (sU32 v29.2) ?_
    refine EVO.p1 (sU32 v29.1) ?_
    refine EVO.p1 (sU32 v29.2) ?_
    refine EVO.done ?_
    refine CQ.ret ?_
    obtain rfl := Option.some.inj hr
    exact FinQ.ret (vs := [sU32 v29.1, sU32 v29.2]) (by kernel_rfl) (Sn.tup (SnL.cons (Sn.pure rfl) (SnL.cons (Sn.pure rfl) SnL.nil)))

theorem integer_Gcd_ok (n : Nat) (x' : api_Int) (y : api_Int) (r : api_Int) (hr : integer_Gcd n x' y = some r) : FnOk Tryz.prog 134 [.agg [.at (.bool x'.Negative), slT (iC .u32) x'.Groups], .agg [.at (.bool y.Negative), slT (iC .u32) y.Groups]] (.agg [.at (.bool r.Negative), slT (iC .u32) r.Groups]) := by
 unfold integer_Gcd at hr
 refine FnOk.body fine Tryz.func134 (c := (Tryz.f134.body).getD .skip) rfl (s := mkS 54 0 [(0, .agg (api_Int.c x')), (1, .agg (api_Int.c y))]) (by kernel_rfl) (rs := [.cell 4 37]) rfl ?_
 unfold Tryz.f134
 simp only [Option.getD_some]
 refine CQ.seq ?_
 refine CQ.r0 fine ?_
 refine EVO.e1 (.hp 0 0) [(0, .own (api_Int.c x'))] ?_
 refine EVO.e1 (.hp 1 0) [(1, .own (api_Int.c y))] ?_
 refine EVO.e1 (.hp 2 0) [(2, .own [aB false, .at (.slice none 0 0)])] ?_
 refine EVO.done ?_
 refine CQ.n1 [2, 3, 4] (mkS 54 0 [(2, .hp 0 0), (3, .hp 1 0), (4, .hp 2 0)]) [.own (api_Int.c x'), .own (api_Int.c y), .own [aB false, .at (.slice none 0 0)]] ?_
 refine CQ.seq ?_
 replace hr := bd hr; obtain ⟨v1, hc2, hr⟩ := hr
 replace hr := bd hr; obtain ⟨v3, hc4, hr⟩ := hr
 refine CQ.regionT fine (callOf_ok [{ f := 100, args := [.agg (api_Int.c x')], H := [.own (api_Int.c x'), .own (api_Int.c y), .own [aB false, .at (.slice none 0 0)]], r := .loc (sU32 v1) [] [] 0 : CE }, { f := 100, args := [.agg (api_Int.c y)], H := [.own (api_Int.c x'), .own (api_Int.c y), .own [aB false, .at (.slice none 0 0)]], r := .loc (sU32 v3) [] [] 0 : CE }] (List.forall_mem_cons.2 ⟨(callOk_ref (l := []) (args' := [.agg (api_Int.c x')]) (SnL.cons (Sn.pure rfl) SnL.nil) (integer_groups_ok n x' v1 hc2)), (List.forall_mem_cons.2 ⟨(callOk_ref (l := []) (args' := [.agg (api_Int.c y)]) (SnL.cons (Sn.pure rfl) SnL.nil) (integer_groups_ok n y v3 hc4)), ce0⟩)⟩)) ?_
 refine EVT.p1 (.agg (api_Int.c x')) ?_
 refine EVT.cal (by kernel_rfl) (by kernel_rfl) (callOf_at (by kernel_rfl)) (by kernel_rfl) ?_
 refine EVT.p1 (.agg (api_Int.c y)) ?_
 refine EVT.cal (by kernel_rfl) (by kernel_rfl) (callOf_skip (fun _ h => by obtain e0 := integer_groups_inj h; rw [show v3 = v1 from Option.some.inj (hc4.symm.trans ((show integer_groups n y = integer_groups n x' from (congr rfl e0)).trans hc2))]) (callOf_at (by kernel_rfl))) (by kernel_rfl) ?_
 refine EVT.p1 (sU32 v1) ?_
 refine EVT.p1 (sU32 v3) ?_
 refine EVT.done ⟨by kernel_rfl, ?_⟩
 refine CQ.n1 [4, 5, 6] (mkS 54 0 [(4, .hp 2 0), (5, sU32 v1), (6, sU32 v3)]) [.own (api_Int.c x'), .own (api_Int.c y), .own [aB false, .at (.slice none 0 0)]] ?_
 refine CQ.seq ?_
 refine CQ.block ?_
 replace hr := bd hr; obtain ⟨o61, hL62, hr⟩ := hr
 refine CQ.loopO (σ := fun z0 => match z0 with | (a_5, b_6) => ⟨mkS 54 0 [(4, .hp 0 0), (5, sU32 a_5), (6, sU32 b_6)], [.own [aB false, .at (.slice none 0 0)]]⟩) (Q := fun x st' => match (generalizing := false) o61 with | .inl a_33 => x = .exit 0 ∧ Wk 0 st' ⟨mkS 54 0 [(4, .hp 0 0), (5, sU32 a_33)], [.own [aB false, .at (.slice none 0 0)]]⟩ | .inr (r0) => x = .ret ∧ FinQ Tryz.prog [.cell 4 37] (.agg (api_Int.c r0)) .ret st') hL62 ((Wk.gc [4, 5, 6] [(2, true)] rfl trivial).to (by kernel_rfl)) ?_ ?_
 ·clear hr
  rintro m ⟨a_5, b_6⟩ hr
  show CQ _ _ _ _ _ ⟨_, _⟩
  refine CQ.seq ?_
  refine CQ.seq ?_
  refine CQ.r0 fine ?_
  refine EVO.p1 (sU32 b_6) ?_
  refine EVO.p1 (aI64 (b_6.length : Int)) ?_
  refine EVO.p1 (aB (decide ((b_6.length : Int) > 0))) ?_
  refine EVO.done ?_
  refine CQ.n1 [4, 5, 6, 19] (mkS 54 0 [(4, .hp 0 0), (5, sU32 a_5), (6, sU32 b_6), (19, aB (decide ((b_6.length : Int) > 0)))]) [.own [aB false, .at (.slice none 0 0)]] ?_
  refine CQ.cond (t := decide ((b_6.length : Int) > 0)) (by kernel_rfl) (fun hb35 => ?_) (fun hb35 => ?_)
  ·replace hr := cd_t hb35 hr
   refine CQ.skip ?_
   refine CQ.block ?_
   refine CQ.seq ?_
   replace hr := bd hr; obtain ⟨v36, hc37, hr⟩ := hr
   refine CQ.region fine (callOf_1 178 [sU32 a_5] [.own [aB false, .at (.slice none 0 0)]] (.loc (.tup [aU64 v36.1, aB v36.2]) [] [] 0) (callOk_val (l := []) (args' := [sU32 a_5]) rfl (SnL.cons (Sn.pure rfl) SnL.nil) (integer_word_ok n a_5 v36 hc37))) ?_
   refine EVO.p1 (sU32 a_5) ?_
   refine EVO.c0 (by kernel_rfl) (callOf_at (by kernel_rfl)) ?_
   refine EVO.p1 (.tup [aU64 v36.1, aB v36.2]) ?_
   refine EVO.p1 (aU64 v36.1) ?_
   refine EVO.p1 (aB v36.2) ?_
   refine EVO.p1 (aU64 v36.1) ?_
   refine EVO.p1 (aB v36.2) ?_
   refine EVO.done ?_
   refine CQ.n1 [4, 5, 6, 7, 8] (mkS 54 0 [(4, .hp 0 0), (5, sU32 a_5), (6, sU32 b_6), (7, aU64 v36.1), (8, aB v36.2)]) [.own [aB false, .at (.slice none 0 0)]] ?_
   refine CQ.seq ?_
   replace hr := bd hr; obtain ⟨v38, hc39, hr⟩ := hr
   refine CQ.region fine (callOf_1 178 [sU32 b_6] [.own [aB false, .at (.slice none 0 0)]] (.loc (.tup [aU64 v38.1, aB v38.2]) [] [] 0) (callOk_val (l := []) (args' := [sU32 b_6]) rfl (SnL.cons (Sn.pure rfl) SnL.nil) (integer_word_ok n b_6 v38 hc39))) ?_
   refine EVO.p1 (sU32 b_6) ?_
   refine EVO.c0 (by kernel_rfl) (callOf_at (by kernel_rfl)) ?_
   refine EVO.p1 (.tup [aU64 v38.1, aB v38.2]) ?_
   refine EVO.p1 (aU64 v38.1) ?_
   refine EVO.p1 (aB v38.2) ?_
   refine EVO.p1 (aU64 v38.1) ?_
   refine EVO.p1 (aB v38.2) ?_
   refine EVO.done ?_
   refine CQ.n1 [4, 5, 6, 7, 8, 9, 10] (mkS 54 0 [(4, .hp 0 0), (5, sU32 a_5), (6, sU32 b_6), (7, aU64 v36.1), (8, aB v36.2), (9, aU64 v38.1), (10, aB v38.2)]) [.own [aB false, .at (.slice none 0 0)]] ?_
   refine CQ.seq ?_
   refine CQ.seq ?_
   rcases Bool.eq_false_or_eq_true v36.2 with hb40 | hb40
   ·replace hr := cd_t hb40 hr
    refine CQ.r0 fine ?_
    refine EVO.p0 (v := aB true) (Eq.trans (b := some (.pure (aB v36.2))) (by kernel_rfl) (by rw [hb40])) ?_
    refine EVO.p1 (aB true) ?_
    refine EVO.q1 (aB v38.2) ?_
    refine EVO.p1 (aB v38.2) ?_
    refine EVO.done ?_
    refine CQ.n1 [4, 5, 6, 7, 9, 33] (mkS 54 0 [(4, .hp 0 0), (5, sU32 a_5), (6, sU32 b_6), (7, aU64 v36.1), (9, aU64 v38.1), (33, aB v38.2)]) [.own [aB false, .at (.slice none 0 0)]] ?_
    refine CQ.cond (t := v38.2) (by kernel_rfl) (fun hb41 => ?_) (fun hb41 => ?_)
    ·replace hr := cd_t hb41 hr
     refine CQ.seq ?_
     refine CQ.block ?_
     replace hr := bd hr; obtain ⟨m_46, hL51, hr⟩ := hr
     refine CQ.loopO (σ := fun z0 => match z0 with | (m_42, n_43) => ⟨mkS 54 0 [(4, .hp 0 0), (7, aU64 m_42), (9, aU64 n_43)], [.own [aB false, .at (.slice none 0 0)]]⟩) (Q := fun x st' => x = .exit 2 ∧ Wk 0 st' ⟨mkS 54 0 [(4, .hp 0 0), (7, aU64 m_46)], [.own [aB false, .at (.slice none 0 0)]]⟩) hL51 ((Wk.gc [4, 7, 9] [(0, true)] rfl trivial).to (by kernel_rfl)) ?_ ?_
     ·clear hr
      rintro m ⟨m_42, n_43⟩ hr
      show CQ _ _ _ _ _ ⟨_, _⟩
      refine CQ.seq ?_
      refine CQ.seq ?_
      refine CQ.r0 fine ?_
      refine EVO.p1 (aU64 n_43) ?_
      refine EVO.p1 (aB (decide (n_43 > 0))) ?_
      refine EVO.done ?_
      refine CQ.n1 [4, 7, 9, 35] (mkS 54 0 [(4, .hp 0 0), (7, aU64 m_42), (9, aU64 n_43), (35, aB (decide (n_43 > 0)))]) [.own [aB false, .at (.slice none 0 0)]] ?_
      refine CQ.cond (t := decide (n_43 > 0)) (by kernel_rfl) (fun hb48 => ?_) (fun hb48 => ?_)
      ·replace hr := cd_t hb48 hr
       refine CQ.skip ?_
       refine CQ.block ?_
       replace hr := gd hr; obtain ⟨hg49, hr⟩ := hr
       refine CQ.regionT fine callOf_nil ?_
       refine EVT.p1 (aU64 n_43) ?_
       refine EVT.p1 (aU64 m_42) ?_
       refine EVT.p1 (aU64 n_43) ?_
       refine EVT.pure (v := aU64 (m_42.tmod n_43)) (by kernel_rfl) (op_rem (x := m_42) (y := n_43) (by kernel_rfl) (by kernel_rfl) hg49) (by kernel_rfl) ?_
       refine EVT.p1 (aU64 n_43) ?_
       refine EVT.p1 (aU64 (m_42.tmod n_43)) ?_
       refine EVT.done ⟨by kernel_rfl, ?_⟩
       refine CQ.pop ?_
       exact loopF_back (n_43, m_42.tmod n_43) hr ((Wk.gc [4, 7, 9] [(0, true)] rfl trivial).to (by kernel_rfl))
      ·replace hr := cd_f hb48 hr
       refine CQ.leave rfl ?_
       obtain rfl := Option.some.inj hr
       exact ⟨rfl, ((Wk.gc [4, 7] [(0, true)] rfl trivial).to (by kernel_rfl))⟩
     ·rintro x st' hq52
      clear hL51
      obtain ⟨rfl, hq52⟩ := hq52
      refine CQ_exit _ rfl ?_
      refine CQ.wk hq52 ?_
      refine CQ.seq ?_
      replace hr := bd hr; obtain ⟨v53, hc54, hr⟩ := hr
      replace hr := bd hr; obtain ⟨v55, hc56, hr⟩ := hr
      refine CQ.region fine (callOf_ok [{ f := 96, args := [aU64 m_46], H := [.own [aB false, .at (.slice none 0 0)]], r := .loc (sU32 v53) [] [] 0 : CE }, { f := 95, args := [aB false, sU32 v53], H := [.own [aB false, .at (.slice none 0 0)]], r := .loc (.agg (api_Int.c v55)) [] [] 0 : CE }] (List.forall_mem_cons.2 ⟨(callOk_ref (l := []) (args' := [aU64 m_46]) (SnL.cons (Sn.pure rfl) SnL.nil) (integer_split_ok n m_46 v53 hc54)), (List.forall_mem_cons.2 ⟨(callOk_ref (l := []) (args' := [aB false, sU32 v53]) (SnL.cons (Sn.pure rfl) (SnL.cons (Sn.pure rfl) SnL.nil)) (integer_made_ok n false v53 v55 hc56)), ce0⟩)⟩)) ?_
      refine EVO.p1 (aU64 m_46) ?_
      refine EVO.c0 (by kernel_rfl) (callOf_at (by kernel_rfl)) ?_
      refine EVO.c0 (by kernel_rfl) (callOf_skip (fun h _ => absurd (show (95 : Nat) = 96 from h) (by decide)) (callOf_at (by kernel_rfl))) ?_
      refine EVO.e1 (.unk) [(0, .own (api_Int.c v55))] ?_
      refine EVO.done ?_
      refine CQ.ret ?_
      obtain rfl := Option.some.inj hr
      exact ⟨rfl, FinQ.ret (vs := [.agg (api_Int.c v55)]) (by kernel_rfl) (Sn.pure rfl)⟩
    ·replace hr := cd_f hb41 hr
     refine CQ.skip ?_
     refine CQ.seq ?_
     replace hr := bd hr; obtain ⟨v57, hc58, hr⟩ := hr
     refine CQ.region fine (callOf_1 179 [sU32 a_5, sU32 b_6] [.own [aB false, .at (.slice none 0 0)]] (.loc (.tup [sU32 v57.1, sU32 v57.2]) [] [] 0) (callOk_ref (l := []) (args' := [sU32 a_5, sU32 b_6]) (SnL.cons (Sn.pure rfl) (SnL.cons (Sn.pure rfl) SnL.nil)) (integer_over_ok n a_5 b_6 v57 hc58))) ?_
     refine EVO.p1 (sU32 a_5) ?_
     refine EVO.p1 (sU32 b_6) ?_
     refine EVO.c0 (by kernel_rfl) (callOf_at (by kernel_rfl)) ?_
     refine EVO.p1 (.tup [sU32 v57.1, sU32 v57.2]) ?_
     refine EVO.p1 (sU32 v57.1) ?_
     refine EVO.p1 (sU32 v57.2) ?_
     refine EVO.p1 (sU32 v57.1) ?_
     refine EVO.p1 (sU32 v57.2) ?_
     refine EVO.done ?_
     refine CQ.n1 [4, 6, 12] (mkS 54 0 [(4, .hp 0 0), (6, sU32 b_6), (12, sU32 v57.2)]) [.own [aB false, .at (.slice none 0 0)]] ?_
     refine CQ.r0 fine ?_
     refine EVO.p1 (sU32 b_6) ?_
     refine EVO.p1 (sU32 v57.2) ?_
     refine EVO.p1 (sU32 b_6) ?_
     refine EVO.p1 (sU32 v57.2) ?_
     refine EVO.done ?_
     refine CQ.pop ?_
     exact loopF_back (b_6, v57.2) hr ((Wk.gc [4, 5, 6] [(0, true)] rfl trivial).to (by kernel_rfl))
   ·replace hr := cd_f hb40 hr
    refine CQ.r0 fine ?_
    refine EVO.p0 (v := aB false) (Eq.trans (b := some (.pure (aB v36.2))) (by kernel_rfl) (by rw [hb40])) ?_
    refine EVO.p1 (aB false) ?_
    refine EVO.s1 ?_
    refine EVO.p1 (aB false) ?_
    refine EVO.done ?_
    refine CQ.n1 [4, 5, 6, 7, 9, 33] (mkS 54 0 [(4, .hp 0 0), (5, sU32 a_5), (6, sU32 b_6), (7, aU64 v36.1), (9, aU64 v38.1), (33, aB false)]) [.own [aB false, .at (.slice none 0 0)]] ?_
    refine CQ.cF (by kernel_rfl) ?_
    refine CQ.skip ?_
    refine CQ.seq ?_
    replace hr := bd hr; obtain ⟨v59, hc60, hr⟩ := hr
    refine CQ.region fine (callOf_1 179 [sU32 a_5, sU32 b_6] [.own [aB false, .at (.slice none 0 0)]] (.loc (.tup [sU32 v59.1, sU32 v59.2]) [] [] 0) (callOk_ref (l := []) (args' := [sU32 a_5, sU32 b_6]) (SnL.cons (Sn.pure rfl) (SnL.cons (Sn.pure rfl) SnL.nil)) (integer_over_ok n a_5 b_6 v59 hc60))) ?_
    refine EVO.p1 (sU32 a_5) ?_
    refine EVO.p1 (sU32 b_6) ?_
    refine EVO.c0 (by kernel_rfl) (callOf_at (by kernel_rfl)) ?_
    refine EVO.p1 (.tup [sU32 v59.1, sU32 v59.2]) ?_
    refine EVO.p1 (sU32 v59.1) ?_
    refine EVO.p1 (sU32 v59.2) ?_
    refine EVO.p1 (sU32 v59.1) ?_
    refine EVO.p1 (sU32 v59.2) ?_
    refine EVO.done ?_
    refine CQ.n1 [4, 6, 12] (mkS 54 0 [(4, .hp 0 0), (6, sU32 b_6), (12, sU32 v59.2)]) [.own [aB false, .at (.slice none 0 0)]] ?_
    refine CQ.r0 fine ?_
    refine EVO.p1 (sU32 b_6) ?_
    refine EVO.p1 (sU32 v59.2) ?_
    refine EVO.p1 (sU32 b_6) ?_
    refine EVO.p1 (sU32 v59.2) ?_
    refine EVO.done ?_
    refine CQ.pop ?_
    exact loopF_back (b_6, v59.2) hr ((Wk.gc [4, 5, 6] [(0, true)] rfl trivial).to (by kernel_rfl))
  ·replace hr := cd_f hb35 hr
   refine CQ.leave rfl ?_
   obtain rfl := Option.some.inj hr
   exact ⟨rfl, ((Wk.gc [4, 5] [(0, true)] rfl trivial).to (by kernel_rfl))⟩
 ·rcases o61 with a_33 | r0
  ·rintro x st' hq63
   clear hL62
   obtain ⟨rfl, hq63⟩ := hq63
   refine CQ_exit _ rfl ?_
   refine CQ.wk hq63 ?_
   refine CQ.seq ?_
   replace hr := bd hr; obtain ⟨v64, hc65, hr⟩ := hr
   replace hr := bd hr; obtain ⟨v66, hc67, hr⟩ := hr
   refine CQ.region fine (callOf_ok [{ f := 177, args := [sU32 a_33], H := [.own [aB false, .at (.slice none 0 0)]], r := .loc (sU32 v64) [] [] 0 : CE }, { f := 95, args := [aB false, sU32 v64], H := [.own [aB false, .at (.slice none 0 0)]], r := .loc (.agg (api_Int.c v66)) [] [] 0 : CE }] (List.forall_mem_cons.2 ⟨(callOk_ref (l := []) (args' := [sU32 a_33]) (SnL.cons (Sn.pure rfl) SnL.nil) (slices_Clone_uint32_uint32_ok n a_33 v64 hc65)), (List.forall_mem_cons.2 ⟨(callOk_ref (l := []) (args' := [aB false, sU32 v64]) (SnL.cons (Sn.pure rfl) (SnL.cons (Sn.pure rfl) SnL.nil)) (integer_made_ok n false v64 v66 hc67)), ce0⟩)⟩)) ?_
   refine EVO.p1 (sU32 a_33) ?_
   refine EVO.c0 (by kernel_rfl) (callOf_at (by kernel_rfl)) ?_
   refine EVO.c0 (by kernel_rfl) (callOf_skip (fun h _ => absurd (show (95 : Nat) = 177 from h) (by decide)) (callOf_at (by kernel_rfl))) ?_
   refine EVO.e1 (.unk) [(0, .own (api_Int.c v66))] ?_
   refine EVO.done ?_
   refine CQ.ret ?_
   obtain rfl := Option.some.inj hr
   exact FinQ.r1 [.agg (api_Int.c v66)]
  ·rintro x st' hq63
   clear hL62
   obtain ⟨rfl, hq63⟩ := hq63
   obtain rfl := Option.some.inj hr
   exact CQ_ret _ hq63

theorem integer_at_inj {g : List Int} {i : Int} {g_ : List Int} {i_ : Int} (h : ([slT (iC .u32) g, .at (.int .i64 i)] : List AV) = [slT (iC .u32) g_, .at (.int .i64 i_)]) : g = g_ ∧ i = i_ := by
 simp only [List.cons.injEq, AV.agg.injEq, AV.at.injEq, Value.int.injEq, Value.bool.injEq, AV.fn.injEq, AV.pp.injEq, true_and, and_true, slT_inj_int] at h
 simp_all
theorem integer_at_ok (n : Nat) (g : List Int) (i : Int) (r : Int) (hr : integer_at n g i = some r) : FnOk Tryz.prog 197 [slT (iC .u32) g, .at (.int .i64 i)] (.at (.int .u32 r)) := by
 unfold integer_at at hr
 refine FnOk.body fine Tryz.func197 (c := (Tryz.f197.body).getD .skip) rfl (s := mkS 13 0 [(0, sU32 g), (1, aI64 i)]) (by kernel_rfl) (rs := [.tmp 4]) rfl ?_
 unfold Tryz.f197
 simp only [Option.getD_some]
 refine CQ.seq ?_
 refine CQ.r0 fine ?_
 refine EVO.p1 (aU32 0) ?_
 refine EVO.done ?_
 refine CQ.n1 [0, 1] (mkS 13 0 [(0, sU32 g), (1, aI64 i)]) [] ?_
 refine CQ.seq ?_
 refine CQ.seq ?_
 refine CQ.r0 fine ?_
 refine EVO.p1 (aI64 i) ?_
 refine EVO.p1 (sU32 g) ?_
 refine EVO.p1 (aI64 (g.length : Int)) ?_
 refine EVO.p1 (aB (decide (i < (g.length : Int)))) ?_
 refine EVO.done ?_
 refine CQ.n1 [0, 1, 8] (mkS 13 0 [(0, sU32 g), (1, aI64 i), (8, aB (decide (i < (g.length : Int))))]) [] ?_
 refine CQ.cond (t := decide (i < (g.length : Int))) (by kernel_rfl) (fun hb1 => ?_) (fun hb1 => ?_)
 ·replace hr := cd_t hb1 hr
  refine CQ.seq ?_
  replace hr := gd hr; obtain ⟨hg2, hr⟩ := hr
  refine CQ.r0 fine ?_
  refine EVO.p1 (sU32 g) ?_
  refine EVO.p1 (aI64 i) ?_
  refine EVO.p0 (v := .pp (g.flatMap (iC .u32)) (i.toNat * 1)) (Eq.trans (b := ORes.ofP (guardV (inR i g.length) (.pp (g.flatMap (iC .u32)) (i.toNat * 1)))) (by kernel_rfl) (ofP_guard hg2)) ?_
  refine EVO.p0 (v := aU32 (gt g i)) (Eq.trans (b := ORes.ofP ((g.flatMap (iC .u32))[i.toNat * 1]?)) (by kernel_rfl) (ofP_some (flat_get (iC_len _) (inR_lt hg2) (by decide : 0 < 1) (by omega : i.toNat * 1 = i.toNat * 1 + 0) (by kernel_rfl)))) ?_
  refine EVO.p1 (aU32 (gt g i)) ?_
  refine EVO.done ?_
  refine CQ.ret ?_
  obtain rfl := Option.some.inj hr
  exact FinQ.r1 [aU32 (gt g i)]
 ·replace hr := cd_f hb1 hr
  refine CQ.skip ?_
  refine CQ.seq ?_
  refine CQ.r0 fine ?_
  refine EVO.p1 (aU32 0) ?_
  refine EVO.done ?_
  refine CQ.ret ?_
  obtain rfl := Option.some.inj hr
  exact FinQ.r1 [aU32 0]

theorem integer_plus_ok (n : Nat) (a : List Int) (b : List Int) (r : List Int) (hr : integer_plus n a b = some r) : FnOk Tryz.prog 171 [slT (iC .u32) a, slT (iC .u32) b] (slT (iC .u32) r) := by
 unfold integer_plus at hr
 refine FnOk.body fine Tryz.func171 (c := (Tryz.f171.body).getD .skip) rfl (s := mkS 41 0 [(0, sU32 a), (1, sU32 b)]) (by kernel_rfl) (rs := [.tmp 4]) rfl ?_
 unfold Tryz.f171
 simp only [Option.getD_some]
 refine CQ.seq ?_
 refine CQ.r0 fine ?_
 refine EVO.p1 (.at (.slice none 0 0)) ?_
 refine EVO.done ?_
 refine CQ.n1 [0, 1] (mkS 41 0 [(0, sU32 a), (1, sU32 b)]) [] ?_
 refine CQ.seq ?_
 replace hr := gd hr; obtain ⟨hg1, hr⟩ := hr
 replace hr := gd hr; obtain ⟨hg2, hr⟩ := hr
 replace hr := gd hr; obtain ⟨hg3, hr⟩ := hr
 refine CQ.r0 fine ?_
 refine EVO.p1 (sU32 a) ?_
 refine EVO.p1 (aI64 (a.length : Int)) ?_
 refine EVO.p1 (sU32 b) ?_
 refine EVO.p1 (aI64 (b.length : Int)) ?_
 refine EVO.p1 (aI64 (mx (a.length : Int) (b.length : Int))) ?_
 refine EVO.p1 (aI64 (wrapF .i64 ((mx (a.length : Int) (b.length : Int)) + 1))) ?_
 refine EVO.e0 (v := .hs 0 0 (List.replicate (wrapF .i64 ((mx (a.length : Int) (b.length : Int)) + 1)).toNat (0 : Int)).length 1) (ws := [(0, .own ((List.replicate (wrapF .i64 ((mx (a.length : Int) (b.length : Int)) + 1)).toNat (0 : Int)).flatMap (iC .u32)))]) (Eq.trans (b := guardO (decide (0 ≤ (wrapF .i64 ((mx (a.length : Int) (b.length : Int)) + 1))) && decide ((wrapF .i64 ((mx (a.length : Int) (b.length : Int)) + 1)) ≤ (wrapF .i64 ((mx (a.length : Int) (b.length : Int)) + 1))) && decide ((4 : Int) * (wrapF .i64 ((mx (a.length : Int) (b.length : Int)) + 1)) ≤ 281474976710656) && decide ((wrapF .i64 ((mx (a.length : Int) (b.length : Int)) + 1)) ≤ 9223372036854775807) && true && true && true) (some (.eff (.hs 0 0 (wrapF .i64 ((mx (a.length : Int) (b.length : Int)) + 1)).toNat 1) [(0, .own (zerosA [aU32 0] (wrapF .i64 ((mx (a.length : Int) (b.length : Int)) + 1)).toNat))]))) (by kernel_rfl) (make_own (c := (iC .u32)) (z := 0) rfl hg1 hg2 hg3)) ?_
 refine EVO.p1 (.hs 0 0 (List.replicate (wrapF .i64 ((mx (a.length : Int) (b.length : Int)) + 1)).toNat (0 : Int)).length 1) ?_
 refine EVO.done ?_
 refine CQ.n1 [0, 1, 5] (mkS 41 0 [(0, sU32 a), (1, sU32 b), (5, .hs 0 0 (List.replicate (wrapF .i64 ((mx (a.length : Int) (b.length : Int)) + 1)).toNat (0 : Int)).length 1)]) [.own ((List.replicate (wrapF .i64 ((mx (a.length : Int) (b.length : Int)) + 1)).toNat (0 : Int)).flatMap (iC .u32))] ?_
 refine CQ.seq ?_
 refine CQ.r0 fine ?_
 refine EVO.p1 (aU32 0) ?_
 refine EVO.done ?_
 refine CQ.seq ?_
 refine CQ.seq ?_
 refine CQ.r0 fine ?_
 refine EVO.p1 (.hs 0 0 (List.replicate (wrapF .i64 ((mx (a.length : Int) (b.length : Int)) + 1)).toNat (0 : Int)).length 1) ?_
 refine EVO.p1 (aI64 ((List.replicate (wrapF .i64 ((mx (a.length : Int) (b.length : Int)) + 1)).toNat (0 : Int)).length : Int)) ?_
 refine EVO.p1 (aI64 0) ?_
 refine EVO.done ?_
 refine CQ.n1 [0, 1, 5, 6, 17, 18] (mkS 41 0 [(0, sU32 a), (1, sU32 b), (5, .hs 0 0 (List.replicate (wrapF .i64 ((mx (a.length : Int) (b.length : Int)) + 1)).toNat (0 : Int)).length 1), (6, aU32 0), (17, aI64 ((List.replicate (wrapF .i64 ((mx (a.length : Int) (b.length : Int)) + 1)).toNat (0 : Int)).length : Int)), (18, aI64 0)]) [.own ((List.replicate (wrapF .i64 ((mx (a.length : Int) (b.length : Int)) + 1)).toNat (0 : Int)).flatMap (iC .u32))] ?_
 refine CQ.block ?_
 replace hr := bd hr; obtain ⟨out_15, hL26, hr⟩ := hr
 refine CQ.loopO (σ := fun z0 => match z0 with | (out_4, carry_5, x_6) => ⟨mkS 41 0 [(0, sU32 a), (1, sU32 b), (5, .hs 0 0 out_4.length 1), (6, aU32 carry_5), (17, aI64 ((List.replicate (wrapF .i64 ((mx (a.length : Int) (b.length : Int)) + 1)).toNat (0 : Int)).length : Int)), (18, aI64 x_6)], [.own (out_4.flatMap (iC .u32))]⟩) (Q := fun x st' => x = .exit 0 ∧ Wk 0 st' ⟨mkS 41 0 [(5, .hs 0 0 out_15.length 1)], [.own (out_15.flatMap (iC .u32))]⟩) hL26 ((Wk.gc [0, 1, 5, 6, 17, 18] [(0, false)] rfl (by exact ⟨ids_flat (iC_pure _) _, trivial⟩)).to (by kernel_rfl)) ?_ ?_
 ·clear hr
  rintro m ⟨out_4, carry_5, x_6⟩ hr
  show CQ _ _ _ _ _ ⟨_, _⟩
  refine CQ.seq ?_
  refine CQ.r0 fine ?_
  refine EVO.p1 (aB (decide (x_6 < ((List.replicate (wrapF .i64 ((mx (a.length : Int) (b.length : Int)) + 1)).toNat (0 : Int)).length : Int)))) ?_
  refine EVO.done ?_
  refine CQ.seq ?_
  refine CQ.cond (t := decide (x_6 < ((List.replicate (wrapF .i64 ((mx (a.length : Int) (b.length : Int)) + 1)).toNat (0 : Int)).length : Int))) (by kernel_rfl) (fun hb17 => ?_) (fun hb17 => ?_)
  ·replace hr := cd_t hb17 hr
   refine CQ.skip ?_
   refine CQ.seq ?_
   refine CQ.block ?_
   refine CQ.seq ?_
   refine CQ.r0 fine ?_
   refine EVO.p1 (aI64 x_6) ?_
   refine EVO.p1 (aI64 x_6) ?_
   refine EVO.done ?_
   refine CQ.n1 [0, 1, 5, 6, 7, 17, 18] (mkS 41 0 [(0, sU32 a), (1, sU32 b), (5, .hs 0 0 out_4.length 1), (6, aU32 carry_5), (7, aI64 x_6), (17, aI64 ((List.replicate (wrapF .i64 ((mx (a.length : Int) (b.length : Int)) + 1)).toNat (0 : Int)).length : Int)), (18, aI64 x_6)]) [.own (out_4.flatMap (iC .u32))] ?_
   refine CQ.seq ?_
   replace hr := bd hr; obtain ⟨v18, hc19, hr⟩ := hr
   replace hr := bd hr; obtain ⟨v20, hc21, hr⟩ := hr
   refine CQ.region fine (callOf_ok [{ f := 197, args := [sU32 a, aI64 x_6], H := [.own (out_4.flatMap (iC .u32))], r := .loc (aU32 v18) [] [] 0 : CE }, { f := 197, args := [sU32 b, aI64 x_6], H := [.own (out_4.flatMap (iC .u32))], r := .loc (aU32 v20) [] [] 0 : CE }] (List.forall_mem_cons.2 ⟨(callOk_val (l := []) (args' := [sU32 a, aI64 x_6]) rfl (SnL.cons (Sn.pure rfl) (SnL.cons (Sn.pure rfl) SnL.nil)) (integer_at_ok n a x_6 v18 hc19)), (List.forall_mem_cons.2 ⟨(callOk_val (l := []) (args' := [sU32 b, aI64 x_6]) rfl (SnL.cons (Sn.pure rfl) (SnL.cons (Sn.pure rfl) SnL.nil)) (integer_at_ok n b x_6 v20 hc21)), ce0⟩)⟩)) ?_
   refine EVO.p1 (sU32 a) ?_
   refine EVO.p1 (aI64 x_6) ?_
   refine EVO.c0 (by kernel_rfl) (callOf_at (by kernel_rfl)) ?_
   refine EVO.p1 (sU32 b) ?_
   refine EVO.p1 (aI64 x_6) ?_
   refine EVO.c0 (by kernel_rfl) (callOf_skip (fun _ h => by obtain ⟨e0, e1⟩ := integer_at_inj h; rw [show v20 = v18 from Option.some.inj (hc21.symm.trans ((show integer_at n b x_6 = integer_at n a x_6 from (congr (congr rfl e0) e1)).trans hc19))]) (callOf_at (by kernel_rfl))) ?_
   refine EVO.p1 (aU32 (wrapF .u32 (v18 + v20))) ?_
   refine EVO.p1 (aU32 carry_5) ?_
   refine EVO.p1 (aU32 (wrapF .u32 ((wrapF .u32 (v18 + v20)) + carry_5))) ?_
   refine EVO.p1 (aU32 (wrapF .u32 ((wrapF .u32 (v18 + v20)) + carry_5))) ?_
   refine EVO.done ?_
   refine CQ.n1 [0, 1, 5, 7, 8, 17, 18] (mkS 41 0 [(0, sU32 a), (1, sU32 b), (5, .hs 0 0 out_4.length 1), (7, aI64 x_6), (8, aU32 (wrapF .u32 ((wrapF .u32 (v18 + v20)) + carry_5))), (17, aI64 ((List.replicate (wrapF .i64 ((mx (a.length : Int) (b.length : Int)) + 1)).toNat (0 : Int)).length : Int)), (18, aI64 x_6)]) [.own (out_4.flatMap (iC .u32))] ?_
   refine CQ.seq ?_
   refine CQ.r0 fine ?_
   refine EVO.p1 (aU32 0) ?_
   refine EVO.done ?_
   refine CQ.seq ?_
   refine CQ.seq ?_
   refine CQ.r0 fine ?_
   refine EVO.p1 (aU32 (wrapF .u32 ((wrapF .u32 (v18 + v20)) + carry_5))) ?_
   refine EVO.p1 (aB (decide ((wrapF .u32 ((wrapF .u32 (v18 + v20)) + carry_5)) ≥ 1000000000))) ?_
   refine EVO.done ?_
   refine CQ.n1 [0, 1, 5, 6, 7, 8, 17, 18, 31] (mkS 41 0 [(0, sU32 a), (1, sU32 b), (5, .hs 0 0 out_4.length 1), (6, aU32 0), (7, aI64 x_6), (8, aU32 (wrapF .u32 ((wrapF .u32 (v18 + v20)) + carry_5))), (17, aI64 ((List.replicate (wrapF .i64 ((mx (a.length : Int) (b.length : Int)) + 1)).toNat (0 : Int)).length : Int)), (18, aI64 x_6), (31, aB (decide ((wrapF .u32 ((wrapF .u32 (v18 + v20)) + carry_5)) ≥ 1000000000)))]) [.own (out_4.flatMap (iC .u32))] ?_
   refine CQ.cond (t := decide ((wrapF .u32 ((wrapF .u32 (v18 + v20)) + carry_5)) ≥ 1000000000)) (by kernel_rfl) (fun hb22 => ?_) (fun hb22 => ?_)
   ·replace hr := cd_t hb22 hr
    refine CQ.r0 fine ?_
    refine EVO.p1 (aU32 (wrapF .u32 ((wrapF .u32 (v18 + v20)) + carry_5))) ?_
    refine EVO.p1 (aU32 (wrapF .u32 ((wrapF .u32 ((wrapF .u32 (v18 + v20)) + carry_5)) - 1000000000))) ?_
    refine EVO.p1 (aU32 (wrapF .u32 ((wrapF .u32 ((wrapF .u32 (v18 + v20)) + carry_5)) - 1000000000))) ?_
    refine EVO.p1 (aU32 1) ?_
    refine EVO.done ?_
    refine CQ.n1 [0, 1, 5, 6, 7, 8, 17, 18] (mkS 41 0 [(0, sU32 a), (1, sU32 b), (5, .hs 0 0 out_4.length 1), (6, aU32 1), (7, aI64 x_6), (8, aU32 (wrapF .u32 ((wrapF .u32 ((wrapF .u32 (v18 + v20)) + carry_5)) - 1000000000))), (17, aI64 ((List.replicate (wrapF .i64 ((mx (a.length : Int) (b.length : Int)) + 1)).toNat (0 : Int)).length : Int)), (18, aI64 x_6)]) [.own (out_4.flatMap (iC .u32))] ?_
    replace hr := gd hr; obtain ⟨hg23, hr⟩ := hr
    refine CQ.r0 fine ?_
    refine EVO.p1 (.hs 0 0 out_4.length 1) ?_
    refine EVO.p1 (aI64 x_6) ?_
    refine EVO.p1 (aU32 (wrapF .u32 ((wrapF .u32 ((wrapF .u32 (v18 + v20)) + carry_5)) - 1000000000))) ?_
    refine EVO.p0 (v := .hp 0 (0 + x_6.toNat * 1)) (Eq.trans (b := ORes.ofP (guardV (inR x_6 out_4.length) (.hp 0 (0 + x_6.toNat * 1)))) (by kernel_rfl) (ofP_guard hg23)) ?_
    refine EVO.e0 (v := .unk) (ws := [(0, .own ((out_4.set x_6.toNat (wrapF .u32 ((wrapF .u32 ((wrapF .u32 (v18 + v20)) + carry_5)) - 1000000000))).flatMap (iC .u32)))]) (Eq.trans (b := stO (decide ((0 + x_6.toNat * 1) + 1 ≤ (out_4.flatMap (iC .u32)).length) && true) [(0, .own (setCells (out_4.flatMap (iC .u32)) (0 + x_6.toNat * 1) [aU32 (wrapF .u32 ((wrapF .u32 ((wrapF .u32 (v18 + v20)) + carry_5)) - 1000000000))]))]) (by kernel_rfl) (stO_t (and_t (flat_fits (iC_len _) (inR_lt hg23) (Nat.le_of_ble_eq_true rfl) (by omega : 0 + x_6.toNat * 1 = x_6.toNat * 1 + 0))) (congrArg Blk.own (flat_set (iC_len _) (inR_lt hg23) (Nat.le_of_ble_eq_true rfl) (by omega : 0 + x_6.toNat * 1 = x_6.toNat * 1 + 0) (by kernel_rfl))))) ?_
    refine EVO.done ?_
    refine CQ.pop ?_
    refine CQ.r0 fine ?_
    refine EVO.p1 (aI64 (wrapF .i64 (x_6 + 1))) ?_
    refine EVO.p1 (aI64 (wrapF .i64 (x_6 + 1))) ?_
    refine EVO.done ?_
    exact loopF_back (out_4.set x_6.toNat (wrapF .u32 ((wrapF .u32 ((wrapF .u32 (v18 + v20)) + carry_5)) - 1000000000)), 1, wrapF .i64 (x_6 + 1)) hr ((Wk.relen 5 (b := 0) (es := 1) (len := out_4.length) (out_4.set x_6.toNat (wrapF .u32 ((wrapF .u32 ((wrapF .u32 (v18 + v20)) + carry_5)) - 1000000000))).length (by kernel_rfl) (by simp)).trans ((Wk.gc [0, 1, 5, 6, 17, 18] [(0, false)] rfl (by exact ⟨ids_flat (iC_pure _) _, trivial⟩)).to (by kernel_rfl)))
   ·replace hr := cd_f hb22 hr
    refine CQ.skip ?_
    replace hr := gd hr; obtain ⟨hg24, hr⟩ := hr
    refine CQ.r0 fine ?_
    refine EVO.p1 (.hs 0 0 out_4.length 1) ?_
    refine EVO.p1 (aI64 x_6) ?_
    refine EVO.p1 (aU32 (wrapF .u32 ((wrapF .u32 (v18 + v20)) + carry_5))) ?_
    refine EVO.p0 (v := .hp 0 (0 + x_6.toNat * 1)) (Eq.trans (b := ORes.ofP (guardV (inR x_6 out_4.length) (.hp 0 (0 + x_6.toNat * 1)))) (by kernel_rfl) (ofP_guard hg24)) ?_
    refine EVO.e0 (v := .unk) (ws := [(0, .own ((out_4.set x_6.toNat (wrapF .u32 ((wrapF .u32 (v18 + v20)) + carry_5))).flatMap (iC .u32)))]) (Eq.trans (b := stO (decide ((0 + x_6.toNat * 1) + 1 ≤ (out_4.flatMap (iC .u32)).length) && true) [(0, .own (setCells (out_4.flatMap (iC .u32)) (0 + x_6.toNat * 1) [aU32 (wrapF .u32 ((wrapF .u32 (v18 + v20)) + carry_5))]))]) (by kernel_rfl) (stO_t (and_t (flat_fits (iC_len _) (inR_lt hg24) (Nat.le_of_ble_eq_true rfl) (by omega : 0 + x_6.toNat * 1 = x_6.toNat * 1 + 0))) (congrArg Blk.own (flat_set (iC_len _) (inR_lt hg24) (Nat.le_of_ble_eq_true rfl) (by omega : 0 + x_6.toNat * 1 = x_6.toNat * 1 + 0) (by kernel_rfl))))) ?_
    refine EVO.done ?_
    refine CQ.pop ?_
    refine CQ.r0 fine ?_
    refine EVO.p1 (aI64 (wrapF .i64 (x_6 + 1))) ?_
    refine EVO.p1 (aI64 (wrapF .i64 (x_6 + 1))) ?_
    refine EVO.done ?_
    exact loopF_back (out_4.set x_6.toNat (wrapF .u32 ((wrapF .u32 (v18 + v20)) + carry_5)), 0, wrapF .i64 (x_6 + 1)) hr ((Wk.relen 5 (b := 0) (es := 1) (len := out_4.length) (out_4.set x_6.toNat (wrapF .u32 ((wrapF .u32 (v18 + v20)) + carry_5))).length (by kernel_rfl) (by simp)).trans ((Wk.gc [0, 1, 5, 6, 17, 18] [(0, false)] rfl (by exact ⟨ids_flat (iC_pure _) _, trivial⟩)).to (by kernel_rfl)))
  ·replace hr := cd_f hb17 hr
   refine CQ.leave rfl ?_
   obtain rfl := Option.some.inj hr
   exact ⟨rfl, ((Wk.gc [5] [(0, false)] rfl (by exact ⟨ids_flat (iC_pure _) _, trivial⟩)).to (by kernel_rfl))⟩
 ·rintro x st' hq27
  clear hL26
  obtain ⟨rfl, hq27⟩ := hq27
  refine CQ_exit _ rfl ?_
  refine CQ.wk hq27 ?_
  refine CQ.seq ?_
  replace hr := bd hr; obtain ⟨v28, hc29, hr⟩ := hr
  refine CQ.region fine (callOf_1 131 [.hs 0 0 out_15.length 1] [.own (out_15.flatMap (iC .u32))] (.loc (sU32 v28) [(0, .fix (out_15.flatMap (iC .u32)))] [0] 0) (callOk_ref (l := [0]) (args' := [sU32 out_15]) (SnL.cons (Sn.hs rfl (.inl rfl) (SnC.pure (ids_flat (iC_pure _) _)) (fun h => flat_nil0 h)) SnL.nil) (integer_trim_ok n out_15 v28 hc29))) ?_
  refine EVO.p1 (.hs 0 0 out_15.length 1) ?_
  refine EVO.c0 (by kernel_rfl) (callOf_at (by kernel_rfl)) ?_
  refine EVO.p1 (sU32 v28) ?_
  refine EVO.done ?_
  refine CQ.ret ?_
  obtain rfl := Option.some.inj hr
  exact FinQ.r1 [sU32 v28]

theorem integer_minus_ok (n : Nat) (a : List Int) (b : List Int) (r : List Int) (hr : integer_minus n a b = some r) : FnOk Tryz.prog 173 [slT (iC .u32) a, slT (iC .u32) b] (slT (iC .u32) r) := by
 unfold integer_minus at hr
 refine FnOk.body fine Tryz.func173 (c := (Tryz.f173.body).getD .skip) rfl (s := mkS 50 0 [(0, sU32 a), (1, sU32 b)]) (by kernel_rfl) (rs := [.tmp 4]) rfl ?_
 unfold Tryz.f173
 simp only [Option.getD_some]
 refine CQ.seq ?_
 refine CQ.r0 fine ?_
 refine EVO.p1 (.at (.slice none 0 0)) ?_
 refine EVO.done ?_
 refine CQ.n1 [0, 1] (mkS 50 0 [(0, sU32 a), (1, sU32 b)]) [] ?_
 refine CQ.seq ?_
 replace hr := gd hr; obtain ⟨hg1, hr⟩ := hr
 replace hr := gd hr; obtain ⟨hg2, hr⟩ := hr
 replace hr := gd hr; obtain ⟨hg3, hr⟩ := hr
 refine CQ.r0 fine ?_
 refine EVO.p1 (sU32 a) ?_
 refine EVO.p1 (aI64 (a.length : Int)) ?_
 refine EVO.e0 (v := .hs 0 0 (List.replicate (a.length : Int).toNat (0 : Int)).length 1) (ws := [(0, .own ((List.replicate (a.length : Int).toNat (0 : Int)).flatMap (iC .u32)))]) (Eq.trans (b := guardO (decide (0 ≤ (a.length : Int)) && decide ((a.length : Int) ≤ (a.length : Int)) && decide ((4 : Int) * (a.length : Int) ≤ 281474976710656) && decide ((a.length : Int) ≤ 9223372036854775807) && true && true && true) (some (.eff (.hs 0 0 (a.length : Int).toNat 1) [(0, .own (zerosA [aU32 0] (a.length : Int).toNat))]))) (by kernel_rfl) (make_own (c := (iC .u32)) (z := 0) rfl hg1 hg2 hg3)) ?_
 refine EVO.p1 (.hs 0 0 (List.replicate (a.length : Int).toNat (0 : Int)).length 1) ?_
 refine EVO.done ?_
 refine CQ.n1 [0, 1, 5] (mkS 50 0 [(0, sU32 a), (1, sU32 b), (5, .hs 0 0 (List.replicate (a.length : Int).toNat (0 : Int)).length 1)]) [.own ((List.replicate (a.length : Int).toNat (0 : Int)).flatMap (iC .u32))] ?_
 refine CQ.seq ?_
 refine CQ.r0 fine ?_
 refine EVO.p1 (aU32 0) ?_
 refine EVO.done ?_
 refine CQ.seq ?_
 refine CQ.seq ?_
 refine CQ.r0 fine ?_
 refine EVO.p1 (.hs 0 0 (List.replicate (a.length : Int).toNat (0 : Int)).length 1) ?_
 refine EVO.p1 (aI64 ((List.replicate (a.length : Int).toNat (0 : Int)).length : Int)) ?_
 refine EVO.p1 (aI64 0) ?_
 refine EVO.done ?_
 refine CQ.n1 [0, 1, 5, 6, 13, 14] (mkS 50 0 [(0, sU32 a), (1, sU32 b), (5, .hs 0 0 (List.replicate (a.length : Int).toNat (0 : Int)).length 1), (6, aU32 0), (13, aI64 ((List.replicate (a.length : Int).toNat (0 : Int)).length : Int)), (14, aI64 0)]) [.own ((List.replicate (a.length : Int).toNat (0 : Int)).flatMap (iC .u32))] ?_
 refine CQ.block ?_
 replace hr := bd hr; obtain ⟨out_14, hL24, hr⟩ := hr
 refine CQ.loopO (σ := fun z0 => match z0 with | (out_4, borrow_5, x_6) => ⟨mkS 50 0 [(0, sU32 a), (1, sU32 b), (5, .hs 0 0 out_4.length 1), (6, aU32 borrow_5), (13, aI64 ((List.replicate (a.length : Int).toNat (0 : Int)).length : Int)), (14, aI64 x_6)], [.own (out_4.flatMap (iC .u32))]⟩) (Q := fun x st' => x = .exit 0 ∧ Wk 0 st' ⟨mkS 50 0 [(5, .hs 0 0 out_14.length 1)], [.own (out_14.flatMap (iC .u32))]⟩) hL24 ((Wk.gc [0, 1, 5, 6, 13, 14] [(0, false)] rfl (by exact ⟨ids_flat (iC_pure _) _, trivial⟩)).to (by kernel_rfl)) ?_ ?_
 ·clear hr
  rintro m ⟨out_4, borrow_5, x_6⟩ hr
  show CQ _ _ _ _ _ ⟨_, _⟩
  refine CQ.seq ?_
  refine CQ.r0 fine ?_
  refine EVO.p1 (aB (decide (x_6 < ((List.replicate (a.length : Int).toNat (0 : Int)).length : Int)))) ?_
  refine EVO.done ?_
  refine CQ.seq ?_
  refine CQ.cond (t := decide (x_6 < ((List.replicate (a.length : Int).toNat (0 : Int)).length : Int))) (by kernel_rfl) (fun hb16 => ?_) (fun hb16 => ?_)
  ·replace hr := cd_t hb16 hr
   refine CQ.skip ?_
   refine CQ.seq ?_
   refine CQ.block ?_
   refine CQ.seq ?_
   refine CQ.r0 fine ?_
   refine EVO.p1 (aI64 x_6) ?_
   refine EVO.p1 (aI64 x_6) ?_
   refine EVO.done ?_
   refine CQ.n1 [0, 1, 5, 6, 7, 13, 14] (mkS 50 0 [(0, sU32 a), (1, sU32 b), (5, .hs 0 0 out_4.length 1), (6, aU32 borrow_5), (7, aI64 x_6), (13, aI64 ((List.replicate (a.length : Int).toNat (0 : Int)).length : Int)), (14, aI64 x_6)]) [.own (out_4.flatMap (iC .u32))] ?_
   refine CQ.seq ?_
   replace hr := bd hr; obtain ⟨v17, hc18, hr⟩ := hr
   refine CQ.region fine (callOf_1 197 [sU32 b, aI64 x_6] [.own (out_4.flatMap (iC .u32))] (.loc (aU32 v17) [] [] 0) (callOk_val (l := []) (args' := [sU32 b, aI64 x_6]) rfl (SnL.cons (Sn.pure rfl) (SnL.cons (Sn.pure rfl) SnL.nil)) (integer_at_ok n b x_6 v17 hc18))) ?_
   refine EVO.p1 (sU32 b) ?_
   refine EVO.p1 (aI64 x_6) ?_
   refine EVO.c0 (by kernel_rfl) (callOf_at (by kernel_rfl)) ?_
   refine EVO.p1 (aU32 borrow_5) ?_
   refine EVO.p1 (aU32 (wrapF .u32 (v17 + borrow_5))) ?_
   refine EVO.p1 (aU32 (wrapF .u32 (v17 + borrow_5))) ?_
   refine EVO.done ?_
   refine CQ.n1 [0, 1, 5, 7, 8, 13, 14] (mkS 50 0 [(0, sU32 a), (1, sU32 b), (5, .hs 0 0 out_4.length 1), (7, aI64 x_6), (8, aU32 (wrapF .u32 (v17 + borrow_5))), (13, aI64 ((List.replicate (a.length : Int).toNat (0 : Int)).length : Int)), (14, aI64 x_6)]) [.own (out_4.flatMap (iC .u32))] ?_
   refine CQ.seq ?_
   refine CQ.r0 fine ?_
   refine EVO.p1 (aU32 0) ?_
   refine EVO.done ?_
   refine CQ.seq ?_
   replace hr := gd hr; obtain ⟨hg19, hr⟩ := hr
   refine CQ.r0 fine ?_
   refine EVO.p1 (sU32 a) ?_
   refine EVO.p1 (aI64 x_6) ?_
   refine EVO.p0 (v := .pp (a.flatMap (iC .u32)) (x_6.toNat * 1)) (Eq.trans (b := ORes.ofP (guardV (inR x_6 a.length) (.pp (a.flatMap (iC .u32)) (x_6.toNat * 1)))) (by kernel_rfl) (ofP_guard hg19)) ?_
   refine EVO.p0 (v := aU32 (gt a x_6)) (Eq.trans (b := ORes.ofP ((a.flatMap (iC .u32))[x_6.toNat * 1]?)) (by kernel_rfl) (ofP_some (flat_get (iC_len _) (inR_lt hg19) (by decide : 0 < 1) (by omega : x_6.toNat * 1 = x_6.toNat * 1 + 0) (by kernel_rfl)))) ?_
   refine EVO.p1 (aU32 (wrapF .u32 (v17 + borrow_5))) ?_
   refine EVO.p1 (aB (decide ((gt a x_6) < (wrapF .u32 (v17 + borrow_5))))) ?_
   refine EVO.done ?_
   refine CQ.n1 [0, 1, 5, 6, 7, 8, 13, 14, 27] (mkS 50 0 [(0, sU32 a), (1, sU32 b), (5, .hs 0 0 out_4.length 1), (6, aU32 0), (7, aI64 x_6), (8, aU32 (wrapF .u32 (v17 + borrow_5))), (13, aI64 ((List.replicate (a.length : Int).toNat (0 : Int)).length : Int)), (14, aI64 x_6), (27, aB (decide ((gt a x_6) < (wrapF .u32 (v17 + borrow_5)))))]) [.own (out_4.flatMap (iC .u32))] ?_
   refine CQ.cond (t := decide ((gt a x_6) < (wrapF .u32 (v17 + borrow_5)))) (by kernel_rfl) (fun hb20 => ?_) (fun hb20 => ?_)
   ·replace hr := cd_t hb20 hr
    replace hr := gd hr; obtain ⟨hg21, hr⟩ := hr
    refine CQ.r0 fine ?_
    refine EVO.p1 (.hs 0 0 out_4.length 1) ?_
    refine EVO.p1 (aI64 x_6) ?_
    refine EVO.p1 (sU32 a) ?_
    refine EVO.p1 (aI64 x_6) ?_
    refine EVO.p0 (v := .pp (a.flatMap (iC .u32)) (x_6.toNat * 1)) (Eq.trans (b := ORes.ofP (guardV (inR x_6 a.length) (.pp (a.flatMap (iC .u32)) (x_6.toNat * 1)))) (by kernel_rfl) (ofP_guard hg19)) ?_
    refine EVO.p0 (v := aU32 (gt a x_6)) (Eq.trans (b := ORes.ofP ((a.flatMap (iC .u32))[x_6.toNat * 1]?)) (by kernel_rfl) (ofP_some (flat_get (iC_len _) (inR_lt hg19) (by decide : 0 < 1) (by omega : x_6.toNat * 1 = x_6.toNat * 1 + 0) (by kernel_rfl)))) ?_
    refine EVO.p1 (aU32 (wrapF .u32 ((gt a x_6) + 1000000000))) ?_
    refine EVO.p1 (aU32 (wrapF .u32 (v17 + borrow_5))) ?_
    refine EVO.p1 (aU32 (wrapF .u32 ((wrapF .u32 ((gt a x_6) + 1000000000)) - (wrapF .u32 (v17 + borrow_5))))) ?_
    refine EVO.p0 (v := .hp 0 (0 + x_6.toNat * 1)) (Eq.trans (b := ORes.ofP (guardV (inR x_6 out_4.length) (.hp 0 (0 + x_6.toNat * 1)))) (by kernel_rfl) (ofP_guard hg21)) ?_
    refine EVO.e0 (v := .unk) (ws := [(0, .own ((out_4.set x_6.toNat (wrapF .u32 ((wrapF .u32 ((gt a x_6) + 1000000000)) - (wrapF .u32 (v17 + borrow_5))))).flatMap (iC .u32)))]) (Eq.trans (b := stO (decide ((0 + x_6.toNat * 1) + 1 ≤ (out_4.flatMap (iC .u32)).length) && true) [(0, .own (setCells (out_4.flatMap (iC .u32)) (0 + x_6.toNat * 1) [aU32 (wrapF .u32 ((wrapF .u32 ((gt a x_6) + 1000000000)) - (wrapF .u32 (v17 + borrow_5))))]))]) (by kernel_rfl) (stO_t (and_t (flat_fits (iC_len _) (inR_lt hg21) (Nat.le_of_ble_eq_true rfl) (by omega : 0 + x_6.toNat * 1 = x_6.toNat * 1 + 0))) (congrArg Blk.own (flat_set (iC_len _) (inR_lt hg21) (Nat.le_of_ble_eq_true rfl) (by omega : 0 + x_6.toNat * 1 = x_6.toNat * 1 + 0) (by kernel_rfl))))) ?_
    refine EVO.p1 (aU32 1) ?_
    refine EVO.done ?_
    refine CQ.pop ?_
    refine CQ.r0 fine ?_
    refine EVO.p1 (aI64 (wrapF .i64 (x_6 + 1))) ?_
    refine EVO.p1 (aI64 (wrapF .i64 (x_6 + 1))) ?_
    refine EVO.done ?_
    exact loopF_back (out_4.set x_6.toNat (wrapF .u32 ((wrapF .u32 ((gt a x_6) + 1000000000)) - (wrapF .u32 (v17 + borrow_5)))), 1, wrapF .i64 (x_6 + 1)) hr ((Wk.relen 5 (b := 0) (es := 1) (len := out_4.length) (out_4.set x_6.toNat (wrapF .u32 ((wrapF .u32 ((gt a x_6) + 1000000000)) - (wrapF .u32 (v17 + borrow_5))))).length (by kernel_rfl) (by simp)).trans ((Wk.gc [0, 1, 5, 6, 13, 14] [(0, false)] rfl (by exact ⟨ids_flat (iC_pure _) _, trivial⟩)).to (by kernel_rfl)))
   ·replace hr := cd_f hb20 hr
    replace hr := gd hr; obtain ⟨hg22, hr⟩ := hr
    refine CQ.r0 fine ?_
    refine EVO.p1 (.hs 0 0 out_4.length 1) ?_
    refine EVO.p1 (aI64 x_6) ?_
    refine EVO.p1 (sU32 a) ?_
    refine EVO.p1 (aI64 x_6) ?_
    refine EVO.p0 (v := .pp (a.flatMap (iC .u32)) (x_6.toNat * 1)) (Eq.trans (b := ORes.ofP (guardV (inR x_6 a.length) (.pp (a.flatMap (iC .u32)) (x_6.toNat * 1)))) (by kernel_rfl) (ofP_guard hg19)) ?_
    refine EVO.p0 (v := aU32 (gt a x_6)) (Eq.trans (b := ORes.ofP ((a.flatMap (iC .u32))[x_6.toNat * 1]?)) (by kernel_rfl) (ofP_some (flat_get (iC_len _) (inR_lt hg19) (by decide : 0 < 1) (by omega : x_6.toNat * 1 = x_6.toNat * 1 + 0) (by kernel_rfl)))) ?_
    refine EVO.p1 (aU32 (wrapF .u32 (v17 + borrow_5))) ?_
    refine EVO.p1 (aU32 (wrapF .u32 ((gt a x_6) - (wrapF .u32 (v17 + borrow_5))))) ?_
    refine EVO.p0 (v := .hp 0 (0 + x_6.toNat * 1)) (Eq.trans (b := ORes.ofP (guardV (inR x_6 out_4.length) (.hp 0 (0 + x_6.toNat * 1)))) (by kernel_rfl) (ofP_guard hg22)) ?_
    refine EVO.e0 (v := .unk) (ws := [(0, .own ((out_4.set x_6.toNat (wrapF .u32 ((gt a x_6) - (wrapF .u32 (v17 + borrow_5))))).flatMap (iC .u32)))]) (Eq.trans (b := stO (decide ((0 + x_6.toNat * 1) + 1 ≤ (out_4.flatMap (iC .u32)).length) && true) [(0, .own (setCells (out_4.flatMap (iC .u32)) (0 + x_6.toNat * 1) [aU32 (wrapF .u32 ((gt a x_6) - (wrapF .u32 (v17 + borrow_5))))]))]) (by kernel_rfl) (stO_t (and_t (flat_fits (iC_len _) (inR_lt hg22) (Nat.le_of_ble_eq_true rfl) (by omega : 0 + x_6.toNat * 1 = x_6.toNat * 1 + 0))) (congrArg Blk.own (flat_set (iC_len _) (inR_lt hg22) (Nat.le_of_ble_eq_true rfl) (by omega : 0 + x_6.toNat * 1 = x_6.toNat * 1 + 0) (by kernel_rfl))))) ?_
    refine EVO.done ?_
    refine CQ.pop ?_
    refine CQ.r0 fine ?_
    refine EVO.p1 (aI64 (wrapF .i64 (x_6 + 1))) ?_
    refine EVO.p1 (aI64 (wrapF .i64 (x_6 + 1))) ?_
    refine EVO.done ?_
    exact loopF_back (out_4.set x_6.toNat (wrapF .u32 ((gt a x_6) - (wrapF .u32 (v17 + borrow_5)))), 0, wrapF .i64 (x_6 + 1)) hr ((Wk.relen 5 (b := 0) (es := 1) (len := out_4.length) (out_4.set x_6.toNat (wrapF .u32 ((gt a x_6) - (wrapF .u32 (v17 + borrow_5))))).length (by kernel_rfl) (by simp)).trans ((Wk.gc [0, 1, 5, 6, 13, 14] [(0, false)] rfl (by exact ⟨ids_flat (iC_pure _) _, trivial⟩)).to (by kernel_rfl)))
  ·replace hr := cd_f hb16 hr
   refine CQ.leave rfl ?_
   obtain rfl := Option.some.inj hr
   exact ⟨rfl, ((Wk.gc [5] [(0, false)] rfl (by exact ⟨ids_flat (iC_pure _) _, trivial⟩)).to (by kernel_rfl))⟩
 ·rintro x st' hq25
  clear hL24
  obtain ⟨rfl, hq25⟩ := hq25
  refine CQ_exit _ rfl ?_
  refine CQ.wk hq25 ?_
  refine CQ.seq ?_
  replace hr := bd hr; obtain ⟨v26, hc27, hr⟩ := hr
  refine CQ.region fine (callOf_1 131 [.hs 0 0 out_14.length 1] [.own (out_14.flatMap (iC .u32))] (.loc (sU32 v26) [(0, .fix (out_14.flatMap (iC .u32)))] [0] 0) (callOk_ref (l := [0]) (args' := [sU32 out_14]) (SnL.cons (Sn.hs rfl (.inl rfl) (SnC.pure (ids_flat (iC_pure _) _)) (fun h => flat_nil0 h)) SnL.nil) (integer_trim_ok n out_14 v26 hc27))) ?_
  refine EVO.p1 (.hs 0 0 out_14.length 1) ?_
  refine EVO.c0 (by kernel_rfl) (callOf_at (by kernel_rfl)) ?_
  refine EVO.p1 (sU32 v26) ?_
  refine EVO.done ?_
  refine CQ.ret ?_
  obtain rfl := Option.some.inj hr
  exact FinQ.r1 [sU32 v26]
end Go.L
