/- The program's functions compute what the plain Lean programs compute, part 1; printed by a program. -/
import Derived.Test.YtlajgmapmocpbabGreatNearLD
import Derived.Test.YtlajgmapmocpbabGreatL0i
import Derived.Test.YtlajgmapmocpbabGreatChecked
import Derived.KernelRfl
set_option linter.unusedVariables false
set_option linter.unusedSimpArgs false
set_option maxRecDepth 100000
set_option maxHeartbeats 4000000
namespace Go.L
open Go Go.Eng Go.Proofs
theorem predicate_inRange_1_ok (n : Nat) (n' : Int) (r : Bool) (hr : predicate_inRange_1 n n' = some r) : FnOk Tryz.prog 130 [aI64 n'] (aB r) := by
 unfold predicate_inRange_1 at hr
 refine FnOk.bd fine Tryz.func130 [.tmp 2] ?_
 unfold Tryz.f130
 simp only [Option.getD_some]
 refine .seq <| .r3 fine 9 [(0, aI64 n')] <| .seq ?_
 rcases Bool.eq_false_or_eq_true (decide (n' < (-1048576))) with hb1 | hb1
 ·replace hr := cd_t hb1 hr
  refine .r0 fine <| .mu 1 <| .p0 (v := aB true) (Eq.trans (b := some (.pure (aB (decide (n' < (-1048576)))))) (by kernel_rfl) (by rw [hb1])) <| .mu 5 <| .done <| .ret ?_
  obtain rfl := Option.some.inj hr
  exact FinQ.r1 [aB true]
 ·replace hr := cd_f hb1 hr
  refine .r0 fine <| .mu 1 <| .p0 (v := aB false) (Eq.trans (b := some (.pure (aB (decide (n' < (-1048576)))))) (by kernel_rfl) (by rw [hb1])) <| .mu 5 <| .done <| .ret ?_
  obtain rfl := Option.some.inj hr
  exact FinQ.r1 [aB (decide (n' > 1048576))]

theorem slices_IndexFunc_int_int_of_predicate_inRange_1_ok (n : Nat) (s : List Int) (r : Int) (hr : slices_IndexFunc_int_int_of_predicate_inRange_1 n s = some r) : FnOk Tryz.prog 174 [sI64 s, .fn 130 [] []] (aI64 r) := by
 unfold slices_IndexFunc_int_int_of_predicate_inRange_1 at hr
 refine FnOk.bd fine Tryz.func174 [.tmp 4] ?_
 unfold Tryz.f174
 simp only [Option.getD_some]
 refine .seq <| .r3 fine 19 [(0, sI64 s), (1, .fn 130 [] [])] <| .seq <| .seq <| .r3 fine 19 [(0, sI64 s), (1, .fn 130 [] []), (7, aI64 (s.length : Int)), (8, aI64 0)] <| .block ?_
 replace hr := bd hr; obtain ⟨o13, hL14, hr⟩ := hr
 refine .loopO (σ := fun z0 => match z0 with | x_1 => ⟨mkS 19 0 [(0, sI64 s), (1, .fn 130 [] []), (7, aI64 (s.length : Int)), (8, aI64 x_1)], []⟩) (Q := fun x st' => match (generalizing := false) o13 with | .inl _ => x = .exit 0 ∧ Wk 0 st' ⟨mkS 19 0 [], []⟩ | .inr (r0) => x = .ret ∧ FinQ Tryz.prog [.tmp 4] (aI64 r0) .ret st') hL14 ((Wk.gc [0, 1, 7, 8] [] rfl pK0).to (by kernel_rfl)) ?_ ?_
 ·clear hr
  rintro m x_1 hr
  show CQ _ _ _ _ _ ⟨_, _⟩
  refine .seq <| .r3 fine 19 [(0, sI64 s), (1, .fn 130 [] []), (7, aI64 (s.length : Int)), (8, aI64 x_1), (9, aB (decide (x_1 < (s.length : Int))))] <| .seq ?_
  refine .cd hr (fun hb8 hr => ?_) (fun hb8 hr => ?_)
  ·refine .skip <| .seq <| .block <| .seq <| .r3 fine 19 [(0, sI64 s), (1, .fn 130 [] []), (5, aI64 x_1), (7, aI64 (s.length : Int)), (8, aI64 x_1)] <| .seq ?_
   obtain ⟨hg9, hr⟩ := gd hr
   obtain ⟨v10, hc11, hr⟩ := bd hr
   refine .g1 fine (ok0 (predicate_inRange_1_ok n (gt s x_1) v10 hc11)) <| .mu 3 <| .p0 (v := .pp (s.flatMap (iC .i64)) (x_1.toNat * 1)) (Eq.trans (b := ORes.ofP (guardV (inR x_1 s.length) (.pp (s.flatMap (iC .i64)) (x_1.toNat * 1)))) (by kernel_rfl) (ofP_guard hg9)) <| .p0 (v := aI64 (gt s x_1)) (Eq.trans (b := ORes.ofP ((s.flatMap (iC .i64))[x_1.toNat * 1]?)) (by kernel_rfl) (ofP_some (flat_get (iC_len _) (inR_lt hg9) (by decide : 0 < 1) (by omega : x_1.toNat * 1 = x_1.toNat * 1 + 0) (by kernel_rfl)))) <| .ca cf0 <| .done <| .n2 19 [(0, sI64 s), (1, .fn 130 [] []), (5, aI64 x_1), (7, aI64 (s.length : Int)), (8, aI64 x_1), (16, aB v10)] [] ?_
   refine .cd hr (fun hb12 hr => ?_) (fun hb12 hr => ?_)
   ·refine .seq <| .ru fine <| .ret ?_
    obtain rfl := Option.some.inj hr
    exact ⟨rfl, FinQ.ret (vs := [aI64 x_1]) (by kernel_rfl) (Sn.pure rfl)⟩
   ·refine .skip <| .pop <| .ru fine ?_
    exact loopF_back (wrapF .i64 (x_1 + 1)) hr ((Wk.gc [0, 1, 7, 8] [] rfl pK0).to (by kernel_rfl))
  ·refine .leave rfl ?_
   obtain rfl := Option.some.inj hr
   exact ⟨rfl, ((Wk.gc [] [] rfl pK0).to (by kernel_rfl))⟩
 ·rcases o13 with ⟨⟩ | r0
  ·rintro x st' hq15
   clear hL14
   obtain ⟨rfl, hq15⟩ := hq15
   refine CQ_exit _ rfl <| .wk hq15 <| .seq <| .ru fine <| .ret ?_
   obtain rfl := Option.some.inj hr
   exact FinQ.r1 [aI64 (-1)]
  ·rintro x st' hq15
   clear hL14
   obtain ⟨rfl, hq15⟩ := hq15
   obtain rfl := Option.some.inj hr
   exact CQ_ret _ hq15

theorem slices_ContainsFunc_int_int_of_predicate_inRange_1_ok (n : Nat) (s : List Int) (r : Bool) (hr : slices_ContainsFunc_int_int_of_predicate_inRange_1 n s = some r) : FnOk Tryz.prog 129 [sI64 s, .fn 130 [] []] (aB r) := by
 unfold slices_ContainsFunc_int_int_of_predicate_inRange_1 at hr
 refine FnOk.bd fine Tryz.func129 [.tmp 4] ?_
 unfold Tryz.f129
 simp only [Option.getD_some]
 refine .seq <| .r3 fine 9 [(0, sI64 s), (1, .fn 130 [] [])] <| .seq ?_
 obtain ⟨v1, hc2, hr⟩ := bd hr
 refine .g1 fine (ok0 (slices_IndexFunc_int_int_of_predicate_inRange_1_ok n s v1 hc2)) <| .mu 2 <| .ca cf0 <| .mu 2 <| .done <| .ret ?_
 obtain rfl := Option.some.inj hr
 exact FinQ.r1 [aB (decide (v1 ≥ 0))]

theorem predicate_inRange_ok (n : Nat) (l : List Int) (r : Bool) (hr : predicate_inRange n l = some r) : FnOk Tryz.prog 94 [sI64 l] (aB r) := by
 unfold predicate_inRange at hr
 refine FnOk.bd fine Tryz.func94 [.tmp 2] ?_
 unfold Tryz.f94
 simp only [Option.getD_some]
 refine .seq <| .r3 fine 6 [(0, sI64 l)] <| .seq ?_
 obtain ⟨v1, hc2, hr⟩ := bd hr
 refine .g1 fine (ok0 (slices_ContainsFunc_int_int_of_predicate_inRange_1_ok n l v1 hc2)) <| .mu 1 <| .ca cf0 <| .mu 2 <| .done <| .ret ?_
 obtain rfl := Option.some.inj hr
 exact FinQ.r1 [aB (!v1)]

theorem predicate_Check_1_ok (n : Nat) (p : api_Pix) (r : Bool) (hr : predicate_Check_1 n p = some r) : FnOk Tryz.prog 93 [.agg (api_Pix.c p)] (aB r) := by
 unfold predicate_Check_1 at hr
 refine FnOk.bd fine Tryz.func93 [.tmp 2] ?_
 unfold Tryz.f93
 simp only [Option.getD_some]
 refine .seq <| .r2 fine 10 [(1, .hp 0 0)] [.own (api_Pix.c p)] <| .seq ?_
 obtain ⟨v1, hc2, hr⟩ := bd hr
 refine .gn fine (ca4 [.own (api_Pix.c p), .own (api_Pix.c p)] (callOk_val (args := [.hs 1 0 2 1]) (l := [1]) rfl (SnL.cons (Sn.hs rfl (.inl rfl) (SnC.cons (Sn.pure rfl) (SnC.cons (Sn.pure rfl) SnC.nil)) (fun h => nomatch h)) SnL.nil) (predicate_inRange_ok n [p.X, p.Y] v1 hc2))) <| .mu 5 <| .ca cf0 <| .mu 2 <| .done <| .ret ?_
 obtain rfl := Option.some.inj hr
 exact FinQ.r1 [aB (!v1)]

theorem slices_IndexFunc_fiducial_api_Pix_fiducial_api_Pix_of_predicate_Check_1_ok (n : Nat) (s : List api_Pix) (r : Int) (hr : slices_IndexFunc_fiducial_api_Pix_fiducial_api_Pix_of_predicate_Check_1 n s = some r) : FnOk Tryz.prog 128 [slT api_Pix.c s, .fn 93 [] []] (aI64 r) := by
 unfold slices_IndexFunc_fiducial_api_Pix_fiducial_api_Pix_of_predicate_Check_1 at hr
 refine FnOk.bd fine Tryz.func128 [.tmp 4] ?_
 unfold Tryz.f128
 simp only [Option.getD_some]
 refine .seq <| .r3 fine 19 [(0, slT api_Pix.c s), (1, .fn 93 [] [])] <| .seq <| .seq <| .r3 fine 19 [(0, slT api_Pix.c s), (1, .fn 93 [] []), (7, aI64 (s.length : Int)), (8, aI64 0)] <| .block ?_
 replace hr := bd hr; obtain ⟨o13, hL14, hr⟩ := hr
 refine .loopO (σ := fun z0 => match z0 with | x_1 => ⟨mkS 19 0 [(0, slT api_Pix.c s), (1, .fn 93 [] []), (7, aI64 (s.length : Int)), (8, aI64 x_1)], []⟩) (Q := fun x st' => match (generalizing := false) o13 with | .inl _ => x = .exit 0 ∧ Wk 0 st' ⟨mkS 19 0 [], []⟩ | .inr (r0) => x = .ret ∧ FinQ Tryz.prog [.tmp 4] (aI64 r0) .ret st') hL14 ((Wk.gc [0, 1, 7, 8] [] rfl pK0).to (by kernel_rfl)) ?_ ?_
 ·clear hr
  rintro m x_1 hr
  show CQ _ _ _ _ _ ⟨_, _⟩
  refine .seq <| .r3 fine 19 [(0, slT api_Pix.c s), (1, .fn 93 [] []), (7, aI64 (s.length : Int)), (8, aI64 x_1), (9, aB (decide (x_1 < (s.length : Int))))] <| .seq ?_
  refine .cd hr (fun hb8 hr => ?_) (fun hb8 hr => ?_)
  ·refine .skip <| .seq <| .block <| .seq <| .r3 fine 19 [(0, slT api_Pix.c s), (1, .fn 93 [] []), (5, aI64 x_1), (7, aI64 (s.length : Int)), (8, aI64 x_1)] <| .seq ?_
   obtain ⟨hg9, hr⟩ := gd hr
   obtain ⟨v10, hc11, hr⟩ := bd hr
   refine .g1 fine (ok0 (predicate_Check_1_ok n (gt s x_1) v10 hc11)) <| .mu 3 <| .p0 (v := .pp (s.flatMap api_Pix.c) (x_1.toNat * 2)) (Eq.trans (b := ORes.ofP (guardV (inR x_1 s.length) (.pp (s.flatMap api_Pix.c) (x_1.toNat * 2)))) (by kernel_rfl) (ofP_guard hg9)) <| .p0 (v := .agg (api_Pix.c (gt s x_1))) (Eq.trans (b := ORes.ofP (guardV (decide (2 ≤ ((s.flatMap api_Pix.c).drop (x_1.toNat * 2)).length)) (.agg (((s.flatMap api_Pix.c).drop (x_1.toNat * 2)).take 2)))) (by kernel_rfl) (flat_load api_Pix.len (inR_lt hg9) (by decide) (by omega : x_1.toNat * 2 = x_1.toNat * 2 + 0) (by kernel_rfl))) <| .ca cf0 <| .done <| .n2 19 [(0, slT api_Pix.c s), (1, .fn 93 [] []), (5, aI64 x_1), (7, aI64 (s.length : Int)), (8, aI64 x_1), (16, aB v10)] [] ?_
   refine .cd hr (fun hb12 hr => ?_) (fun hb12 hr => ?_)
   ·refine .seq <| .ru fine <| .ret ?_
    obtain rfl := Option.some.inj hr
    exact ⟨rfl, FinQ.ret (vs := [aI64 x_1]) (by kernel_rfl) (Sn.pure rfl)⟩
   ·refine .skip <| .pop <| .ru fine ?_
    exact loopF_back (wrapF .i64 (x_1 + 1)) hr ((Wk.gc [0, 1, 7, 8] [] rfl pK0).to (by kernel_rfl))
  ·refine .leave rfl ?_
   obtain rfl := Option.some.inj hr
   exact ⟨rfl, ((Wk.gc [] [] rfl pK0).to (by kernel_rfl))⟩
 ·rcases o13 with ⟨⟩ | r0
  ·rintro x st' hq15
   clear hL14
   obtain ⟨rfl, hq15⟩ := hq15
   refine CQ_exit _ rfl <| .wk hq15 <| .seq <| .ru fine <| .ret ?_
   obtain rfl := Option.some.inj hr
   exact FinQ.r1 [aI64 (-1)]
  ·rintro x st' hq15
   clear hL14
   obtain ⟨rfl, hq15⟩ := hq15
   obtain rfl := Option.some.inj hr
   exact CQ_ret _ hq15

theorem slices_ContainsFunc_fiducial_api_Pix_fiducial_api_Pix_of_predicate_Check_1_ok (n : Nat) (s : List api_Pix) (r : Bool) (hr : slices_ContainsFunc_fiducial_api_Pix_fiducial_api_Pix_of_predicate_Check_1 n s = some r) : FnOk Tryz.prog 92 [slT api_Pix.c s, .fn 93 [] []] (aB r) := by
 unfold slices_ContainsFunc_fiducial_api_Pix_fiducial_api_Pix_of_predicate_Check_1 at hr
 refine FnOk.bd fine Tryz.func92 [.tmp 4] ?_
 unfold Tryz.f92
 simp only [Option.getD_some]
 refine .seq <| .r3 fine 9 [(0, slT api_Pix.c s), (1, .fn 93 [] [])] <| .seq ?_
 obtain ⟨v1, hc2, hr⟩ := bd hr
 refine .g1 fine (ok0 (slices_IndexFunc_fiducial_api_Pix_fiducial_api_Pix_of_predicate_Check_1_ok n s v1 hc2)) <| .mu 2 <| .ca cf0 <| .mu 2 <| .done <| .ret ?_
 obtain rfl := Option.some.inj hr
 exact FinQ.r1 [aB (decide (v1 ≥ 0))]

theorem predicate_Check_ok (n : Nat) (l : List api_Pix) (r : Int) (hr : predicate_Check n l = some r) : FnOk Tryz.prog 41 [slT api_Pix.c l] (aI64 r) := by
 unfold predicate_Check at hr
 refine FnOk.bd fine Tryz.func41 [.tmp 2] ?_
 unfold Tryz.f41
 simp only [Option.getD_some]
 refine .seq <| .r3 fine 5 [(0, slT api_Pix.c l)] <| .seq <| .seq ?_
 obtain ⟨v1, hc2, hr⟩ := bd hr
 refine .g1 fine (ok0 (slices_ContainsFunc_fiducial_api_Pix_fiducial_api_Pix_of_predicate_Check_1_ok n l v1 hc2)) <| .mu 1 <| .ca cf0 <| .done <| .n2 5 [(4, aB v1)] [] ?_
 refine .cd hr (fun hb3 hr => ?_) (fun hb3 hr => ?_)
 ·refine .seq <| .ru fine <| .ret ?_
  obtain rfl := Option.some.inj hr
  exact FinQ.r1 [aI64 2]
 ·refine .skip <| .seq <| .ru fine <| .ret ?_
  obtain rfl := Option.some.inj hr
  exact FinQ.r1 [aI64 0]

theorem predicate_cross_inj {a : api_Pix} {b : api_Pix} {c : api_Pix} {a_ : api_Pix} {b_ : api_Pix} {c_ : api_Pix} (h : ([.agg [.at (.int .i64 a.X), .at (.int .i64 a.Y)], .agg [.at (.int .i64 b.X), .at (.int .i64 b.Y)], .agg [.at (.int .i64 c.X), .at (.int .i64 c.Y)]] : List AV) = [.agg [.at (.int .i64 a_.X), .at (.int .i64 a_.Y)], .agg [.at (.int .i64 b_.X), .at (.int .i64 b_.Y)], .agg [.at (.int .i64 c_.X), .at (.int .i64 c_.Y)]]) : a = a_ ∧ b = b_ ∧ c = c_ := by
 obtain ⟨_, _⟩ := a
 obtain ⟨_, _⟩ := a_
 obtain ⟨_, _⟩ := b
 obtain ⟨_, _⟩ := b_
 obtain ⟨_, _⟩ := c
 obtain ⟨_, _⟩ := c_
 simp only [List.cons.injEq, AV.agg.injEq, AV.at.injEq, Value.int.injEq, Value.bool.injEq, AV.fn.injEq, AV.pp.injEq, true_and, and_true] at h
 simp_all
theorem predicate_cross_cg (n : Nat) {a : api_Pix} {b : api_Pix} {c : api_Pix} {a_ : api_Pix} {b_ : api_Pix} {c_ : api_Pix} (h : ([.agg [.at (.int .i64 a.X), .at (.int .i64 a.Y)], .agg [.at (.int .i64 b.X), .at (.int .i64 b.Y)], .agg [.at (.int .i64 c.X), .at (.int .i64 c.Y)]] : List AV) = [.agg [.at (.int .i64 a_.X), .at (.int .i64 a_.Y)], .agg [.at (.int .i64 b_.X), .at (.int .i64 b_.Y)], .agg [.at (.int .i64 c_.X), .at (.int .i64 c_.Y)]]) : predicate_cross n a b c = predicate_cross n a_ b_ c_ := by
 obtain ⟨rfl, rfl, rfl⟩ := predicate_cross_inj h
 rfl
theorem predicate_cross_ok (n : Nat) (a : api_Pix) (b : api_Pix) (c : api_Pix) (r : Int) (hr : predicate_cross n a b c = some r) : FnOk Tryz.prog 43 [.agg (api_Pix.c a), .agg (api_Pix.c b), .agg (api_Pix.c c)] (aI64 r) := by
 unfold predicate_cross at hr
 refine FnOk.bd fine Tryz.func43 [.tmp 6] ?_
 unfold Tryz.f43
 simp only [Option.getD_some]
 refine .seq <| .r2 fine 30 [(3, .hp 0 0), (4, .hp 1 0), (5, .hp 2 0)] [.own (api_Pix.c a), .own (api_Pix.c b), .own (api_Pix.c c)] <| .seq <| .ru fine <| .ret ?_
 obtain rfl := Option.some.inj hr
 exact FinQ.r1 [aI64 (wrapF .i64 ((wrapF .i64 ((wrapF .i64 (b.X - a.X)) * (wrapF .i64 (c.Y - a.Y)))) - (wrapF .i64 ((wrapF .i64 (b.Y - a.Y)) * (wrapF .i64 (c.X - a.X))))))]

theorem predicate_dot_ok (n : Nat) (a : api_Pix) (b : api_Pix) (c : api_Pix) (r : Int) (hr : predicate_dot n a b c = some r) : FnOk Tryz.prog 47 [.agg (api_Pix.c a), .agg (api_Pix.c b), .agg (api_Pix.c c)] (aI64 r) := by
 unfold predicate_dot at hr
 refine FnOk.bd fine Tryz.func47 [.tmp 6] ?_
 unfold Tryz.f47
 simp only [Option.getD_some]
 refine .seq <| .r2 fine 30 [(3, .hp 0 0), (4, .hp 1 0), (5, .hp 2 0)] [.own (api_Pix.c a), .own (api_Pix.c b), .own (api_Pix.c c)] <| .seq <| .ru fine <| .ret ?_
 obtain rfl := Option.some.inj hr
 exact FinQ.r1 [aI64 (wrapF .i64 ((wrapF .i64 ((wrapF .i64 (b.X - a.X)) * (wrapF .i64 (c.X - a.X)))) + (wrapF .i64 ((wrapF .i64 (b.Y - a.Y)) * (wrapF .i64 (c.Y - a.Y))))))]

theorem predicate_on_ok (n : Nat) (a : api_Pix) (b : api_Pix) (c : api_Pix) (r : Bool) (hr : predicate_on n a b c = some r) : FnOk Tryz.prog 84 [.agg (api_Pix.c a), .agg (api_Pix.c b), .agg (api_Pix.c c)] (aB r) := by
 unfold predicate_on at hr
 refine FnOk.bd fine Tryz.func84 [.tmp 6] ?_
 unfold Tryz.f84
 simp only [Option.getD_some]
 refine .seq <| .r2 fine 19 [(3, .hp 0 0), (4, .hp 1 0), (5, .hp 2 0)] [.own (api_Pix.c a), .own (api_Pix.c b), .own (api_Pix.c c)] <| .seq ?_
 obtain ⟨v1, hc2, hr⟩ := bd hr
 rcases Bool.eq_false_or_eq_true ((v1 : Int) == 0) with hb3 | hb3
 ·replace hr := cd_t hb3 hr
  obtain ⟨v4, hc5, hr⟩ := bd hr
  refine .gn fine (ca1 (ok0 (predicate_cross_ok n a b c v1 hc2)) (ca3 (ok0 (predicate_dot_ok n c a b v4 hc5)))) <| .mu 3 <| .ca cf0 <| .p0 (v := aB true) (Eq.trans (b := some (.pure (aB ((v1 : Int) == 0)))) (by kernel_rfl) (by rw [hb3])) <| .mu 4 <| .ca (cfF cf0) <| .mu 3 <| .done <| .ret ?_
  obtain rfl := Option.some.inj hr
  exact FinQ.r1 [aB (decide (v4 ≤ 0))]
 ·replace hr := cd_f hb3 hr
  refine .g1 fine (ok0 (predicate_cross_ok n a b c v1 hc2)) <| .mu 3 <| .ca cf0 <| .p0 (v := aB false) (Eq.trans (b := some (.pure (aB ((v1 : Int) == 0)))) (by kernel_rfl) (by rw [hb3])) <| .mu 8 <| .done <| .ret ?_
  obtain rfl := Option.some.inj hr
  exact FinQ.r1 [aB false]

theorem slices_Index_fiducial_api_Pix_fiducial_api_Pix_ok (n : Nat) (s : List api_Pix) (v : api_Pix) (r : Int) (hr : slices_Index_fiducial_api_Pix_fiducial_api_Pix n s v = some r) : FnOk Tryz.prog 125 [slT api_Pix.c s, .agg (api_Pix.c v)] (aI64 r) := by
 unfold slices_Index_fiducial_api_Pix_fiducial_api_Pix at hr
 refine FnOk.bd fine Tryz.func125 [.tmp 4] ?_
 unfold Tryz.f125
 simp only [Option.getD_some]
 refine .seq <| .r2 fine 19 [(0, slT api_Pix.c s), (3, .hp 0 0)] [.own (api_Pix.c v)] <| .seq <| .seq <| .r3 fine 19 [(0, slT api_Pix.c s), (3, .hp 0 0), (7, aI64 (s.length : Int)), (8, aI64 0)] <| .block ?_
 replace hr := bd hr; obtain ⟨o9, hL10, hr⟩ := hr
 refine .loopO (σ := fun z0 => match z0 with | x_1 => ⟨mkS 19 0 [(0, slT api_Pix.c s), (3, .hp 0 0), (7, aI64 (s.length : Int)), (8, aI64 x_1)], [.own (api_Pix.c v)]⟩) (Q := fun x st' => match (generalizing := false) o9 with | .inl _ => x = .exit 0 ∧ Wk 0 st' ⟨mkS 19 0 [], []⟩ | .inr (r0) => x = .ret ∧ FinQ Tryz.prog [.tmp 4] (aI64 r0) .ret st') hL10 ((Wk.gc [0, 3, 7, 8] [(0, true)] rfl trivial).to (by kernel_rfl)) ?_ ?_
 ·clear hr
  rintro m x_1 hr
  show CQ _ _ _ _ _ ⟨_, _⟩
  refine .seq <| .r3 fine 19 [(0, slT api_Pix.c s), (3, .hp 0 0), (7, aI64 (s.length : Int)), (8, aI64 x_1), (9, aB (decide (x_1 < (s.length : Int))))] <| .seq ?_
  refine .cd hr (fun hb6 hr => ?_) (fun hb6 hr => ?_)
  ·refine .skip <| .seq <| .block <| .seq <| .r3 fine 19 [(0, slT api_Pix.c s), (3, .hp 0 0), (5, aI64 x_1), (7, aI64 (s.length : Int)), (8, aI64 x_1)] <| .seq ?_
   obtain ⟨hg7, hr⟩ := gd hr
   refine .regionT fine callOf_nil <| .mu 3 <| .pure (v := .pp (s.flatMap api_Pix.c) (x_1.toNat * 2)) (by kernel_rfl) (Eq.trans (b := ORes.ofP (guardV (inR x_1 s.length) (.pp (s.flatMap api_Pix.c) (x_1.toNat * 2)))) (by kernel_rfl) (ofP_guard hg7)) (by kernel_rfl) <| .pure (v := .agg (api_Pix.c (gt s x_1))) (by kernel_rfl) (Eq.trans (b := ORes.ofP (guardV (decide (2 ≤ ((s.flatMap api_Pix.c).drop (x_1.toNat * 2)).length)) (.agg (((s.flatMap api_Pix.c).drop (x_1.toNat * 2)).take 2)))) (by kernel_rfl) (flat_load api_Pix.len (inR_lt hg7) (by decide) (by omega : x_1.toNat * 2 = x_1.toNat * 2 + 0) (by kernel_rfl))) (by kernel_rfl) <| .mu 1 ?_
   refine .done ⟨by kernel_rfl, ?_⟩
   refine .n2 19 [(0, slT api_Pix.c s), (3, .hp 0 0), (5, aI64 x_1), (7, aI64 (s.length : Int)), (8, aI64 x_1), (16, aB (((v.X : Int) == (gt s x_1).X) && (((v.Y : Int) == (gt s x_1).Y) && true)))] [.own (api_Pix.c v)] ?_
   refine .cd hr (fun hb8 hr => ?_) (fun hb8 hr => ?_)
   ·refine .seq <| .ru fine <| .ret ?_
    obtain rfl := Option.some.inj hr
    exact ⟨rfl, FinQ.ret (vs := [aI64 x_1]) (by kernel_rfl) (Sn.pure rfl)⟩
   ·refine .skip <| .pop <| .ru fine ?_
    exact loopF_back (wrapF .i64 (x_1 + 1)) hr ((Wk.gc [0, 3, 7, 8] [(0, true)] rfl trivial).to (by kernel_rfl))
  ·refine .leave rfl ?_
   obtain rfl := Option.some.inj hr
   exact ⟨rfl, ((Wk.gc [] [] rfl pK0).to (by kernel_rfl))⟩
 ·rcases o9 with ⟨⟩ | r0
  ·rintro x st' hq11
   clear hL10
   obtain ⟨rfl, hq11⟩ := hq11
   refine CQ_exit _ rfl <| .wk hq11 <| .seq <| .ru fine <| .ret ?_
   obtain rfl := Option.some.inj hr
   exact FinQ.r1 [aI64 (-1)]
  ·rintro x st' hq11
   clear hL10
   obtain ⟨rfl, hq11⟩ := hq11
   obtain rfl := Option.some.inj hr
   exact CQ_ret _ hq11

theorem slices_Contains_fiducial_api_Pix_fiducial_api_Pix_ok (n : Nat) (s : List api_Pix) (v : api_Pix) (r : Bool) (hr : slices_Contains_fiducial_api_Pix_fiducial_api_Pix n s v = some r) : FnOk Tryz.prog 83 [slT api_Pix.c s, .agg (api_Pix.c v)] (aB r) := by
 unfold slices_Contains_fiducial_api_Pix_fiducial_api_Pix at hr
 refine FnOk.bd fine Tryz.func83 [.tmp 4] ?_
 unfold Tryz.f83
 simp only [Option.getD_some]
 refine .seq <| .r2 fine 9 [(0, slT api_Pix.c s), (3, .hp 0 0)] [.own (api_Pix.c v)] <| .seq ?_
 obtain ⟨v1, hc2, hr⟩ := bd hr
 refine .g1 fine (ok0 (slices_Index_fiducial_api_Pix_fiducial_api_Pix_ok n s v v1 hc2)) <| .mu 2 <| .ca cf0 <| .mu 2 <| .done <| .ret ?_
 obtain rfl := Option.some.inj hr
 exact FinQ.r1 [aB (decide (v1 ≥ 0))]

theorem predicate_Relate_1_w_ok (n : Nat) (p : api_Pix) (lies : Bool) (p' : List api_Pix) (r : List api_Pix) (hr : predicate_Relate_1_w n p lies p' = some r) : FnMut 1 Tryz.prog 82 [.agg (api_Pix.c p), aB lies, .hp 0 0] [.own [.hs 1 0 p'.length 2], .own (p'.flatMap api_Pix.c)] (.tup []) [.own [.hs 1 0 r.length 2], .own (r.flatMap api_Pix.c)] := by
 unfold predicate_Relate_1_w at hr
 refine FnMut.body fine Tryz.func82 (c := (Tryz.f82.body).getD .skip) rfl (us := []) (s := mkS 16 0 [(0, .agg (api_Pix.c p)), (1, aB lies), (2, .hp 0 0)]) (by kernel_rfl) (rs := []) rfl ?_
 unfold Tryz.f82
 simp only [Option.getD_some]
 refine .seq <| .r2 fine 16 [(1, aB lies), (2, .hp 0 0), (3, .hp 2 0)] [.own [.hs 1 0 p'.length 2], .own (p'.flatMap api_Pix.c), .own (api_Pix.c p)] <| .seq ?_
 rcases Bool.eq_false_or_eq_true lies with hb8 | hb8
 ·replace hr := cd_t hb8 hr
  obtain ⟨v9, hc10, hr⟩ := bd hr
  refine .g1 fine (callOk_val (args := [.hs 1 0 p'.length 2, .agg (api_Pix.c p)]) (l := [1]) rfl (SnL.cons (Sn.hs rfl (.inl rfl) (SnC.pure (ids_flat api_Pix.pure _)) (fun h => flat_nil0 h)) (SnL.cons (Sn.pure rfl) SnL.nil)) (slices_Contains_fiducial_api_Pix_fiducial_api_Pix_ok n p' p v9 hc10)) <| .p0 (v := aB true) (Eq.trans (b := some (.pure (aB lies))) (by kernel_rfl) (by rw [hb8])) <| .mu 3 <| .ca cf0 <| .mu 2 <| .done <| .n2 16 [(2, .hp 0 0), (3, .hp 2 0), (11, aB (!v9))] [.own [.hs 1 0 p'.length 2], .own (p'.flatMap api_Pix.c), .own (api_Pix.c p)] ?_
  refine .cd hr (fun hb11 hr => ?_) (fun hb11 hr => ?_)
  ·obtain ⟨hg12, hg13, hr⟩ := gd2 hr
   refine .r0 fine <| .mu 3 <| .e0 (v := .hs 4 0 (p' ++ [p]).length 2) (ws := [(1, .dead), (4, .own ((p' ++ [p]).flatMap api_Pix.c))]) (Eq.trans (b := guardO (decide (0 + p'.length * 2 ≤ (p'.flatMap api_Pix.c).length) && decide ((p'.length + 1) * 16 ≤ 140737488355328) && decide (p'.length + 1 ≤ 4611686018427387904)) (some (.eff (.hs 4 0 (p'.length + 1) 2) [(1, .dead), (4, .own (((p'.flatMap api_Pix.c).drop 0).take (p'.length * 2) ++ (api_Pix.c p)))]))) (by kernel_rfl) (app_own (l := p') (xs := [p]) api_Pix.len rfl rfl (by kernel_rfl) hg12 hg13)) <| .mu 1 <| .done ?_
   obtain rfl := Option.some.inj hr
   exact FinM.normal [] ((Wk.gc [] [(0, true), (4, false)] rfl (pKt (pKo api_Pix.c api_Pix.pure (p' ++ [p]) trivial))).to (by kernel_rfl))
  ·refine .skip ?_
   obtain rfl := Option.some.inj hr
   exact FinM.normal [] ((Wk.gc [] [(0, true), (1, false)] rfl (pKt (pKo api_Pix.c api_Pix.pure p' trivial))).to (by kernel_rfl))
 ·replace hr := cd_f hb8 hr
  refine .r0 fine <| .p0 (v := aB false) (Eq.trans (b := some (.pure (aB lies))) (by kernel_rfl) (by rw [hb8])) <| .mu 6 <| .done <| .n2 16 [(2, .hp 0 0), (3, .hp 2 0), (11, aB false)] [.own [.hs 1 0 p'.length 2], .own (p'.flatMap api_Pix.c), .own (api_Pix.c p)] <| .cF (by kernel_rfl) <| .skip ?_
  obtain rfl := Option.some.inj hr
  exact FinM.normal [] ((Wk.gc [] [(0, true), (1, false)] rfl (pKt (pKo api_Pix.c api_Pix.pure p' trivial))).to (by kernel_rfl))

theorem cmp_isNaN_int_ok (n : Nat) (x' : Int) (r : Bool) (hr : cmp_isNaN_int n x' = some r) : FnOk Tryz.prog 122 [aI64 x'] (aB r) := by
 unfold cmp_isNaN_int at hr
 refine FnOk.bd fine Tryz.func122 [.tmp 2] ?_
 unfold Tryz.f122
 simp only [Option.getD_some]
 refine .seq <| .r3 fine 6 [(0, aI64 x')] <| .seq <| .ru fine <| .ret ?_
 obtain rfl := Option.some.inj hr
 exact FinQ.r1 [aB ((x' : Int) != x')]

theorem cmp_Compare_int_ok (n : Nat) (x' : Int) (y : Int) (r : Int) (hr : cmp_Compare_int n x' y = some r) : FnOk Tryz.prog 75 [aI64 x', aI64 y] (aI64 r) := by
 unfold cmp_Compare_int at hr
 refine FnOk.bd fine Tryz.func75 [.tmp 4] ?_
 unfold Tryz.f75
 simp only [Option.getD_some]
 refine .seq <| .r3 fine 20 [(0, aI64 x'), (1, aI64 y)] <| .seq ?_
 obtain ⟨v1, hc2, hr⟩ := bd hr
 refine .g1 fine (ok0 (cmp_isNaN_int_ok n x' v1 hc2)) <| .mu 1 <| .ca cf0 <| .mu 1 <| .done <| .n2 20 [(0, aI64 x'), (1, aI64 y), (5, aB v1)] [] <| .seq ?_
 obtain ⟨v3, hc4, hr⟩ := bd hr
 refine .g1 fine (ok0 (cmp_isNaN_int_ok n y v3 hc4)) <| .mu 1 <| .ca cf0 <| .mu 1 <| .done <| .n2 20 [(0, aI64 x'), (1, aI64 y), (5, aB v1), (6, aB v3)] [] <| .seq <| .seq <| .r3 fine 20 [(0, aI64 x'), (1, aI64 y), (6, aB v3), (11, aB v1)] ?_
 refine .cd hr (fun hb5 hr => ?_) (fun hb5 hr => ?_)
 ·refine .seq <| .seq <| .r3 fine 20 [(12, aB v3)] ?_
  refine .cd hr (fun hb6 hr => ?_) (fun hb6 hr => ?_)
  ·refine .seq <| .ru fine <| .ret ?_
   obtain rfl := Option.some.inj hr
   exact FinQ.r1 [aI64 0]
  ·refine .skip <| .seq <| .ru fine <| .ret ?_
   obtain rfl := Option.some.inj hr
   exact FinQ.r1 [aI64 (-1)]
 ·refine .skip <| .seq <| .seq <| .r3 fine 20 [(0, aI64 x'), (1, aI64 y), (13, aB v3)] ?_
  refine .cd hr (fun hb7 hr => ?_) (fun hb7 hr => ?_)
  ·refine .seq <| .ru fine <| .ret ?_
   obtain rfl := Option.some.inj hr
   exact FinQ.r1 [aI64 1]
  ·refine .skip <| .seq <| .seq <| .r3 fine 20 [(0, aI64 x'), (1, aI64 y), (16, aB (decide (x' < y)))] ?_
   refine .cd hr (fun hb8 hr => ?_) (fun hb8 hr => ?_)
   ·refine .seq <| .ru fine <| .ret ?_
    obtain rfl := Option.some.inj hr
    exact FinQ.r1 [aI64 (-1)]
   ·refine .skip <| .seq <| .seq <| .r3 fine 20 [(19, aB (decide (x' > y)))] ?_
    refine .cd hr (fun hb9 hr => ?_) (fun hb9 hr => ?_)
    ·refine .seq <| .ru fine <| .ret ?_
     obtain rfl := Option.some.inj hr
     exact FinQ.r1 [aI64 1]
    ·refine .skip <| .seq <| .ru fine <| .ret ?_
     obtain rfl := Option.some.inj hr
     exact FinQ.r1 [aI64 0]

theorem predicate_sign_inj {n' : Int} {n'_ : Int} (h : ([.at (.int .i64 n')] : List AV) = [.at (.int .i64 n'_)]) : n' = n'_ := by
 simp only [List.cons.injEq, AV.agg.injEq, AV.at.injEq, Value.int.injEq, Value.bool.injEq, AV.fn.injEq, AV.pp.injEq, true_and, and_true] at h
 simp_all
theorem predicate_sign_cg (n : Nat) {n' : Int} {n'_ : Int} (h : ([.at (.int .i64 n')] : List AV) = [.at (.int .i64 n'_)]) : predicate_sign n n' = predicate_sign n n'_ := by
 obtain rfl := predicate_sign_inj h
 rfl
theorem predicate_sign_ok (n : Nat) (n' : Int) (r : Int) (hr : predicate_sign n n' = some r) : FnOk Tryz.prog 42 [aI64 n'] (aI64 r) := by
 unfold predicate_sign at hr
 refine FnOk.bd fine Tryz.func42 [.tmp 2] ?_
 unfold Tryz.f42
 simp only [Option.getD_some]
 refine .seq <| .r3 fine 5 [(0, aI64 n')] <| .seq ?_
 obtain ⟨v1, hc2, hr⟩ := bd hr
 refine .g1 fine (ok0 (cmp_Compare_int_ok n n' 0 v1 hc2)) <| .mu 1 <| .ca cf0 <| .mu 1 <| .done <| .ret ?_
 obtain rfl := Option.some.inj hr
 exact FinQ.r1 [aI64 v1]

theorem predicate_Relate_ok (n : Nat) (a : api_Pix) (b : api_Pix) (c : api_Pix) (d : api_Pix) (r : Int × Int) (hr : predicate_Relate n a b c d = some r) : FnOk Tryz.prog 36 [.agg (api_Pix.c a), .agg (api_Pix.c b), .agg (api_Pix.c c), .agg (api_Pix.c d)] (.tup [aI64 r.1, aI64 r.2]) := by
 unfold predicate_Relate at hr
 refine FnOk.bd fine Tryz.func36 [.tmp 8, .tmp 9] ?_
 unfold Tryz.f36
 simp only [Option.getD_some]
 refine .seq <| .r2 fine 83 [(4, .hp 0 0), (5, .hp 1 0), (6, .hp 2 0), (7, .hp 3 0)] [.own (api_Pix.c a), .own (api_Pix.c b), .own (api_Pix.c c), .own (api_Pix.c d)] <| .seq <| .seq ?_
 obtain ⟨v1, hc2, hr⟩ := bd hr
 refine .gn fine (ca4 [.own (api_Pix.c a), .own (api_Pix.c b), .own (api_Pix.c c), .own (api_Pix.c d), .own [aI64 a.X, aI64 a.Y, aI64 b.X, aI64 b.Y, aI64 c.X, aI64 c.Y, aI64 d.X, aI64 d.Y]] (callOk_val (args := [.hs 4 0 4 2]) (l := [4]) rfl (SnL.cons (Sn.hs rfl (.inl rfl) (SnC.cons (Sn.pure rfl) (SnC.cons (Sn.pure rfl) (SnC.cons (Sn.pure rfl) (SnC.cons (Sn.pure rfl) (SnC.cons (Sn.pure rfl) (SnC.cons (Sn.pure rfl) (SnC.cons (Sn.pure rfl) (SnC.cons (Sn.pure rfl) SnC.nil)))))))) (fun h => nomatch h)) SnL.nil) (predicate_Check_ok n [a, b, c, d] v1 hc2))) <| .mu 5 <| .ca cf0 <| .mu 1 <| .done <| .n2 83 [(4, .hp 0 0), (5, .hp 1 0), (6, .hp 2 0), (7, .hp 3 0), (10, aI64 v1)] [.own (api_Pix.c a), .own (api_Pix.c b), .own (api_Pix.c c), .own (api_Pix.c d), .own [aI64 a.X, aI64 a.Y, aI64 b.X, aI64 b.Y, aI64 c.X, aI64 c.Y, aI64 d.X, aI64 d.Y]] <| .seq <| .r3 fine 83 [(4, .hp 0 0), (5, .hp 1 0), (6, .hp 2 0), (7, .hp 3 0), (10, aI64 v1), (20, aB ((v1 : Int) != 0))] ?_
 refine .cd hr (fun hb3 hr => ?_) (fun hb3 hr => ?_)
 ·refine .seq <| .ru fine <| .ret ?_
  obtain rfl := Option.some.inj hr
  exact FinQ.ret (vs := [aI64 0, aI64 v1]) (by kernel_rfl) (Sn.tup (SnL.cons (Sn.pure rfl) (SnL.cons (Sn.pure rfl) SnL.nil)))
 ·refine .skip <| .seq <| .r2 fine 83 [(4, .hp 0 0), (5, .hp 1 0), (6, .hp 2 0), (7, .hp 3 0), (11, .hp 5 0)] [.own (api_Pix.c a), .own (api_Pix.c b), .own (api_Pix.c c), .own (api_Pix.c d), .own [aI64 a.X, aI64 a.Y, aI64 b.X, aI64 b.Y, aI64 c.X, aI64 c.Y, aI64 d.X, aI64 d.Y], .own [nS]] <| .seq <| .r3 fine 83 [(4, .hp 0 0), (5, .hp 1 0), (6, .hp 2 0), (7, .hp 3 0), (11, .hp 5 0), (12, .fn 82 [] [.hp 5 0])] <| .seq <| .wk ((Wk.nilcell 5 0 2 (cs := [nS]) (by kernel_rfl) (by kernel_rfl)).to (c := ⟨mkS 83 0 [(4, .hp 0 0), (5, .hp 1 0), (6, .hp 2 0), (7, .hp 3 0), (11, .hp 5 0), (12, .fn 82 [] [.hp 5 0])], [.own (api_Pix.c a), .own (api_Pix.c b), .own (api_Pix.c c), .own (api_Pix.c d), .own [aI64 a.X, aI64 a.Y, aI64 b.X, aI64 b.Y, aI64 c.X, aI64 c.Y, aI64 d.X, aI64 d.Y], .own [.hs 6 0 ([] : List api_Pix).length 2], .own (([] : List api_Pix).flatMap api_Pix.c)]⟩) (by kernel_rfl)) ?_
  obtain ⟨v4, hc5, v6, hc7, hr⟩ := bd2 hr
  refine .tn fine (ca1 (ok0 (predicate_on_ok n c d a v4 hc5)) (ca3 (callOk_mutU (args := [.agg (api_Pix.c a), aB v4, .hp 5 0]) 1 1 [(5, true), (6, false)] [true, false] (predicate_Relate_1_w_ok n a v4 ([] : List api_Pix) v6 hc7) (by exact ⟨ids_flat api_Pix.pure _, trivial⟩) (by exact ⟨ids_flat api_Pix.pure _, trivial⟩) rfl rfl (by kernel_rfl) (by kernel_rfl)))) <| .mu 5 <| .ca cf0 <| .ca (cfF cf0) ?_
  refine .done ⟨by kernel_rfl, ?_⟩
  refine .n2 83 [(4, .hp 0 0), (5, .hp 1 0), (6, .hp 2 0), (7, .hp 3 0), (11, .hp 5 0), (12, .fn 82 [] [.hp 5 0])] [.own (api_Pix.c a), .own (api_Pix.c b), .own (api_Pix.c c), .own (api_Pix.c d), .own [aI64 a.X, aI64 a.Y, aI64 b.X, aI64 b.Y, aI64 c.X, aI64 c.Y, aI64 d.X, aI64 d.Y], .own [.hs 7 0 v6.length 2], .dead, .own (v6.flatMap api_Pix.c)] <| .seq ?_
  obtain ⟨v8, hc9, v10, hc11, hr⟩ := bd2 hr
  refine .tn fine (ca1 (ok0 (predicate_on_ok n c d b v8 hc9)) (ca3 (callOk_mutU (args := [.agg (api_Pix.c b), aB v8, .hp 5 0]) 1 1 [(5, true), (7, false)] [true, false] (predicate_Relate_1_w_ok n b v8 v6 v10 hc11) (by exact ⟨ids_flat api_Pix.pure _, trivial⟩) (by exact ⟨ids_flat api_Pix.pure _, trivial⟩) rfl rfl (by kernel_rfl) (by kernel_rfl)))) <| .mu 5 <| .ca cf0 <| .ca (cfF cf0) ?_
  refine .done ⟨by kernel_rfl, ?_⟩
  refine .n2 83 [(4, .hp 0 0), (5, .hp 1 0), (6, .hp 2 0), (7, .hp 3 0), (11, .hp 5 0), (12, .fn 82 [] [.hp 5 0])] [.own (api_Pix.c a), .own (api_Pix.c b), .own (api_Pix.c c), .own (api_Pix.c d), .own [aI64 a.X, aI64 a.Y, aI64 b.X, aI64 b.Y, aI64 c.X, aI64 c.Y, aI64 d.X, aI64 d.Y], .own [.hs 8 0 v10.length 2], .dead, .dead, .own (v10.flatMap api_Pix.c)] <| .seq ?_
  obtain ⟨v12, hc13, v14, hc15, hr⟩ := bd2 hr
  refine .tn fine (ca1 (ok0 (predicate_on_ok n a b c v12 hc13)) (ca3 (callOk_mutU (args := [.agg (api_Pix.c c), aB v12, .hp 5 0]) 1 1 [(5, true), (8, false)] [true, false] (predicate_Relate_1_w_ok n c v12 v10 v14 hc15) (by exact ⟨ids_flat api_Pix.pure _, trivial⟩) (by exact ⟨ids_flat api_Pix.pure _, trivial⟩) rfl rfl (by kernel_rfl) (by kernel_rfl)))) <| .mu 5 <| .ca cf0 <| .ca (cfF cf0) ?_
  refine .done ⟨by kernel_rfl, ?_⟩
  refine .n2 83 [(4, .hp 0 0), (5, .hp 1 0), (6, .hp 2 0), (7, .hp 3 0), (11, .hp 5 0), (12, .fn 82 [] [.hp 5 0])] [.own (api_Pix.c a), .own (api_Pix.c b), .own (api_Pix.c c), .own (api_Pix.c d), .own [aI64 a.X, aI64 a.Y, aI64 b.X, aI64 b.Y, aI64 c.X, aI64 c.Y, aI64 d.X, aI64 d.Y], .own [.hs 9 0 v14.length 2], .dead, .dead, .dead, .own (v14.flatMap api_Pix.c)] <| .seq ?_
  obtain ⟨v16, hc17, v18, hc19, hr⟩ := bd2 hr
  refine .tn fine (ca1 (ok0 (predicate_on_ok n a b d v16 hc17)) (ca3 (callOk_mutU (args := [.agg (api_Pix.c d), aB v16, .hp 5 0]) 1 1 [(5, true), (9, false)] [true, false] (predicate_Relate_1_w_ok n d v16 v14 v18 hc19) (by exact ⟨ids_flat api_Pix.pure _, trivial⟩) (by exact ⟨ids_flat api_Pix.pure _, trivial⟩) rfl rfl (by kernel_rfl) (by kernel_rfl)))) <| .mu 5 <| .ca cf0 <| .ca (cfF cf0) ?_
  refine .done ⟨by kernel_rfl, ?_⟩
  refine .n2 83 [(4, .hp 0 0), (5, .hp 1 0), (6, .hp 2 0), (7, .hp 3 0), (11, .hp 5 0)] [.own (api_Pix.c a), .own (api_Pix.c b), .own (api_Pix.c c), .own (api_Pix.c d), .own [aI64 a.X, aI64 a.Y, aI64 b.X, aI64 b.Y, aI64 c.X, aI64 c.Y, aI64 d.X, aI64 d.Y], .own [.hs 10 0 v18.length 2], .dead, .dead, .dead, .dead, .own (v18.flatMap api_Pix.c)] <| .seq <| .seq <| .r3 fine 83 [(4, .hp 0 0), (5, .hp 1 0), (6, .hp 2 0), (7, .hp 3 0), (52, aI64 (v18.length : Int))] <| .block <| .seq <| .r3 fine 83 [(4, .hp 0 0), (5, .hp 1 0), (6, .hp 2 0), (7, .hp 3 0), (52, aI64 (v18.length : Int)), (53, aB (((v18.length : Int) : Int) == 0))] ?_
  refine .cd hr (fun hb20 hr => ?_) (fun hb20 hr => ?_)
  ·refine .seq <| .seq ?_
   obtain ⟨v21, hc22, v23, hc24, v25, hc26, hr⟩ := bd3 hr
   obtain ⟨v27, hc28, hr⟩ := bd hr
   rcases Bool.eq_false_or_eq_true (decide ((wrapF .i64 (v23 * v27)) < 0)) with hb29 | hb29
   ·replace hr := cd_t hb29 hr
    obtain ⟨v30, hc31, v32, hc33, v34, hc35, hr⟩ := bd3 hr
    obtain ⟨v36, hc37, hr⟩ := bd hr
    refine .tn fine (ca1 (ok0 (predicate_cross_ok n a b c v21 hc22)) (ca1 (ok0 (predicate_sign_ok n v21 v23 hc24)) (ca1 (ok0 (predicate_cross_ok n a b d v25 hc26)) (ca1 (ok0 (predicate_sign_ok n v25 v27 hc28)) (ca1 (ok0 (predicate_cross_ok n c d a v30 hc31)) (ca1 (ok0 (predicate_sign_ok n v30 v32 hc33)) (ca1 (ok0 (predicate_cross_ok n c d b v34 hc35)) (ca3 (ok0 (predicate_sign_ok n v34 v36 hc37)))))))))) <| .mu 3 <| .ca cf0 <| .ca (cfF cf0) <| .mu 3 <| .ca (cfA (fun h => by rw [sv hc26 hc22 (predicate_cross_cg n h)]) (cfF cf0)) <| .ca (cfF (cfA (fun h => by rw [sv hc28 hc24 (predicate_sign_cg n h)]) (cfF cf0))) <| .mu 1 <| .pure (v := aB true) (by kernel_rfl) (Eq.trans (b := some (.pure (aB (decide ((wrapF .i64 (v23 * v27)) < 0))))) (by kernel_rfl) (by rw [hb29])) (by kernel_rfl) <| .mu 4 <| .ca (cfA (fun h => by rw [sv hc31 hc22 (predicate_cross_cg n h)]) (cfF (cfA (fun h => by rw [sv hc31 hc26 (predicate_cross_cg n h)]) (cfF cf0)))) <| .ca (cfF (cfA (fun h => by rw [sv hc33 hc24 (predicate_sign_cg n h)]) (cfF (cfA (fun h => by rw [sv hc33 hc28 (predicate_sign_cg n h)]) (cfF cf0))))) <| .mu 3 <| .ca (cfA (fun h => by rw [sv hc35 hc22 (predicate_cross_cg n h)]) (cfF (cfA (fun h => by rw [sv hc35 hc26 (predicate_cross_cg n h)]) (cfF (cfA (fun h => by rw [sv hc35 hc31 (predicate_cross_cg n h)]) (cfF cf0)))))) <| .ca (cfF (cfA (fun h => by rw [sv hc37 hc24 (predicate_sign_cg n h)]) (cfF (cfA (fun h => by rw [sv hc37 hc28 (predicate_sign_cg n h)]) (cfF (cfA (fun h => by rw [sv hc37 hc33 (predicate_sign_cg n h)]) (cfF cf0))))))) <| .mu 3 ?_
    refine .done ⟨by kernel_rfl, ?_⟩
    refine .n2 83 [(80, aB (decide ((wrapF .i64 (v32 * v36)) < 0)))] [.own (api_Pix.c a), .own (api_Pix.c b), .own (api_Pix.c c), .own (api_Pix.c d), .own [aI64 a.X, aI64 a.Y, aI64 b.X, aI64 b.Y, aI64 c.X, aI64 c.Y, aI64 d.X, aI64 d.Y], .own [.hs 10 0 v18.length 2], .dead, .dead, .dead, .dead, .own (v18.flatMap api_Pix.c)] ?_
    refine .cd hr (fun hb38 hr => ?_) (fun hb38 hr => ?_)
    ·refine .seq <| .ru fine <| .ret ?_
     obtain rfl := Option.some.inj hr
     exact FinQ.ret (vs := [aI64 2, aI64 0]) (by kernel_rfl) (Sn.tup (SnL.cons (Sn.pure rfl) (SnL.cons (Sn.pure rfl) SnL.nil)))
    ·refine .skip <| .seq <| .ru fine <| .ret ?_
     obtain rfl := Option.some.inj hr
     exact FinQ.ret (vs := [aI64 0, aI64 0]) (by kernel_rfl) (Sn.tup (SnL.cons (Sn.pure rfl) (SnL.cons (Sn.pure rfl) SnL.nil)))
   ·replace hr := cd_f hb29 hr
    refine .tn fine (ca1 (ok0 (predicate_cross_ok n a b c v21 hc22)) (ca1 (ok0 (predicate_sign_ok n v21 v23 hc24)) (ca1 (ok0 (predicate_cross_ok n a b d v25 hc26)) (ca3 (ok0 (predicate_sign_ok n v25 v27 hc28)))))) <| .mu 3 <| .ca cf0 <| .ca (cfF cf0) <| .mu 3 <| .ca (cfA (fun h => by rw [sv hc26 hc22 (predicate_cross_cg n h)]) (cfF cf0)) <| .ca (cfF (cfA (fun h => by rw [sv hc28 hc24 (predicate_sign_cg n h)]) (cfF cf0))) <| .mu 1 <| .pure (v := aB false) (by kernel_rfl) (Eq.trans (b := some (.pure (aB (decide ((wrapF .i64 (v23 * v27)) < 0))))) (by kernel_rfl) (by rw [hb29])) (by kernel_rfl) <| .mu 14 ?_
    refine .done ⟨by kernel_rfl, ?_⟩
    refine .n2 83 [(80, aB false)] [.own (api_Pix.c a), .own (api_Pix.c b), .own (api_Pix.c c), .own (api_Pix.c d), .own [aI64 a.X, aI64 a.Y, aI64 b.X, aI64 b.Y, aI64 c.X, aI64 c.Y, aI64 d.X, aI64 d.Y], .own [.hs 10 0 v18.length 2], .dead, .dead, .dead, .dead, .own (v18.flatMap api_Pix.c)] <| .cF (by kernel_rfl) <| .skip <| .seq <| .ru fine <| .ret ?_
    obtain rfl := Option.some.inj hr
    exact FinQ.ret (vs := [aI64 0, aI64 0]) (by kernel_rfl) (Sn.tup (SnL.cons (Sn.pure rfl) (SnL.cons (Sn.pure rfl) SnL.nil)))
  ·refine .seq <| .r3 fine 83 [(81, aB (((v18.length : Int) : Int) == 1))] ?_
   refine .cd hr (fun hb39 hr => ?_) (fun hb39 hr => ?_)
   ·refine .seq <| .ru fine <| .ret ?_
    obtain rfl := Option.some.inj hr
    exact FinQ.ret (vs := [aI64 1, aI64 0]) (by kernel_rfl) (Sn.tup (SnL.cons (Sn.pure rfl) (SnL.cons (Sn.pure rfl) SnL.nil)))
   ·refine .skip <| .pop <| .seq <| .ru fine <| .ret ?_
    obtain rfl := Option.some.inj hr
    exact FinQ.ret (vs := [aI64 3, aI64 0]) (by kernel_rfl) (Sn.tup (SnL.cons (Sn.pure rfl) (SnL.cons (Sn.pure rfl) SnL.nil)))

theorem integer_split_inj {n' : Int} {n'_ : Int} (h : ([.at (.int .u64 n')] : List AV) = [.at (.int .u64 n'_)]) : n' = n'_ := by
 simp only [List.cons.injEq, AV.agg.injEq, AV.at.injEq, Value.int.injEq, Value.bool.injEq, AV.fn.injEq, AV.pp.injEq, true_and, and_true] at h
 simp_all
theorem integer_split_cg (n : Nat) {n' : Int} {n'_ : Int} (h : ([.at (.int .u64 n')] : List AV) = [.at (.int .u64 n'_)]) : integer_split n n' = integer_split n n'_ := by
 obtain rfl := integer_split_inj h
 rfl
theorem integer_split_ok (n : Nat) (n' : Int) (r : List Int) (hr : integer_split n n' = some r) : FnOk Tryz.prog 96 [aU64 n'] (sU32 r) := by
 unfold integer_split at hr
 refine FnOk.bd fine Tryz.func96 [.tmp 2] ?_
 unfold Tryz.f96
 simp only [Option.getD_some]
 refine .seq <| .r3 fine 15 [(0, aU64 n')] <| .seq <| .r3 fine 15 [(0, aU64 n'), (3, nS)] <| .seq <| .block ?_
 replace hr := bd hr; obtain ⟨g_6, hL12, hr⟩ := hr
 refine .loopO (σ := fun z0 => match z0 with | (n_1, g_2) => ⟨mkS 15 0 [(0, aU64 n_1), (3, .hs 0 0 g_2.length 1)], [.own (g_2.flatMap (iC .u32))]⟩) (Q := fun x st' => x = .exit 0 ∧ Wk 0 st' ⟨mkS 15 0 [(3, .hs 0 0 g_6.length 1)], [.own (g_6.flatMap (iC .u32))]⟩) hL12 ((Wk.nil 3 1 (by kernel_rfl)).trans ((Wk.gc [0, 3] [(0, false)] rfl (pKc trivial)).to (by kernel_rfl))) ?_ ?_
 ·clear hr
  rintro m ⟨n_1, g_2⟩ hr
  show CQ _ _ _ _ _ ⟨_, _⟩
  refine .seq <| .seq <| .r3 fine 15 [(0, aU64 n_1), (3, .hs 0 0 g_2.length 1), (5, aB (decide (n_1 > 0)))] ?_
  refine .cd hr (fun hb8 hr => ?_) (fun hb8 hr => ?_)
  ·refine .skip <| .seq <| .block ?_
   obtain ⟨hg9, hg10, hr⟩ := gd2 hr
   refine .r0 fine <| .mu 5 <| .e0 (v := .hs 2 0 (g_2 ++ [wrapF .u32 (n_1.tmod 1000000000)]).length 1) (ws := [(0, .dead), (2, .own ((g_2 ++ [wrapF .u32 (n_1.tmod 1000000000)]).flatMap (iC .u32)))]) (Eq.trans (b := guardO (decide (0 + g_2.length * 1 ≤ (g_2.flatMap (iC .u32)).length) && decide ((g_2.length + 1) * 4 ≤ 140737488355328) && decide (g_2.length + 1 ≤ 4611686018427387904)) (some (.eff (.hs 2 0 (g_2.length + 1) 1) [(0, .dead), (2, .own (((g_2.flatMap (iC .u32)).drop 0).take (g_2.length * 1) ++ [aU32 (wrapF .u32 (n_1.tmod 1000000000))]))]))) (by kernel_rfl) (app_own (l := g_2) (xs := [wrapF .u32 (n_1.tmod 1000000000)]) (iC_len _) rfl rfl (by kernel_rfl) hg9 hg10)) <| .mu 1 <| .done <| .pop <| .ru fine ?_
   exact loopF_back (wrapF .u64 (n_1.tdiv 1000000000), g_2 ++ [wrapF .u32 (n_1.tmod 1000000000)]) hr ((Wk.gc [0, 3] [(2, false)] rfl (pKo (iC .u32) (iC_pure _) (g_2 ++ [wrapF .u32 (n_1.tmod 1000000000)]) trivial)).to (by kernel_rfl))
  ·refine .leave rfl ?_
   obtain rfl := Option.some.inj hr
   exact ⟨rfl, ((Wk.gc [3] [(0, false)] rfl (pKo (iC .u32) (iC_pure _) g_2 trivial)).to (by kernel_rfl))⟩
 ·rintro x st' hq13
  clear hL12
  obtain ⟨rfl, hq13⟩ := hq13
  refine CQ_exit _ rfl <| .wk hq13 <| .seq <| .r3 fine 15 [(2, .hs 0 0 g_6.length 1)] <| .ret ?_
  obtain rfl := Option.some.inj hr
  exact FinQ.ret (vs := [.hs 0 0 g_6.length 1]) (by kernel_rfl) (Sn.hs rfl (.inl rfl) (SnC.pure (ids_flat (iC_pure _) _)) (fun h => flat_nil0 h))

theorem integer_trim_ok (n : Nat) (g : List Int) (r : List Int) (hr : integer_trim n g = some r) : FnOk Tryz.prog 131 [sU32 g] (sU32 r) := by
 unfold integer_trim at hr
 refine FnOk.bd fine Tryz.func131 [.tmp 2] ?_
 unfold Tryz.f131
 simp only [Option.getD_some]
 refine .seq <| .r3 fine 21 [(0, sU32 g)] <| .seq <| .block ?_
 replace hr := bd hr; obtain ⟨g_6, hL13, hr⟩ := hr
 refine .loopO (σ := fun z0 => match z0 with | g_1 => ⟨mkS 21 0 [(0, sU32 g_1)], []⟩) (Q := fun x st' => x = .exit 0 ∧ Wk 0 st' ⟨mkS 21 0 [(0, sU32 g_6)], []⟩) hL13 ((Wk.gc [0] [] rfl pK0).to (by kernel_rfl)) ?_ ?_
 ·clear hr
  rintro m g_1 hr
  show CQ _ _ _ _ _ ⟨_, _⟩
  refine .seq <| .seq ?_
  rcases Bool.eq_false_or_eq_true (decide ((g_1.length : Int) > 0)) with hb8 | hb8
  ·replace hr := cd_t hb8 hr
   obtain ⟨hg9, hr⟩ := gd hr
   refine .r0 fine <| .mu 2 <| .p0 (v := aB true) (Eq.trans (b := some (.pure (aB (decide ((g_1.length : Int) > 0))))) (by kernel_rfl) (by rw [hb8])) <| .mu 5 <| .pure (v := .pp (g_1.flatMap (iC .u32)) ((wrapF .i64 ((g_1.length : Int) - 1)).toNat * 1)) (by kernel_rfl) (Eq.trans (b := ORes.ofP (guardV (inR (wrapF .i64 ((g_1.length : Int) - 1)) g_1.length) (.pp (g_1.flatMap (iC .u32)) ((wrapF .i64 ((g_1.length : Int) - 1)).toNat * 1)))) (by kernel_rfl) (ofP_guard hg9)) <| .pure (v := aU32 (gt g_1 (wrapF .i64 ((g_1.length : Int) - 1)))) (by kernel_rfl) (Eq.trans (b := ORes.ofP ((g_1.flatMap (iC .u32))[(wrapF .i64 ((g_1.length : Int) - 1)).toNat * 1]?)) (by kernel_rfl) (ofP_some (flat_get (iC_len _) (inR_lt hg9) (by decide : 0 < 1) (by omega : (wrapF .i64 ((g_1.length : Int) - 1)).toNat * 1 = (wrapF .i64 ((g_1.length : Int) - 1)).toNat * 1 + 0) (by kernel_rfl)))) <| .mu 2 <| .done <| .n2 21 [(0, sU32 g_1), (14, aB (((gt g_1 (wrapF .i64 ((g_1.length : Int) - 1))) : Int) == 0))] [] ?_
   refine .cd hr (fun hb10 hr => ?_) (fun hb10 hr => ?_)
   ·refine .skip <| .block ?_
    obtain ⟨hg11, hr⟩ := gd hr
    refine .r0 fine <| .mu 4 <| .p0 (v := sU32 ((g_1.drop (0 : Int).toNat).take ((wrapF .i64 ((g_1.length : Int) - 1)).toNat - (0 : Int).toNat))) (Eq.trans (b := slO (inS 0 (wrapF .i64 ((g_1.length : Int) - 1)) g_1.length) (0 : Int).toNat (wrapF .i64 ((g_1.length : Int) - 1)).toNat (fun z1 z2 => .sl true (((g_1.flatMap (iC .u32)).drop (z1 * 1)).take ((z2 - z1) * 1)) (z2 - z1))) (by kernel_rfl) (slO_t hg11 (sub_sl (iC_len _) (inS_le hg11)))) <| .mu 1 <| .done <| .pop ?_
    exact loopF_back ((g_1.drop (0 : Int).toNat).take ((wrapF .i64 ((g_1.length : Int) - 1)).toNat - (0 : Int).toNat)) hr ((Wk.gc [0] [] rfl pK0).to (by kernel_rfl))
   ·refine .leave rfl ?_
    obtain rfl := Option.some.inj hr
    exact ⟨rfl, ((Wk.gc [0] [] rfl pK0).to (by kernel_rfl))⟩
  ·replace hr := cd_f hb8 hr
   refine .r0 fine <| .mu 2 <| .p0 (v := aB false) (Eq.trans (b := some (.pure (aB (decide ((g_1.length : Int) > 0))))) (by kernel_rfl) (by rw [hb8])) <| .mu 9 <| .done <| .n2 21 [(0, sU32 g_1), (14, aB false)] [] <| .cF (by kernel_rfl) <| .leave rfl ?_
   obtain rfl := Option.some.inj hr
   exact ⟨rfl, ((Wk.gc [0] [] rfl pK0).to (by kernel_rfl))⟩
 ·rintro x st' hq14
  clear hL13
  obtain ⟨rfl, hq14⟩ := hq14
  refine CQ_exit _ rfl <| .wk hq14 <| .seq <| .ru fine <| .ret ?_
  obtain rfl := Option.some.inj hr
  exact FinQ.r1 [sU32 g_6]

theorem integer_made_inj {negative : Bool} {g : List Int} {negative_ : Bool} {g_ : List Int} (h : ([.at (.bool negative), slT (iC .u32) g] : List AV) = [.at (.bool negative_), slT (iC .u32) g_]) : negative = negative_ ∧ g = g_ := by
 simp only [List.cons.injEq, AV.agg.injEq, AV.at.injEq, Value.int.injEq, Value.bool.injEq, AV.fn.injEq, AV.pp.injEq, true_and, and_true, slT_inj_int] at h
 simp_all
theorem integer_made_cg (n : Nat) {negative : Bool} {g : List Int} {negative_ : Bool} {g_ : List Int} (h : ([.at (.bool negative), slT (iC .u32) g] : List AV) = [.at (.bool negative_), slT (iC .u32) g_]) : integer_made n negative g = integer_made n negative_ g_ := by
 obtain ⟨rfl, rfl⟩ := integer_made_inj h
 rfl
theorem integer_made_ok (n : Nat) (negative : Bool) (g : List Int) (r : api_Int) (hr : integer_made n negative g = some r) : FnOk Tryz.prog 95 [aB negative, sU32 g] (.agg (api_Int.c r)) := by
 unfold integer_made at hr
 refine FnOk.bd fine Tryz.func95 [.cell 4 37] ?_
 unfold Tryz.f95
 simp only [Option.getD_some]
 refine .seq <| .r2 fine 14 [(0, aB negative), (1, sU32 g), (4, .hp 0 0)] [.own [aB false, nS]] <| .seq ?_
 obtain ⟨v1, hc2, hr⟩ := bd hr
 refine .g1 fine (ok0 (integer_trim_ok n g v1 hc2)) <| .mu 1 <| .ca cf0 <| .mu 1 <| .done <| .n2 14 [(0, aB negative), (1, sU32 v1), (4, .hp 0 0)] [.own [aB false, nS]] <| .seq <| .seq <| .r3 fine 14 [(0, aB negative), (1, sU32 v1), (4, .hp 0 0), (9, aB (((v1.length : Int) : Int) == 0))] ?_
 refine .cd hr (fun hb3 hr => ?_) (fun hb3 hr => ?_)
 ·refine .seq <| .r3 fine 14 [(4, .hp 0 0)] <| .ret ?_
  obtain rfl := Option.some.inj hr
  exact FinQ.ret (vs := [.agg [aB false, nS]]) (by kernel_rfl) (Sn.agg (SnL.cons (Sn.pure rfl) (SnL.cons Sn.nilsl SnL.nil)))
 ·refine .skip <| .seq <| .r2 fine 14 [(4, .hp 0 0)] [.own [aB negative, sU32 v1]] <| .ret ?_
  obtain rfl := Option.some.inj hr
  exact FinQ.r1 [.agg [aB negative, sU32 v1]]

theorem integer_Of_inj {n' : Int} {n'_ : Int} (h : ([.at (.int .i64 n')] : List AV) = [.at (.int .i64 n'_)]) : n' = n'_ := by
 simp only [List.cons.injEq, AV.agg.injEq, AV.at.injEq, Value.int.injEq, Value.bool.injEq, AV.fn.injEq, AV.pp.injEq, true_and, and_true] at h
 simp_all
theorem integer_Of_cg (n : Nat) {n' : Int} {n'_ : Int} (h : ([.at (.int .i64 n')] : List AV) = [.at (.int .i64 n'_)]) : integer_Of n n' = integer_Of n n'_ := by
 obtain rfl := integer_Of_inj h
 rfl
theorem integer_Of_ok (n : Nat) (n' : Int) (r : api_Int) (hr : integer_Of n n' = some r) : FnOk Tryz.prog 49 [aI64 n'] (.agg (api_Int.c r)) := by
 unfold integer_Of at hr
 refine FnOk.bd fine Tryz.func49 [.cell 2 37] ?_
 unfold Tryz.f49
 simp only [Option.getD_some]
 refine .seq <| .r2 fine 15 [(0, aI64 n'), (2, .hp 0 0)] [.own [aB false, nS]] <| .seq <| .r3 fine 15 [(0, aI64 n'), (2, .hp 0 0), (3, aU64 (wrapF .u64 n'))] <| .seq <| .seq <| .r3 fine 15 [(0, aI64 n'), (2, .hp 0 0), (3, aU64 (wrapF .u64 n')), (7, aB (decide (n' < 0)))] ?_
 refine .cd hr (fun hb1 hr => ?_) (fun hb1 hr => ?_)
 ·refine .r0 fine <| .mu 1 <| .p0 (v := aU64 (wrapF .u64 (0 - (wrapF .u64 n')))) (Eq.trans (b := some (.pure (aU64 (IntKind.wrap .u64 (0 - (wrapF .u64 n')))))) (by kernel_rfl) wrap_at) <| .mu 1 <| .done <| .n2 15 [(0, aI64 n'), (2, .hp 0 0), (3, aU64 (wrapF .u64 (0 - (wrapF .u64 n'))))] [.own [aB false, nS]] <| .seq ?_
  obtain ⟨v2, hc3, v4, hc5, hr⟩ := bd2 hr
  refine .gn fine (ca1 (ok0 (integer_split_ok n (wrapF .u64 (0 - (wrapF .u64 n'))) v2 hc3)) (ca3 (ok0 (integer_made_ok n true v2 v4 hc5)))) <| .mu 1 <| .p0 (v := aB true) (Eq.trans (b := some (.pure (aB (decide (n' < 0))))) (by kernel_rfl) (by rw [hb1])) <| .mu 1 <| .ca cf0 <| .ca (cfF cf0) <| .mu 1 <| .done <| .n2 15 [(2, .hp 0 0)] [.own (api_Int.c v4)] <| .ret ?_
  obtain rfl := Option.some.inj hr
  exact FinQ.r1 [.agg (api_Int.c v4)]
 ·refine .skip <| .seq ?_
  obtain ⟨v6, hc7, v8, hc9, hr⟩ := bd2 hr
  refine .gn fine (ca1 (ok0 (integer_split_ok n (wrapF .u64 n') v6 hc7)) (ca3 (ok0 (integer_made_ok n false v6 v8 hc9)))) <| .mu 1 <| .p0 (v := aB false) (Eq.trans (b := some (.pure (aB (decide (n' < 0))))) (by kernel_rfl) (by rw [hb1])) <| .mu 1 <| .ca cf0 <| .ca (cfF cf0) <| .mu 1 <| .done <| .n2 15 [(2, .hp 0 0)] [.own (api_Int.c v8)] <| .ret ?_
  obtain rfl := Option.some.inj hr
  exact FinQ.r1 [.agg (api_Int.c v8)]

theorem fraction_Whole_inj {n' : Int} {n'_ : Int} (h : ([.at (.int .i64 n')] : List AV) = [.at (.int .i64 n'_)]) : n' = n'_ := by
 simp only [List.cons.injEq, AV.agg.injEq, AV.at.injEq, Value.int.injEq, Value.bool.injEq, AV.fn.injEq, AV.pp.injEq, true_and, and_true] at h
 simp_all
theorem fraction_Whole_cg (n : Nat) {n' : Int} {n'_ : Int} (h : ([.at (.int .i64 n')] : List AV) = [.at (.int .i64 n'_)]) : fraction_Whole n n' = fraction_Whole n n'_ := by
 obtain rfl := fraction_Whole_inj h
 rfl
theorem fraction_Whole_ok (n : Nat) (n' : Int) (r : api_Rat) (hr : fraction_Whole n n' = some r) : FnOk Tryz.prog 48 [aI64 n'] (.agg (api_Rat.c r)) := by
 unfold fraction_Whole at hr
 refine FnOk.bd fine Tryz.func48 [.cell 2 39] ?_
 unfold Tryz.f48
 simp only [Option.getD_some]
 refine .seq <| .r2 fine 7 [(0, aI64 n'), (2, .hp 0 0)] [.own [aB false, nS, aB false, nS]] <| .seq ?_
 obtain ⟨v1, hc2, v3, hc4, hr⟩ := bd2 hr
 refine .gn fine (ca1 (ok0 (integer_Of_ok n n' v1 hc2)) (ca3 (ok0 (integer_Of_ok n 1 v3 hc4)))) <| .mu 1 <| .ca cf0 <| .ca (cfA (fun h => by rw [sv hc4 hc2 (integer_Of_cg n h)]) cf0) <| .mu 2 <| .done <| .n2 7 [(2, .hp 0 0)] [.own [aB v1.Negative, sU32 v1.Groups, aB v3.Negative, sU32 v3.Groups]] <| .ret ?_
 obtain rfl := Option.some.inj hr
 exact FinQ.r1 [.agg [aB v1.Negative, sU32 v1.Groups, aB v3.Negative, sU32 v3.Groups]]

theorem integer_Valid_1_ok (n : Nat) (g : Int) (r : Bool) (hr : integer_Valid_1 n g = some r) : FnOk Tryz.prog 176 [aU32 g] (aB r) := by
 unfold integer_Valid_1 at hr
 refine FnOk.bd fine Tryz.func176 [.tmp 2] ?_
 unfold Tryz.f176
 simp only [Option.getD_some]
 refine .seq <| .r3 fine 5 [(0, aU32 g)] <| .seq <| .ru fine <| .ret ?_
 obtain rfl := Option.some.inj hr
 exact FinQ.r1 [aB (decide (g ≥ 1000000000))]

theorem slices_IndexFunc_uint32_uint32_of_integer_Valid_1_ok (n : Nat) (s : List Int) (r : Int) (hr : slices_IndexFunc_uint32_uint32_of_integer_Valid_1 n s = some r) : FnOk Tryz.prog 200 [sU32 s, .fn 176 [] []] (aI64 r) := by
 unfold slices_IndexFunc_uint32_uint32_of_integer_Valid_1 at hr
 refine FnOk.bd fine Tryz.func200 [.tmp 4] ?_
 unfold Tryz.f200
 simp only [Option.getD_some]
 refine .seq <| .r3 fine 19 [(0, sU32 s), (1, .fn 176 [] [])] <| .seq <| .seq <| .r3 fine 19 [(0, sU32 s), (1, .fn 176 [] []), (7, aI64 (s.length : Int)), (8, aI64 0)] <| .block ?_
 replace hr := bd hr; obtain ⟨o13, hL14, hr⟩ := hr
 refine .loopO (σ := fun z0 => match z0 with | x_1 => ⟨mkS 19 0 [(0, sU32 s), (1, .fn 176 [] []), (7, aI64 (s.length : Int)), (8, aI64 x_1)], []⟩) (Q := fun x st' => match (generalizing := false) o13 with | .inl _ => x = .exit 0 ∧ Wk 0 st' ⟨mkS 19 0 [], []⟩ | .inr (r0) => x = .ret ∧ FinQ Tryz.prog [.tmp 4] (aI64 r0) .ret st') hL14 ((Wk.gc [0, 1, 7, 8] [] rfl pK0).to (by kernel_rfl)) ?_ ?_
 ·clear hr
  rintro m x_1 hr
  show CQ _ _ _ _ _ ⟨_, _⟩
  refine .seq <| .r3 fine 19 [(0, sU32 s), (1, .fn 176 [] []), (7, aI64 (s.length : Int)), (8, aI64 x_1), (9, aB (decide (x_1 < (s.length : Int))))] <| .seq ?_
  refine .cd hr (fun hb8 hr => ?_) (fun hb8 hr => ?_)
  ·refine .skip <| .seq <| .block <| .seq <| .r3 fine 19 [(0, sU32 s), (1, .fn 176 [] []), (5, aI64 x_1), (7, aI64 (s.length : Int)), (8, aI64 x_1)] <| .seq ?_
   obtain ⟨hg9, hr⟩ := gd hr
   obtain ⟨v10, hc11, hr⟩ := bd hr
   refine .g1 fine (ok0 (integer_Valid_1_ok n (gt s x_1) v10 hc11)) <| .mu 3 <| .p0 (v := .pp (s.flatMap (iC .u32)) (x_1.toNat * 1)) (Eq.trans (b := ORes.ofP (guardV (inR x_1 s.length) (.pp (s.flatMap (iC .u32)) (x_1.toNat * 1)))) (by kernel_rfl) (ofP_guard hg9)) <| .p0 (v := aU32 (gt s x_1)) (Eq.trans (b := ORes.ofP ((s.flatMap (iC .u32))[x_1.toNat * 1]?)) (by kernel_rfl) (ofP_some (flat_get (iC_len _) (inR_lt hg9) (by decide : 0 < 1) (by omega : x_1.toNat * 1 = x_1.toNat * 1 + 0) (by kernel_rfl)))) <| .ca cf0 <| .done <| .n2 19 [(0, sU32 s), (1, .fn 176 [] []), (5, aI64 x_1), (7, aI64 (s.length : Int)), (8, aI64 x_1), (16, aB v10)] [] ?_
   refine .cd hr (fun hb12 hr => ?_) (fun hb12 hr => ?_)
   ·refine .seq <| .ru fine <| .ret ?_
    obtain rfl := Option.some.inj hr
    exact ⟨rfl, FinQ.ret (vs := [aI64 x_1]) (by kernel_rfl) (Sn.pure rfl)⟩
   ·refine .skip <| .pop <| .ru fine ?_
    exact loopF_back (wrapF .i64 (x_1 + 1)) hr ((Wk.gc [0, 1, 7, 8] [] rfl pK0).to (by kernel_rfl))
  ·refine .leave rfl ?_
   obtain rfl := Option.some.inj hr
   exact ⟨rfl, ((Wk.gc [] [] rfl pK0).to (by kernel_rfl))⟩
 ·rcases o13 with ⟨⟩ | r0
  ·rintro x st' hq15
   clear hL14
   obtain ⟨rfl, hq15⟩ := hq15
   refine CQ_exit _ rfl <| .wk hq15 <| .seq <| .ru fine <| .ret ?_
   obtain rfl := Option.some.inj hr
   exact FinQ.r1 [aI64 (-1)]
  ·rintro x st' hq15
   clear hL14
   obtain ⟨rfl, hq15⟩ := hq15
   obtain rfl := Option.some.inj hr
   exact CQ_ret _ hq15

theorem slices_ContainsFunc_uint32_uint32_of_integer_Valid_1_ok (n : Nat) (s : List Int) (r : Bool) (hr : slices_ContainsFunc_uint32_uint32_of_integer_Valid_1 n s = some r) : FnOk Tryz.prog 175 [sU32 s, .fn 176 [] []] (aB r) := by
 unfold slices_ContainsFunc_uint32_uint32_of_integer_Valid_1 at hr
 refine FnOk.bd fine Tryz.func175 [.tmp 4] ?_
 unfold Tryz.f175
 simp only [Option.getD_some]
 refine .seq <| .r3 fine 9 [(0, sU32 s), (1, .fn 176 [] [])] <| .seq ?_
 obtain ⟨v1, hc2, hr⟩ := bd hr
 refine .g1 fine (ok0 (slices_IndexFunc_uint32_uint32_of_integer_Valid_1_ok n s v1 hc2)) <| .mu 2 <| .ca cf0 <| .mu 2 <| .done <| .ret ?_
 obtain rfl := Option.some.inj hr
 exact FinQ.r1 [aB (decide (v1 ≥ 0))]

theorem integer_Valid_inj {x' : api_Int} {x'_ : api_Int} (h : ([.agg [.at (.bool x'.Negative), slT (iC .u32) x'.Groups]] : List AV) = [.agg [.at (.bool x'_.Negative), slT (iC .u32) x'_.Groups]]) : x' = x'_ := by
 obtain ⟨_, _⟩ := x'
 obtain ⟨_, _⟩ := x'_
 simp only [List.cons.injEq, AV.agg.injEq, AV.at.injEq, Value.int.injEq, Value.bool.injEq, AV.fn.injEq, AV.pp.injEq, true_and, and_true, slT_inj_int] at h
 simp_all
theorem integer_Valid_cg (n : Nat) {x' : api_Int} {x'_ : api_Int} (h : ([.agg [.at (.bool x'.Negative), slT (iC .u32) x'.Groups]] : List AV) = [.agg [.at (.bool x'_.Negative), slT (iC .u32) x'_.Groups]]) : integer_Valid n x' = integer_Valid n x'_ := by
 obtain rfl := integer_Valid_inj h
 rfl
theorem integer_Valid_ok (n : Nat) (x' : api_Int) (r : Bool) (hr : integer_Valid n x' = some r) : FnOk Tryz.prog 132 [.agg (api_Int.c x')] (aB r) := by
 unfold integer_Valid at hr
 refine FnOk.bd fine Tryz.func132 [.tmp 2] ?_
 unfold Tryz.f132
 simp only [Option.getD_some]
 refine .seq <| .r2 fine 25 [(1, .hp 0 0)] [.own (api_Int.c x')] <| .seq <| .r3 fine 25 [(1, .hp 0 0), (3, aI64 (x'.Groups.length : Int))] <| .seq <| .seq <| .r3 fine 25 [(1, .hp 0 0), (3, aI64 (x'.Groups.length : Int)), (8, aB (((x'.Groups.length : Int) : Int) == 0))] ?_
 refine .cd hr (fun hb1 hr => ?_) (fun hb1 hr => ?_)
 ·refine .seq <| .ru fine <| .ret ?_
  obtain rfl := Option.some.inj hr
  exact FinQ.r1 [aB (!x'.Negative)]
 ·refine .skip <| .seq ?_
  obtain ⟨hg2, hr⟩ := gd hr
  rcases Bool.eq_false_or_eq_true (((gt x'.Groups (wrapF .i64 ((x'.Groups.length : Int) - 1))) : Int) != 0) with hb3 | hb3
  ·replace hr := cd_t hb3 hr
   obtain ⟨v4, hc5, hr⟩ := bd hr
   refine .g1 fine (ok0 (slices_ContainsFunc_uint32_uint32_of_integer_Valid_1_ok n x'.Groups v4 hc5)) <| .mu 4 <| .p0 (v := .pp (x'.Groups.flatMap (iC .u32)) ((wrapF .i64 ((x'.Groups.length : Int) - 1)).toNat * 1)) (Eq.trans (b := ORes.ofP (guardV (inR (wrapF .i64 ((x'.Groups.length : Int) - 1)) x'.Groups.length) (.pp (x'.Groups.flatMap (iC .u32)) ((wrapF .i64 ((x'.Groups.length : Int) - 1)).toNat * 1)))) (by kernel_rfl) (ofP_guard hg2)) <| .p0 (v := aU32 (gt x'.Groups (wrapF .i64 ((x'.Groups.length : Int) - 1)))) (Eq.trans (b := ORes.ofP ((x'.Groups.flatMap (iC .u32))[(wrapF .i64 ((x'.Groups.length : Int) - 1)).toNat * 1]?)) (by kernel_rfl) (ofP_some (flat_get (iC_len _) (inR_lt hg2) (by decide : 0 < 1) (by omega : (wrapF .i64 ((x'.Groups.length : Int) - 1)).toNat * 1 = (wrapF .i64 ((x'.Groups.length : Int) - 1)).toNat * 1 + 0) (by kernel_rfl)))) <| .p0 (v := aB true) (Eq.trans (b := some (.pure (aB (((gt x'.Groups (wrapF .i64 ((x'.Groups.length : Int) - 1))) : Int) != 0)))) (by kernel_rfl) (by rw [hb3])) <| .mu 3 <| .ca cf0 <| .mu 3 <| .done <| .ret ?_
   obtain rfl := Option.some.inj hr
   exact FinQ.r1 [aB (!v4)]
  ·replace hr := cd_f hb3 hr
   refine .r0 fine <| .mu 4 <| .p0 (v := .pp (x'.Groups.flatMap (iC .u32)) ((wrapF .i64 ((x'.Groups.length : Int) - 1)).toNat * 1)) (Eq.trans (b := ORes.ofP (guardV (inR (wrapF .i64 ((x'.Groups.length : Int) - 1)) x'.Groups.length) (.pp (x'.Groups.flatMap (iC .u32)) ((wrapF .i64 ((x'.Groups.length : Int) - 1)).toNat * 1)))) (by kernel_rfl) (ofP_guard hg2)) <| .p0 (v := aU32 (gt x'.Groups (wrapF .i64 ((x'.Groups.length : Int) - 1)))) (Eq.trans (b := ORes.ofP ((x'.Groups.flatMap (iC .u32))[(wrapF .i64 ((x'.Groups.length : Int) - 1)).toNat * 1]?)) (by kernel_rfl) (ofP_some (flat_get (iC_len _) (inR_lt hg2) (by decide : 0 < 1) (by omega : (wrapF .i64 ((x'.Groups.length : Int) - 1)).toNat * 1 = (wrapF .i64 ((x'.Groups.length : Int) - 1)).toNat * 1 + 0) (by kernel_rfl)))) <| .p0 (v := aB false) (Eq.trans (b := some (.pure (aB (((gt x'.Groups (wrapF .i64 ((x'.Groups.length : Int) - 1))) : Int) != 0)))) (by kernel_rfl) (by rw [hb3])) <| .mu 7 <| .done <| .ret ?_
   obtain rfl := Option.some.inj hr
   exact FinQ.r1 [aB false]

theorem fraction_counted_inj {n' : api_Int} {n'_ : api_Int} (h : ([.agg [.at (.bool n'.Negative), slT (iC .u32) n'.Groups]] : List AV) = [.agg [.at (.bool n'_.Negative), slT (iC .u32) n'_.Groups]]) : n' = n'_ := by
 obtain ⟨_, _⟩ := n'
 obtain ⟨_, _⟩ := n'_
 simp only [List.cons.injEq, AV.agg.injEq, AV.at.injEq, Value.int.injEq, Value.bool.injEq, AV.fn.injEq, AV.pp.injEq, true_and, and_true, slT_inj_int] at h
 simp_all
theorem fraction_counted_cg (n : Nat) {n' : api_Int} {n'_ : api_Int} (h : ([.agg [.at (.bool n'.Negative), slT (iC .u32) n'.Groups]] : List AV) = [.agg [.at (.bool n'_.Negative), slT (iC .u32) n'_.Groups]]) : fraction_counted n n' = fraction_counted n n'_ := by
 obtain rfl := fraction_counted_inj h
 rfl
theorem fraction_counted_ok (n : Nat) (n' : api_Int) (r : api_Int) (hr : fraction_counted n n' = some r) : FnOk Tryz.prog 97 [.agg (api_Int.c n')] (.agg (api_Int.c r)) := by
 unfold fraction_counted at hr
 refine FnOk.bd fine Tryz.func97 [.cell 2 37] ?_
 unfold Tryz.f97
 simp only [Option.getD_some]
 refine .seq <| .r2 fine 7 [(1, .hp 0 0), (2, .hp 1 0)] [.own (api_Int.c n'), .own [aB false, nS]] <| .seq <| .seq ?_
 obtain ⟨v1, hc2, hr⟩ := bd hr
 refine .g1 fine (ok0 (integer_Valid_ok n n' v1 hc2)) <| .mu 1 <| .ca cf0 <| .done <| .n2 7 [(1, .hp 0 0), (2, .hp 1 0), (4, aB v1)] [.own (api_Int.c n'), .own [aB false, nS]] ?_
 refine .cd hr (fun hb3 hr => ?_) (fun hb3 hr => ?_)
 ·refine .seq <| .r2 fine 7 [(2, .hp 1 0)] [.own (api_Int.c n'), .own (api_Int.c n')] <| .ret ?_
  obtain rfl := Option.some.inj hr
  exact FinQ.r1 [.agg (api_Int.c n')]
 ·refine .skip <| .seq ?_
  obtain ⟨v4, hc5, hr⟩ := bd hr
  refine .g1 fine (ok0 (integer_Of_ok n 0 v4 hc5)) <| .ca cf0 <| .mu 1 <| .done <| .n2 7 [(2, .hp 1 0)] [.own (api_Int.c n'), .own (api_Int.c v4)] <| .ret ?_
  obtain rfl := Option.some.inj hr
  exact FinQ.r1 [.agg (api_Int.c v4)]

theorem integer_groups_inj {x' : api_Int} {x'_ : api_Int} (h : ([.agg [.at (.bool x'.Negative), slT (iC .u32) x'.Groups]] : List AV) = [.agg [.at (.bool x'_.Negative), slT (iC .u32) x'_.Groups]]) : x' = x'_ := by
 obtain ⟨_, _⟩ := x'
 obtain ⟨_, _⟩ := x'_
 simp only [List.cons.injEq, AV.agg.injEq, AV.at.injEq, Value.int.injEq, Value.bool.injEq, AV.fn.injEq, AV.pp.injEq, true_and, and_true, slT_inj_int] at h
 simp_all
theorem integer_groups_cg (n : Nat) {x' : api_Int} {x'_ : api_Int} (h : ([.agg [.at (.bool x'.Negative), slT (iC .u32) x'.Groups]] : List AV) = [.agg [.at (.bool x'_.Negative), slT (iC .u32) x'_.Groups]]) : integer_groups n x' = integer_groups n x'_ := by
 obtain rfl := integer_groups_inj h
 rfl
theorem integer_groups_ok (n : Nat) (x' : api_Int) (r : List Int) (hr : integer_groups n x' = some r) : FnOk Tryz.prog 100 [.agg (api_Int.c x')] (sU32 r) := by
 unfold integer_groups at hr
 refine FnOk.bd fine Tryz.func100 [.tmp 2] ?_
 unfold Tryz.f100
 simp only [Option.getD_some]
 refine .seq <| .r2 fine 8 [(1, .hp 0 0)] [.own (api_Int.c x')] <| .seq <| .seq ?_
 obtain ⟨v1, hc2, hr⟩ := bd hr
 refine .g1 fine (ok0 (integer_Valid_ok n x' v1 hc2)) <| .mu 1 <| .ca cf0 <| .mu 1 <| .done <| .n2 8 [(1, .hp 0 0), (5, aB (!v1))] [.own (api_Int.c x')] ?_
 refine .cd hr (fun hb3 hr => ?_) (fun hb3 hr => ?_)
 ·refine .seq <| .r3 fine 8 [(2, nS)] <| .ret ?_
  obtain rfl := Option.some.inj hr
  exact FinQ.ret (vs := [nS]) (by kernel_rfl) Sn.nilsl
 ·refine .skip <| .seq <| .ru fine <| .ret ?_
  obtain rfl := Option.some.inj hr
  exact FinQ.r1 [sU32 x'.Groups]

theorem integer_Sign_inj {x' : api_Int} {x'_ : api_Int} (h : ([.agg [.at (.bool x'.Negative), slT (iC .u32) x'.Groups]] : List AV) = [.agg [.at (.bool x'_.Negative), slT (iC .u32) x'_.Groups]]) : x' = x'_ := by
 obtain ⟨_, _⟩ := x'
 obtain ⟨_, _⟩ := x'_
 simp only [List.cons.injEq, AV.agg.injEq, AV.at.injEq, Value.int.injEq, Value.bool.injEq, AV.fn.injEq, AV.pp.injEq, true_and, and_true, slT_inj_int] at h
 simp_all
theorem integer_Sign_cg (n : Nat) {x' : api_Int} {x'_ : api_Int} (h : ([.agg [.at (.bool x'.Negative), slT (iC .u32) x'.Groups]] : List AV) = [.agg [.at (.bool x'_.Negative), slT (iC .u32) x'_.Groups]]) : integer_Sign n x' = integer_Sign n x'_ := by
 obtain rfl := integer_Sign_inj h
 rfl
theorem integer_Sign_ok (n : Nat) (x' : api_Int) (r : Int) (hr : integer_Sign n x' = some r) : FnOk Tryz.prog 91 [.agg (api_Int.c x')] (aI64 r) := by
 unfold integer_Sign at hr
 refine FnOk.bd fine Tryz.func91 [.tmp 2] ?_
 unfold Tryz.f91
 simp only [Option.getD_some]
 refine .seq <| .r2 fine 11 [(1, .hp 0 0)] [.own (api_Int.c x')] <| .seq <| .block <| .seq ?_
 obtain ⟨v1, hc2, hr⟩ := bd hr
 refine .g1 fine (ok0 (integer_groups_ok n x' v1 hc2)) <| .mu 1 <| .ca cf0 <| .mu 3 <| .done <| .n2 11 [(1, .hp 0 0), (3, aB (((v1.length : Int) : Int) == 0))] [.own (api_Int.c x')] ?_
 refine .cd hr (fun hb3 hr => ?_) (fun hb3 hr => ?_)
 ·refine .seq <| .ru fine <| .ret ?_
  obtain rfl := Option.some.inj hr
  exact FinQ.r1 [aI64 0]
 ·refine .seq <| .r3 fine 11 [(8, aB x'.Negative)] ?_
  refine .cd hr (fun hb4 hr => ?_) (fun hb4 hr => ?_)
  ·refine .seq <| .ru fine <| .ret ?_
   obtain rfl := Option.some.inj hr
   exact FinQ.r1 [aI64 (-1)]
  ·refine .skip <| .pop <| .seq <| .ru fine <| .ret ?_
   obtain rfl := Option.some.inj hr
   exact FinQ.r1 [aI64 1]

theorem slices_Clone_uint32_uint32_ok (n : Nat) (s : List Int) (r : List Int) (hr : slices_Clone_uint32_uint32 n s = some r) : FnOk Tryz.prog 177 [sU32 s] (sU32 r) := by
 unfold slices_Clone_uint32_uint32 at hr
 refine FnOk.bd fine Tryz.func177 [.tmp 2] ?_
 unfold Tryz.f177
 simp only [Option.getD_some]
 refine .seq <| .r3 fine 8 [(0, sU32 s)] <| .seq <| .seq ?_
 refine .nilcase (t := 0) (cs := s.flatMap (iC .u32)) (len := s.length) (by kernel_rfl) (fun hn3 => ?_) ?_
 ·obtain rfl : s = [] := List.length_eq_zero_iff.1 hn3
  have hx := gd hr; clear hr; obtain ⟨_, hr⟩ := hx
  have hx := gd hr; clear hr; obtain ⟨_, hr⟩ := hx
  refine .r3 fine 8 [(0, nS), (4, aB true)] <| .cT (by kernel_rfl) <| .seq <| .r3 fine 8 [(2, nS)] <| .ret ?_
  obtain rfl := Option.some.inj hr
  exact FinQ.ret (vs := [nS]) (by kernel_rfl) Sn.nilsl
 ·refine .r3 fine 8 [(0, .sl false (s.flatMap (iC .u32)) s.length), (4, aB false)] <| .cF (by kernel_rfl) <| .skip <| .seq ?_
  obtain ⟨hg1, hg2, hr⟩ := gd2 hr
  refine .r0 fine <| .mu 2 <| .e0 (v := .hs 1 0 s.length 1) (ws := [(0, .dead), (1, .own (s.flatMap (iC .u32)))]) (Eq.trans (b := appS (decide (((s.flatMap (iC .u32))).length = s.length * 1)) (s.flatMap (iC .u32)) s.length (fun z1 z2 => guardO (decide (0 + 0 * 1 ≤ (([] : List Int).flatMap (iC .u32)).length) && decide ((0 + z2) * 4 ≤ 140737488355328) && decide (0 + z2 ≤ 4611686018427387904)) (some (.eff (.hs 1 0 (0 + z2) 1) [(0, .dead), (1, .own (((([] : List Int).flatMap (iC .u32)).drop 0).take (0 * 1) ++ z1))])))) (by kernel_rfl) (appS_t (flat_lenB (iC_len _)) rfl (app_own (l := ([] : List Int)) (xs := s) (iC_len _) rfl rfl rfl hg1 hg2))) <| .mu 1 <| .done <| .n2 8 [(2, .hs 1 0 s.length 1)] [.dead, .own (s.flatMap (iC .u32))] <| .ret ?_
  obtain rfl := Option.some.inj hr
  exact FinQ.ret (vs := [.hs 1 0 s.length 1]) (by kernel_rfl) (Sn.hs rfl (.inl rfl) (SnC.pure (ids_flat (iC_pure _) _)) (fun h => flat_nil0 h))

theorem integer_Neg_inj {x' : api_Int} {x'_ : api_Int} (h : ([.agg [.at (.bool x'.Negative), slT (iC .u32) x'.Groups]] : List AV) = [.agg [.at (.bool x'_.Negative), slT (iC .u32) x'_.Groups]]) : x' = x'_ := by
 obtain ⟨_, _⟩ := x'
 obtain ⟨_, _⟩ := x'_
 simp only [List.cons.injEq, AV.agg.injEq, AV.at.injEq, Value.int.injEq, Value.bool.injEq, AV.fn.injEq, AV.pp.injEq, true_and, and_true, slT_inj_int] at h
 simp_all
theorem integer_Neg_cg (n : Nat) {x' : api_Int} {x'_ : api_Int} (h : ([.agg [.at (.bool x'.Negative), slT (iC .u32) x'.Groups]] : List AV) = [.agg [.at (.bool x'_.Negative), slT (iC .u32) x'_.Groups]]) : integer_Neg n x' = integer_Neg n x'_ := by
 obtain rfl := integer_Neg_inj h
 rfl
theorem integer_Neg_ok (n : Nat) (x' : api_Int) (r : api_Int) (hr : integer_Neg n x' = some r) : FnOk Tryz.prog 133 [.agg (api_Int.c x')] (.agg (api_Int.c r)) := by
 unfold integer_Neg at hr
 refine FnOk.bd fine Tryz.func133 [.cell 2 37] ?_
 unfold Tryz.f133
 simp only [Option.getD_some]
 refine .seq <| .r2 fine 10 [(1, .hp 0 0), (2, .hp 1 0)] [.own (api_Int.c x'), .own [aB false, nS]] <| .seq ?_
 obtain ⟨v1, hc2, v3, hc4, v5, hc6, hr⟩ := bd3 hr
 refine .tn fine (ca1 (ok0 (integer_groups_ok n x' v1 hc2)) (ca1 (ok0 (slices_Clone_uint32_uint32_ok n v1 v3 hc4)) (ca3 (ok0 (integer_made_ok n (!x'.Negative) v3 v5 hc6))))) <| .mu 4 <| .ca cf0 <| .ca (cfF cf0) <| .ca (cfF (cfF cf0)) <| .mu 1 ?_
 refine .done ⟨by kernel_rfl, ?_⟩
 refine .n2 10 [(2, .hp 1 0)] [.own (api_Int.c x'), .own (api_Int.c v5)] <| .ret ?_
 obtain rfl := Option.some.inj hr
 exact FinQ.r1 [.agg (api_Int.c v5)]




theorem integer_times_ok (n : Nat) (a : List Int) (b : List Int) (r : List Int) (hr : integer_times n a b = some r) : FnOk Tryz.prog 99 [sU32 a, sU32 b] (sU32 r) := by
 unfold integer_times at hr
 refine FnOk.bd fine Tryz.func99 [.tmp 4] ?_
 unfold Tryz.f99
 simp only [Option.getD_some]
 refine .seq <| .r3 fine 69 [(0, sU32 a), (1, sU32 b)] <| .seq ?_
 obtain ⟨hg1, hg2, hg3, hr⟩ := gd3 hr
 refine .r0 fine <| .mu 5 <| .e0 (v := .hs 0 0 (List.replicate (wrapF .i64 ((a.length : Int) + (b.length : Int))).toNat ((0 : Int) : Int)).length 1) (ws := [(0, .own ((List.replicate (wrapF .i64 ((a.length : Int) + (b.length : Int))).toNat ((0 : Int) : Int)).flatMap (iC .u32)))]) (Eq.trans (b := guardO (decide (0 ≤ (wrapF .i64 ((a.length : Int) + (b.length : Int)))) && decide ((wrapF .i64 ((a.length : Int) + (b.length : Int))) ≤ (wrapF .i64 ((a.length : Int) + (b.length : Int)))) && decide ((4 : Int) * (wrapF .i64 ((a.length : Int) + (b.length : Int))) ≤ 281474976710656) && decide ((wrapF .i64 ((a.length : Int) + (b.length : Int))) ≤ 9223372036854775807) && true && true && true) (some (.eff (.hs 0 0 (wrapF .i64 ((a.length : Int) + (b.length : Int))).toNat 1) [(0, .own (zerosA [aU32 0] (wrapF .i64 ((a.length : Int) + (b.length : Int))).toNat))]))) (by kernel_rfl) (make_own (c := (iC .u32)) (z := (0 : Int)) (n := wrapF .i64 ((a.length : Int) + (b.length : Int))) (by_ := 4) rfl hg1 hg2 hg3)) <| .mu 1 <| .done <| .n2 69 [(0, sU32 a), (1, sU32 b), (5, .hs 0 0 (List.replicate (wrapF .i64 ((a.length : Int) + (b.length : Int))).toNat ((0 : Int) : Int)).length 1)] [.own ((List.replicate (wrapF .i64 ((a.length : Int) + (b.length : Int))).toNat ((0 : Int) : Int)).flatMap (iC .u32))] <| .seq <| .seq <| .r3 fine 69 [(1, sU32 b), (5, .hs 0 0 (List.replicate (wrapF .i64 ((a.length : Int) + (b.length : Int))).toNat ((0 : Int) : Int)).length 1), (18, sU32 a), (19, aI64 (a.length : Int)), (20, aI64 0)] <| .block ?_
 replace hr := bd hr; obtain ⟨out_24, hL45, hr⟩ := hr
 refine .loopO (σ := fun z0 => match z0 with | (out_4, x_5) => ⟨mkS 69 0 [(1, sU32 b), (5, .hs 0 0 out_4.length 1), (18, sU32 a), (19, aI64 (a.length : Int)), (20, aI64 x_5)], [.own (out_4.flatMap (iC .u32))]⟩) (Q := fun x st' => x = .exit 0 ∧ Wk 0 st' ⟨mkS 69 0 [(5, .hs 0 0 out_24.length 1)], [.own (out_24.flatMap (iC .u32))]⟩) hL45 ((Wk.gc [1, 5, 18, 19, 20] [(0, false)] rfl (pKo (iC .u32) (iC_pure _) (List.replicate (wrapF .i64 ((a.length : Int) + (b.length : Int))).toNat ((0 : Int) : Int)) trivial)).to (by kernel_rfl)) ?_ ?_
 ·clear hr
  rintro m ⟨out_4, x_5⟩ hr
  show CQ _ _ _ _ _ ⟨_, _⟩
  refine .seq <| .r3 fine 69 [(1, sU32 b), (5, .hs 0 0 out_4.length 1), (18, sU32 a), (19, aI64 (a.length : Int)), (20, aI64 x_5), (21, aB (decide (x_5 < (a.length : Int))))] <| .seq ?_
  refine .cd hr (fun hb26 hr => ?_) (fun hb26 hr => ?_)
  ·refine .skip <| .seq <| .block <| .seq ?_
   obtain ⟨hg27, hr⟩ := gd hr
   refine .r0 fine <| .mu 1 <| .p0 (v := .pp (a.flatMap (iC .u32)) (x_5.toNat * 1)) (Eq.trans (b := ORes.ofP (guardV (inR x_5 a.length) (.pp (a.flatMap (iC .u32)) (x_5.toNat * 1)))) (by kernel_rfl) (ofP_guard hg27)) <| .p0 (v := aU32 (gt a x_5)) (Eq.trans (b := ORes.ofP ((a.flatMap (iC .u32))[x_5.toNat * 1]?)) (by kernel_rfl) (ofP_some (flat_get (iC_len _) (inR_lt hg27) (by decide : 0 < 1) (by omega : x_5.toNat * 1 = x_5.toNat * 1 + 0) (by kernel_rfl)))) <| .mu 2 <| .done <| .n2 69 [(1, sU32 b), (5, .hs 0 0 out_4.length 1), (6, aI64 x_5), (7, aU32 (gt a x_5)), (18, sU32 a), (19, aI64 (a.length : Int)), (20, aI64 x_5)] [.own (out_4.flatMap (iC .u32))] <| .seq <| .r3 fine 69 [(1, sU32 b), (5, .hs 0 0 out_4.length 1), (6, aI64 x_5), (7, aU32 (gt a x_5)), (8, aU64 0), (18, sU32 a), (19, aI64 (a.length : Int)), (20, aI64 x_5)] <| .seq <| .seq <| .r3 fine 69 [(1, sU32 b), (5, .hs 0 0 out_4.length 1), (6, aI64 x_5), (7, aU32 (gt a x_5)), (8, aU64 0), (18, sU32 a), (19, aI64 (a.length : Int)), (20, aI64 x_5), (25, sU32 b), (26, aI64 (b.length : Int)), (27, aI64 0)] <| .block ?_
   replace hr := bd hr; obtain ⟨o40, hL41, hr⟩ := hr
   refine .loopO (σ := fun z0 => match z0 with | (out_28, carry_29, x_30) => ⟨mkS 69 0 [(1, sU32 b), (5, .hs 0 0 out_28.length 1), (6, aI64 x_5), (7, aU32 (gt a x_5)), (8, aU64 carry_29), (18, sU32 a), (19, aI64 (a.length : Int)), (20, aI64 x_5), (25, sU32 b), (26, aI64 (b.length : Int)), (27, aI64 x_30)], [.own (out_28.flatMap (iC .u32))]⟩) (Q := fun x st' => match (generalizing := false) o40 with | (out_34, carry_35) => x = .exit 2 ∧ Wk 0 st' ⟨mkS 69 0 [(1, sU32 b), (5, .hs 0 0 out_34.length 1), (6, aI64 x_5), (8, aU64 carry_35), (18, sU32 a), (19, aI64 (a.length : Int)), (20, aI64 x_5)], [.own (out_34.flatMap (iC .u32))]⟩) hL41 ((Wk.gc [1, 5, 6, 7, 8, 18, 19, 20, 25, 26, 27] [(0, false)] rfl (pKo (iC .u32) (iC_pure _) out_4 trivial)).to (by kernel_rfl)) ?_ ?_
   ·clear hr
    rintro m ⟨out_28, carry_29, x_30⟩ hr
    show CQ _ _ _ _ _ ⟨_, _⟩
    refine .seq <| .r3 fine 69 [(1, sU32 b), (5, .hs 0 0 out_28.length 1), (6, aI64 x_5), (7, aU32 (gt a x_5)), (8, aU64 carry_29), (18, sU32 a), (19, aI64 (a.length : Int)), (20, aI64 x_5), (25, sU32 b), (26, aI64 (b.length : Int)), (27, aI64 x_30), (28, aB (decide (x_30 < (b.length : Int))))] <| .seq ?_
    refine .cd hr (fun hb37 hr => ?_) (fun hb37 hr => ?_)
    ·refine .skip <| .seq <| .block <| .seq ?_
     obtain ⟨hg38, hr⟩ := gd hr
     refine .r0 fine <| .mu 1 <| .p0 (v := .pp (b.flatMap (iC .u32)) (x_30.toNat * 1)) (Eq.trans (b := ORes.ofP (guardV (inR x_30 b.length) (.pp (b.flatMap (iC .u32)) (x_30.toNat * 1)))) (by kernel_rfl) (ofP_guard hg38)) <| .p0 (v := aU32 (gt b x_30)) (Eq.trans (b := ORes.ofP ((b.flatMap (iC .u32))[x_30.toNat * 1]?)) (by kernel_rfl) (ofP_some (flat_get (iC_len _) (inR_lt hg38) (by decide : 0 < 1) (by omega : x_30.toNat * 1 = x_30.toNat * 1 + 0) (by kernel_rfl)))) <| .mu 2 <| .done <| .n2 69 [(1, sU32 b), (5, .hs 0 0 out_28.length 1), (6, aI64 x_5), (7, aU32 (gt a x_5)), (8, aU64 carry_29), (9, aI64 x_30), (10, aU32 (gt b x_30)), (18, sU32 a), (19, aI64 (a.length : Int)), (20, aI64 x_5), (25, sU32 b), (26, aI64 (b.length : Int)), (27, aI64 x_30)] [.own (out_28.flatMap (iC .u32))] <| .seq ?_
     obtain ⟨hg39, hr⟩ := gd hr
     refine .r0 fine <| .mu 4 <| .p0 (v := .hp 0 (0 + (wrapF .i64 (x_5 + x_30)).toNat * 1)) (Eq.trans (b := ORes.ofP (guardV (inR (wrapF .i64 (x_5 + x_30)) out_28.length) (.hp 0 (0 + (wrapF .i64 (x_5 + x_30)).toNat * 1)))) (by kernel_rfl) (ofP_guard hg39)) <| .p0 (v := aU32 (gt out_28 (wrapF .i64 (x_5 + x_30)))) (Eq.trans (b := ORes.ofP ((out_28.flatMap (iC .u32))[0 + (wrapF .i64 (x_5 + x_30)).toNat * 1]?)) (by kernel_rfl) (ofP_some (flat_get (iC_len _) (inR_lt hg39) (by decide : 0 < 1) (by omega : 0 + (wrapF .i64 (x_5 + x_30)).toNat * 1 = (wrapF .i64 (x_5 + x_30)).toNat * 1 + 0) (by kernel_rfl)))) <| .mu 10 <| .done <| .n2 69 [(1, sU32 b), (5, .hs 0 0 out_28.length 1), (6, aI64 x_5), (7, aU32 (gt a x_5)), (9, aI64 x_30), (11, aU64 (wrapF .u64 ((wrapF .u64 ((wrapF .u64 (gt out_28 (wrapF .i64 (x_5 + x_30)))) + (wrapF .u64 ((wrapF .u64 (gt a x_5)) * (wrapF .u64 (gt b x_30)))))) + carry_29))), (18, sU32 a), (19, aI64 (a.length : Int)), (20, aI64 x_5), (25, sU32 b), (26, aI64 (b.length : Int)), (27, aI64 x_30)] [.own (out_28.flatMap (iC .u32))] <| .r0 fine <| .mu 9 <| .p0 (v := .hp 0 (0 + (wrapF .i64 (x_5 + x_30)).toNat * 1)) (Eq.trans (b := ORes.ofP (guardV (inR (wrapF .i64 (x_5 + x_30)) out_28.length) (.hp 0 (0 + (wrapF .i64 (x_5 + x_30)).toNat * 1)))) (by kernel_rfl) (ofP_guard hg39)) <| .e0 (v := .unk) (ws := [(0, .own ((out_28.set (wrapF .i64 (x_5 + x_30)).toNat (wrapF .u32 ((wrapF .u64 ((wrapF .u64 ((wrapF .u64 (gt out_28 (wrapF .i64 (x_5 + x_30)))) + (wrapF .u64 ((wrapF .u64 (gt a x_5)) * (wrapF .u64 (gt b x_30)))))) + carry_29)).tmod 1000000000))).flatMap (iC .u32)))]) (Eq.trans (b := stO (decide ((0 + (wrapF .i64 (x_5 + x_30)).toNat * 1) + 1 ≤ (out_28.flatMap (iC .u32)).length) && true) [(0, .own (setCells (out_28.flatMap (iC .u32)) (0 + (wrapF .i64 (x_5 + x_30)).toNat * 1) [aU32 (wrapF .u32 ((wrapF .u64 ((wrapF .u64 ((wrapF .u64 (gt out_28 (wrapF .i64 (x_5 + x_30)))) + (wrapF .u64 ((wrapF .u64 (gt a x_5)) * (wrapF .u64 (gt b x_30)))))) + carry_29)).tmod 1000000000))]))]) (by kernel_rfl) (stO_t (and_t (flat_fits (iC_len _) (inR_lt hg39) (Nat.le_of_ble_eq_true rfl) (by omega : 0 + (wrapF .i64 (x_5 + x_30)).toNat * 1 = (wrapF .i64 (x_5 + x_30)).toNat * 1 + 0))) (congrArg Blk.own (flat_set (iC_len _) (inR_lt hg39) (Nat.le_of_ble_eq_true rfl) (by omega : 0 + (wrapF .i64 (x_5 + x_30)).toNat * 1 = (wrapF .i64 (x_5 + x_30)).toNat * 1 + 0) (by kernel_rfl))))) <| .mu 1 <| .done <| .pop <| .ru fine ?_
     exact loopF_back (out_28.set (wrapF .i64 (x_5 + x_30)).toNat (wrapF .u32 ((wrapF .u64 ((wrapF .u64 ((wrapF .u64 (gt out_28 (wrapF .i64 (x_5 + x_30)))) + (wrapF .u64 ((wrapF .u64 (gt a x_5)) * (wrapF .u64 (gt b x_30)))))) + carry_29)).tmod 1000000000)), wrapF .u64 ((wrapF .u64 ((wrapF .u64 ((wrapF .u64 (gt out_28 (wrapF .i64 (x_5 + x_30)))) + (wrapF .u64 ((wrapF .u64 (gt a x_5)) * (wrapF .u64 (gt b x_30)))))) + carry_29)).tdiv 1000000000), wrapF .i64 (x_30 + 1)) hr ((Wk.relen 5 (b := 0) (es := 1) (len := out_28.length) (out_28.set (wrapF .i64 (x_5 + x_30)).toNat (wrapF .u32 ((wrapF .u64 ((wrapF .u64 ((wrapF .u64 (gt out_28 (wrapF .i64 (x_5 + x_30)))) + (wrapF .u64 ((wrapF .u64 (gt a x_5)) * (wrapF .u64 (gt b x_30)))))) + carry_29)).tmod 1000000000))).length (by kernel_rfl) (by simp)).trans ((Wk.gc [1, 5, 6, 7, 8, 18, 19, 20, 25, 26, 27] [(0, false)] rfl (pKo (iC .u32) (iC_pure _) (out_28.set (wrapF .i64 (x_5 + x_30)).toNat (wrapF .u32 ((wrapF .u64 ((wrapF .u64 ((wrapF .u64 (gt out_28 (wrapF .i64 (x_5 + x_30)))) + (wrapF .u64 ((wrapF .u64 (gt a x_5)) * (wrapF .u64 (gt b x_30)))))) + carry_29)).tmod 1000000000))) trivial)).to (by kernel_rfl)))
    ·refine .leave rfl ?_
     obtain rfl := Option.some.inj hr
     exact ⟨rfl, ((Wk.gc [1, 5, 6, 8, 18, 19, 20] [(0, false)] rfl (pKo (iC .u32) (iC_pure _) out_28 trivial)).to (by kernel_rfl))⟩
   ·rcases o40 with ⟨out_34, carry_35⟩
    rintro x st' hq42
    clear hL41
    obtain ⟨rfl, hq42⟩ := hq42
    refine CQ_exit _ rfl <| .wk hq42 ?_
    obtain ⟨hg43, hr⟩ := gd hr
    refine .r0 fine <| .mu 7 <| .p0 (v := .hp 0 (0 + (wrapF .i64 (x_5 + (b.length : Int))).toNat * 1)) (Eq.trans (b := ORes.ofP (guardV (inR (wrapF .i64 (x_5 + (b.length : Int))) out_34.length) (.hp 0 (0 + (wrapF .i64 (x_5 + (b.length : Int))).toNat * 1)))) (by kernel_rfl) (ofP_guard hg43)) <| .e0 (v := .unk) (ws := [(0, .own ((out_34.set (wrapF .i64 (x_5 + (b.length : Int))).toNat (wrapF .u32 carry_35)).flatMap (iC .u32)))]) (Eq.trans (b := stO (decide ((0 + (wrapF .i64 (x_5 + (b.length : Int))).toNat * 1) + 1 ≤ (out_34.flatMap (iC .u32)).length) && true) [(0, .own (setCells (out_34.flatMap (iC .u32)) (0 + (wrapF .i64 (x_5 + (b.length : Int))).toNat * 1) [aU32 (wrapF .u32 carry_35)]))]) (by kernel_rfl) (stO_t (and_t (flat_fits (iC_len _) (inR_lt hg43) (Nat.le_of_ble_eq_true rfl) (by omega : 0 + (wrapF .i64 (x_5 + (b.length : Int))).toNat * 1 = (wrapF .i64 (x_5 + (b.length : Int))).toNat * 1 + 0))) (congrArg Blk.own (flat_set (iC_len _) (inR_lt hg43) (Nat.le_of_ble_eq_true rfl) (by omega : 0 + (wrapF .i64 (x_5 + (b.length : Int))).toNat * 1 = (wrapF .i64 (x_5 + (b.length : Int))).toNat * 1 + 0) (by kernel_rfl))))) <| .done <| .pop <| .ru fine ?_
    exact loopF_back (out_34.set (wrapF .i64 (x_5 + (b.length : Int))).toNat (wrapF .u32 carry_35), wrapF .i64 (x_5 + 1)) hr ((Wk.relen 5 (b := 0) (es := 1) (len := out_34.length) (out_34.set (wrapF .i64 (x_5 + (b.length : Int))).toNat (wrapF .u32 carry_35)).length (by kernel_rfl) (by simp)).trans ((Wk.gc [1, 5, 18, 19, 20] [(0, false)] rfl (pKo (iC .u32) (iC_pure _) (out_34.set (wrapF .i64 (x_5 + (b.length : Int))).toNat (wrapF .u32 carry_35)) trivial)).to (by kernel_rfl)))
  ·refine .leave rfl ?_
   obtain rfl := Option.some.inj hr
   exact ⟨rfl, ((Wk.gc [5] [(0, false)] rfl (pKo (iC .u32) (iC_pure _) out_4 trivial)).to (by kernel_rfl))⟩
 ·rintro x st' hq46
  clear hL45
  obtain ⟨rfl, hq46⟩ := hq46
  refine CQ_exit _ rfl <| .wk hq46 <| .seq ?_
  obtain ⟨v47, hc48, hr⟩ := bd hr
  refine .g1 fine (callOk_ref (args := [.hs 0 0 out_24.length 1]) (l := [0]) (SnL.cons (Sn.hs rfl (.inl rfl) (SnC.pure (ids_flat (iC_pure _) _)) (fun h => flat_nil0 h)) SnL.nil) (integer_trim_ok n out_24 v47 hc48)) <| .mu 1 <| .ca cf0 <| .mu 1 <| .done <| .ret ?_
  obtain rfl := Option.some.inj hr
  exact FinQ.r1 [sU32 v47]

theorem integer_trim_w_ok (n : Nat) (g : List Int) (r : List Int) (hr : integer_trim_w n g = some r) : FnMut 1 Tryz.prog 131 [.hs 0 0 g.length 1] [.own (g.flatMap (iC .u32))] (.hs 0 0 r.length 1) [.own (r.flatMap (iC .u32))] := by
 unfold integer_trim_w at hr
 refine FnMut.body fine Tryz.func131 (c := (Tryz.f131.body).getD .skip) rfl (us := [.hs 0 0 r.length 1]) (s := mkS 21 0 [(0, .hs 0 0 g.length 1)]) (by kernel_rfl) (rs := [.tmp 2]) rfl ?_
 unfold Tryz.f131
 simp only [Option.getD_some]
 refine .seq <| .r3 fine 21 [(0, .hs 0 0 g.length 1)] <| .seq <| .block ?_
 replace hr := bd hr; obtain ⟨g_21, hL28, hr⟩ := hr
 refine .loopO (σ := fun z0 => match z0 with | g_16 => ⟨mkS 21 0 [(0, .hs 0 0 g_16.length 1)], [.own (g_16.flatMap (iC .u32))]⟩) (Q := fun x st' => x = .exit 0 ∧ Wk 1 st' ⟨mkS 21 0 [(0, .hs 0 0 g_21.length 1)], [.own (g_21.flatMap (iC .u32))]⟩) hL28 ((Wk.gc [0] [(0, false)] rfl (pKo (iC .u32) (iC_pure _) g trivial)).to (by kernel_rfl)) ?_ ?_
 ·clear hr
  rintro m g_16 hr
  show CQ _ _ _ _ _ ⟨_, _⟩
  refine .seq <| .seq ?_
  rcases Bool.eq_false_or_eq_true (decide ((g_16.length : Int) > 0)) with hb23 | hb23
  ·replace hr := cd_t hb23 hr
   obtain ⟨hg24, hr⟩ := gd hr
   refine .r0 fine <| .mu 2 <| .p0 (v := aB true) (Eq.trans (b := some (.pure (aB (decide ((g_16.length : Int) > 0))))) (by kernel_rfl) (by rw [hb23])) <| .mu 5 <| .pure (v := .hp 0 (0 + (wrapF .i64 ((g_16.length : Int) - 1)).toNat * 1)) (by kernel_rfl) (Eq.trans (b := ORes.ofP (guardV (inR (wrapF .i64 ((g_16.length : Int) - 1)) g_16.length) (.hp 0 (0 + (wrapF .i64 ((g_16.length : Int) - 1)).toNat * 1)))) (by kernel_rfl) (ofP_guard hg24)) <| .pure (v := aU32 (gt g_16 (wrapF .i64 ((g_16.length : Int) - 1)))) (by kernel_rfl) (Eq.trans (b := ORes.ofP ((g_16.flatMap (iC .u32))[0 + (wrapF .i64 ((g_16.length : Int) - 1)).toNat * 1]?)) (by kernel_rfl) (ofP_some (flat_get (iC_len _) (inR_lt hg24) (by decide : 0 < 1) (by omega : 0 + (wrapF .i64 ((g_16.length : Int) - 1)).toNat * 1 = (wrapF .i64 ((g_16.length : Int) - 1)).toNat * 1 + 0) (by kernel_rfl)))) <| .mu 2 <| .done <| .n2 21 [(0, .hs 0 0 g_16.length 1), (14, aB (((gt g_16 (wrapF .i64 ((g_16.length : Int) - 1))) : Int) == 0))] [.own (g_16.flatMap (iC .u32))] ?_
   refine .cd hr (fun hb25 hr => ?_) (fun hb25 hr => ?_)
   ·refine .skip <| .block ?_
    obtain ⟨hg26, hr⟩ := gd hr
    refine .r0 fine <| .mu 4 <| .p0 (v := .hs 0 0 (wrapF .i64 ((g_16.length : Int) - 1)).toNat 1) (Eq.trans (b := slH (inS 0 (wrapF .i64 ((g_16.length : Int) - 1)) g_16.length) true ((0 : Int).toNat) ((wrapF .i64 ((g_16.length : Int) - 1)).toNat) (fun z1 z2 => .hs 0 (0 + z1 * 1) (z2 - z1) 1)) (by kernel_rfl) (slH_t hg26 (by kernel_rfl))) <| .mu 1 <| .done <| .pop ?_
    exact loopF_back (g_16.take (wrapF .i64 ((g_16.length : Int) - 1)).toNat) hr ((Wk.cutS (c := (iC .u32)) (es := 1) 0 0 (iC_len _) g_16 (wrapF .i64 ((g_16.length : Int) - 1)).toNat (inS_le hg26) (by kernel_rfl) (by kernel_rfl)).trans ((Wk.gc [0] [(0, false)] rfl (pKo (iC .u32) (iC_pure _) (g_16.take (wrapF .i64 ((g_16.length : Int) - 1)).toNat) trivial)).to (by kernel_rfl)))
   ·refine .leave rfl ?_
    obtain rfl := Option.some.inj hr
    exact ⟨rfl, ((Wk.gc [0] [(0, false)] rfl (pKo (iC .u32) (iC_pure _) g_16 trivial)).to (by kernel_rfl))⟩
  ·replace hr := cd_f hb23 hr
   refine .r0 fine <| .mu 2 <| .p0 (v := aB false) (Eq.trans (b := some (.pure (aB (decide ((g_16.length : Int) > 0))))) (by kernel_rfl) (by rw [hb23])) <| .mu 9 <| .done <| .n2 21 [(0, .hs 0 0 g_16.length 1), (14, aB false)] [.own (g_16.flatMap (iC .u32))] <| .cF (by kernel_rfl) <| .leave rfl ?_
   obtain rfl := Option.some.inj hr
   exact ⟨rfl, ((Wk.gc [0] [(0, false)] rfl (pKo (iC .u32) (iC_pure _) g_16 trivial)).to (by kernel_rfl))⟩
 ·rintro x st' hq29
  clear hL28
  obtain ⟨rfl, hq29⟩ := hq29
  refine CQ_exit _ rfl <| .wk hq29 <| .seq <| .r3 fine 21 [(2, .hs 0 0 g_21.length 1)] <| .ret ?_
  obtain rfl := Option.some.inj hr
  exact FinM.ret [.hs 0 0 g_21.length 1] ((Wk.gc [0] [(0, false)] rfl (pKo (iC .u32) (iC_pure _) g_21 trivial)).to (by kernel_rfl))

theorem integer_times_w_ok (n : Nat) (a : List Int) (b : List Int) (r : List Int) (hr : integer_times_w n a b = some r) : FnMut 1 Tryz.prog 99 [sU32 a, .hs 0 0 b.length 1] [.own (b.flatMap (iC .u32))] (.hs 1 0 r.length 1) [.own (b.flatMap (iC .u32)), .own (r.flatMap (iC .u32))] := by
 unfold integer_times_w at hr
 refine FnMut.body fine Tryz.func99 (c := (Tryz.f99.body).getD .skip) rfl (us := [.hs 1 0 r.length 1]) (s := mkS 69 0 [(0, sU32 a), (1, .hs 0 0 b.length 1)]) (by kernel_rfl) (rs := [.tmp 4]) rfl ?_
 unfold Tryz.f99
 simp only [Option.getD_some]
 refine .seq <| .r3 fine 69 [(0, sU32 a), (1, .hs 0 0 b.length 1)] <| .seq ?_
 obtain ⟨hg50, hg51, hg52, hr⟩ := gd3 hr
 refine .r0 fine <| .mu 5 <| .e0 (v := .hs 1 0 (List.replicate (wrapF .i64 ((a.length : Int) + (b.length : Int))).toNat ((0 : Int) : Int)).length 1) (ws := [(1, .own ((List.replicate (wrapF .i64 ((a.length : Int) + (b.length : Int))).toNat ((0 : Int) : Int)).flatMap (iC .u32)))]) (Eq.trans (b := guardO (decide (0 ≤ (wrapF .i64 ((a.length : Int) + (b.length : Int)))) && decide ((wrapF .i64 ((a.length : Int) + (b.length : Int))) ≤ (wrapF .i64 ((a.length : Int) + (b.length : Int)))) && decide ((4 : Int) * (wrapF .i64 ((a.length : Int) + (b.length : Int))) ≤ 281474976710656) && decide ((wrapF .i64 ((a.length : Int) + (b.length : Int))) ≤ 9223372036854775807) && true && true && true) (some (.eff (.hs 1 0 (wrapF .i64 ((a.length : Int) + (b.length : Int))).toNat 1) [(1, .own (zerosA [aU32 0] (wrapF .i64 ((a.length : Int) + (b.length : Int))).toNat))]))) (by kernel_rfl) (make_own (c := (iC .u32)) (z := (0 : Int)) (n := wrapF .i64 ((a.length : Int) + (b.length : Int))) (by_ := 4) rfl hg50 hg51 hg52)) <| .mu 1 <| .done <| .n2 69 [(0, sU32 a), (1, .hs 0 0 b.length 1), (5, .hs 1 0 (List.replicate (wrapF .i64 ((a.length : Int) + (b.length : Int))).toNat ((0 : Int) : Int)).length 1)] [.own (b.flatMap (iC .u32)), .own ((List.replicate (wrapF .i64 ((a.length : Int) + (b.length : Int))).toNat ((0 : Int) : Int)).flatMap (iC .u32))] <| .seq <| .seq <| .r3 fine 69 [(1, .hs 0 0 b.length 1), (5, .hs 1 0 (List.replicate (wrapF .i64 ((a.length : Int) + (b.length : Int))).toNat ((0 : Int) : Int)).length 1), (18, sU32 a), (19, aI64 (a.length : Int)), (20, aI64 0)] <| .block ?_
 replace hr := bd hr; obtain ⟨out_73, hL94, hr⟩ := hr
 refine .loopO (σ := fun z0 => match z0 with | (out_53, x_54) => ⟨mkS 69 0 [(1, .hs 0 0 b.length 1), (5, .hs 1 0 out_53.length 1), (18, sU32 a), (19, aI64 (a.length : Int)), (20, aI64 x_54)], [.own (b.flatMap (iC .u32)), .own (out_53.flatMap (iC .u32))]⟩) (Q := fun x st' => x = .exit 0 ∧ Wk 1 st' ⟨mkS 69 0 [(5, .hs 1 0 out_73.length 1)], [.own (b.flatMap (iC .u32)), .own (out_73.flatMap (iC .u32))]⟩) hL94 ((Wk.gc [1, 5, 18, 19, 20] [(0, false), (1, false)] rfl (pKo (iC .u32) (iC_pure _) b (pKo (iC .u32) (iC_pure _) (List.replicate (wrapF .i64 ((a.length : Int) + (b.length : Int))).toNat ((0 : Int) : Int)) trivial))).to (by kernel_rfl)) ?_ ?_
 ·clear hr
  rintro m ⟨out_53, x_54⟩ hr
  show CQ _ _ _ _ _ ⟨_, _⟩
  refine .seq <| .r3 fine 69 [(1, .hs 0 0 b.length 1), (5, .hs 1 0 out_53.length 1), (18, sU32 a), (19, aI64 (a.length : Int)), (20, aI64 x_54), (21, aB (decide (x_54 < (a.length : Int))))] <| .seq ?_
  refine .cd hr (fun hb75 hr => ?_) (fun hb75 hr => ?_)
  ·refine .skip <| .seq <| .block <| .seq ?_
   obtain ⟨hg76, hr⟩ := gd hr
   refine .r0 fine <| .mu 1 <| .p0 (v := .pp (a.flatMap (iC .u32)) (x_54.toNat * 1)) (Eq.trans (b := ORes.ofP (guardV (inR x_54 a.length) (.pp (a.flatMap (iC .u32)) (x_54.toNat * 1)))) (by kernel_rfl) (ofP_guard hg76)) <| .p0 (v := aU32 (gt a x_54)) (Eq.trans (b := ORes.ofP ((a.flatMap (iC .u32))[x_54.toNat * 1]?)) (by kernel_rfl) (ofP_some (flat_get (iC_len _) (inR_lt hg76) (by decide : 0 < 1) (by omega : x_54.toNat * 1 = x_54.toNat * 1 + 0) (by kernel_rfl)))) <| .mu 2 <| .done <| .n2 69 [(1, .hs 0 0 b.length 1), (5, .hs 1 0 out_53.length 1), (6, aI64 x_54), (7, aU32 (gt a x_54)), (18, sU32 a), (19, aI64 (a.length : Int)), (20, aI64 x_54)] [.own (b.flatMap (iC .u32)), .own (out_53.flatMap (iC .u32))] <| .seq <| .r3 fine 69 [(1, .hs 0 0 b.length 1), (5, .hs 1 0 out_53.length 1), (6, aI64 x_54), (7, aU32 (gt a x_54)), (8, aU64 0), (18, sU32 a), (19, aI64 (a.length : Int)), (20, aI64 x_54)] <| .seq <| .seq <| .r3 fine 69 [(1, .hs 0 0 b.length 1), (5, .hs 1 0 out_53.length 1), (6, aI64 x_54), (7, aU32 (gt a x_54)), (8, aU64 0), (18, sU32 a), (19, aI64 (a.length : Int)), (20, aI64 x_54), (25, .hs 0 0 b.length 1), (26, aI64 (b.length : Int)), (27, aI64 0)] <| .block ?_
   replace hr := bd hr; obtain ⟨o89, hL90, hr⟩ := hr
   refine .loopO (σ := fun z0 => match z0 with | (out_77, carry_78, x_79) => ⟨mkS 69 0 [(1, .hs 0 0 b.length 1), (5, .hs 1 0 out_77.length 1), (6, aI64 x_54), (7, aU32 (gt a x_54)), (8, aU64 carry_78), (18, sU32 a), (19, aI64 (a.length : Int)), (20, aI64 x_54), (25, .hs 0 0 b.length 1), (26, aI64 (b.length : Int)), (27, aI64 x_79)], [.own (b.flatMap (iC .u32)), .own (out_77.flatMap (iC .u32))]⟩) (Q := fun x st' => match (generalizing := false) o89 with | (out_83, carry_84) => x = .exit 2 ∧ Wk 1 st' ⟨mkS 69 0 [(1, .hs 0 0 b.length 1), (5, .hs 1 0 out_83.length 1), (6, aI64 x_54), (8, aU64 carry_84), (18, sU32 a), (19, aI64 (a.length : Int)), (20, aI64 x_54)], [.own (b.flatMap (iC .u32)), .own (out_83.flatMap (iC .u32))]⟩) hL90 ((Wk.gc [1, 5, 6, 7, 8, 18, 19, 20, 25, 26, 27] [(0, false), (1, false)] rfl (pKo (iC .u32) (iC_pure _) b (pKo (iC .u32) (iC_pure _) out_53 trivial))).to (by kernel_rfl)) ?_ ?_
   ·clear hr
    rintro m ⟨out_77, carry_78, x_79⟩ hr
    show CQ _ _ _ _ _ ⟨_, _⟩
    refine .seq <| .r3 fine 69 [(1, .hs 0 0 b.length 1), (5, .hs 1 0 out_77.length 1), (6, aI64 x_54), (7, aU32 (gt a x_54)), (8, aU64 carry_78), (18, sU32 a), (19, aI64 (a.length : Int)), (20, aI64 x_54), (25, .hs 0 0 b.length 1), (26, aI64 (b.length : Int)), (27, aI64 x_79), (28, aB (decide (x_79 < (b.length : Int))))] <| .seq ?_
    refine .cd hr (fun hb86 hr => ?_) (fun hb86 hr => ?_)
    ·refine .skip <| .seq <| .block <| .seq ?_
     obtain ⟨hg87, hr⟩ := gd hr
     refine .r0 fine <| .mu 1 <| .p0 (v := .hp 0 (0 + x_79.toNat * 1)) (Eq.trans (b := ORes.ofP (guardV (inR x_79 b.length) (.hp 0 (0 + x_79.toNat * 1)))) (by kernel_rfl) (ofP_guard hg87)) <| .p0 (v := aU32 (gt b x_79)) (Eq.trans (b := ORes.ofP ((b.flatMap (iC .u32))[0 + x_79.toNat * 1]?)) (by kernel_rfl) (ofP_some (flat_get (iC_len _) (inR_lt hg87) (by decide : 0 < 1) (by omega : 0 + x_79.toNat * 1 = x_79.toNat * 1 + 0) (by kernel_rfl)))) <| .mu 2 <| .done <| .n2 69 [(1, .hs 0 0 b.length 1), (5, .hs 1 0 out_77.length 1), (6, aI64 x_54), (7, aU32 (gt a x_54)), (8, aU64 carry_78), (9, aI64 x_79), (10, aU32 (gt b x_79)), (18, sU32 a), (19, aI64 (a.length : Int)), (20, aI64 x_54), (25, .hs 0 0 b.length 1), (26, aI64 (b.length : Int)), (27, aI64 x_79)] [.own (b.flatMap (iC .u32)), .own (out_77.flatMap (iC .u32))] <| .seq ?_
     obtain ⟨hg88, hr⟩ := gd hr
     refine .r0 fine <| .mu 4 <| .p0 (v := .hp 1 (0 + (wrapF .i64 (x_54 + x_79)).toNat * 1)) (Eq.trans (b := ORes.ofP (guardV (inR (wrapF .i64 (x_54 + x_79)) out_77.length) (.hp 1 (0 + (wrapF .i64 (x_54 + x_79)).toNat * 1)))) (by kernel_rfl) (ofP_guard hg88)) <| .p0 (v := aU32 (gt out_77 (wrapF .i64 (x_54 + x_79)))) (Eq.trans (b := ORes.ofP ((out_77.flatMap (iC .u32))[0 + (wrapF .i64 (x_54 + x_79)).toNat * 1]?)) (by kernel_rfl) (ofP_some (flat_get (iC_len _) (inR_lt hg88) (by decide : 0 < 1) (by omega : 0 + (wrapF .i64 (x_54 + x_79)).toNat * 1 = (wrapF .i64 (x_54 + x_79)).toNat * 1 + 0) (by kernel_rfl)))) <| .mu 10 <| .done <| .n2 69 [(1, .hs 0 0 b.length 1), (5, .hs 1 0 out_77.length 1), (6, aI64 x_54), (7, aU32 (gt a x_54)), (9, aI64 x_79), (11, aU64 (wrapF .u64 ((wrapF .u64 ((wrapF .u64 (gt out_77 (wrapF .i64 (x_54 + x_79)))) + (wrapF .u64 ((wrapF .u64 (gt a x_54)) * (wrapF .u64 (gt b x_79)))))) + carry_78))), (18, sU32 a), (19, aI64 (a.length : Int)), (20, aI64 x_54), (25, .hs 0 0 b.length 1), (26, aI64 (b.length : Int)), (27, aI64 x_79)] [.own (b.flatMap (iC .u32)), .own (out_77.flatMap (iC .u32))] <| .r0 fine <| .mu 9 <| .p0 (v := .hp 1 (0 + (wrapF .i64 (x_54 + x_79)).toNat * 1)) (Eq.trans (b := ORes.ofP (guardV (inR (wrapF .i64 (x_54 + x_79)) out_77.length) (.hp 1 (0 + (wrapF .i64 (x_54 + x_79)).toNat * 1)))) (by kernel_rfl) (ofP_guard hg88)) <| .e0 (v := .unk) (ws := [(1, .own ((out_77.set (wrapF .i64 (x_54 + x_79)).toNat (wrapF .u32 ((wrapF .u64 ((wrapF .u64 ((wrapF .u64 (gt out_77 (wrapF .i64 (x_54 + x_79)))) + (wrapF .u64 ((wrapF .u64 (gt a x_54)) * (wrapF .u64 (gt b x_79)))))) + carry_78)).tmod 1000000000))).flatMap (iC .u32)))]) (Eq.trans (b := stO (decide ((0 + (wrapF .i64 (x_54 + x_79)).toNat * 1) + 1 ≤ (out_77.flatMap (iC .u32)).length) && true) [(1, .own (setCells (out_77.flatMap (iC .u32)) (0 + (wrapF .i64 (x_54 + x_79)).toNat * 1) [aU32 (wrapF .u32 ((wrapF .u64 ((wrapF .u64 ((wrapF .u64 (gt out_77 (wrapF .i64 (x_54 + x_79)))) + (wrapF .u64 ((wrapF .u64 (gt a x_54)) * (wrapF .u64 (gt b x_79)))))) + carry_78)).tmod 1000000000))]))]) (by kernel_rfl) (stO_t (and_t (flat_fits (iC_len _) (inR_lt hg88) (Nat.le_of_ble_eq_true rfl) (by omega : 0 + (wrapF .i64 (x_54 + x_79)).toNat * 1 = (wrapF .i64 (x_54 + x_79)).toNat * 1 + 0))) (congrArg Blk.own (flat_set (iC_len _) (inR_lt hg88) (Nat.le_of_ble_eq_true rfl) (by omega : 0 + (wrapF .i64 (x_54 + x_79)).toNat * 1 = (wrapF .i64 (x_54 + x_79)).toNat * 1 + 0) (by kernel_rfl))))) <| .mu 1 <| .done <| .pop <| .ru fine ?_
     exact loopF_back (out_77.set (wrapF .i64 (x_54 + x_79)).toNat (wrapF .u32 ((wrapF .u64 ((wrapF .u64 ((wrapF .u64 (gt out_77 (wrapF .i64 (x_54 + x_79)))) + (wrapF .u64 ((wrapF .u64 (gt a x_54)) * (wrapF .u64 (gt b x_79)))))) + carry_78)).tmod 1000000000)), wrapF .u64 ((wrapF .u64 ((wrapF .u64 ((wrapF .u64 (gt out_77 (wrapF .i64 (x_54 + x_79)))) + (wrapF .u64 ((wrapF .u64 (gt a x_54)) * (wrapF .u64 (gt b x_79)))))) + carry_78)).tdiv 1000000000), wrapF .i64 (x_79 + 1)) hr ((Wk.relen 5 (b := 1) (es := 1) (len := out_77.length) (out_77.set (wrapF .i64 (x_54 + x_79)).toNat (wrapF .u32 ((wrapF .u64 ((wrapF .u64 ((wrapF .u64 (gt out_77 (wrapF .i64 (x_54 + x_79)))) + (wrapF .u64 ((wrapF .u64 (gt a x_54)) * (wrapF .u64 (gt b x_79)))))) + carry_78)).tmod 1000000000))).length (by kernel_rfl) (by simp)).trans ((Wk.gc [1, 5, 6, 7, 8, 18, 19, 20, 25, 26, 27] [(0, false), (1, false)] rfl (pKo (iC .u32) (iC_pure _) b (pKo (iC .u32) (iC_pure _) (out_77.set (wrapF .i64 (x_54 + x_79)).toNat (wrapF .u32 ((wrapF .u64 ((wrapF .u64 ((wrapF .u64 (gt out_77 (wrapF .i64 (x_54 + x_79)))) + (wrapF .u64 ((wrapF .u64 (gt a x_54)) * (wrapF .u64 (gt b x_79)))))) + carry_78)).tmod 1000000000))) trivial))).to (by kernel_rfl)))
    ·refine .leave rfl ?_
     obtain rfl := Option.some.inj hr
     exact ⟨rfl, ((Wk.gc [1, 5, 6, 8, 18, 19, 20] [(0, false), (1, false)] rfl (pKo (iC .u32) (iC_pure _) b (pKo (iC .u32) (iC_pure _) out_77 trivial))).to (by kernel_rfl))⟩
   ·rcases o89 with ⟨out_83, carry_84⟩
    rintro x st' hq91
    clear hL90
    obtain ⟨rfl, hq91⟩ := hq91
    refine CQ_exit _ rfl <| .wk hq91 ?_
    obtain ⟨hg92, hr⟩ := gd hr
    refine .r0 fine <| .mu 7 <| .p0 (v := .hp 1 (0 + (wrapF .i64 (x_54 + (b.length : Int))).toNat * 1)) (Eq.trans (b := ORes.ofP (guardV (inR (wrapF .i64 (x_54 + (b.length : Int))) out_83.length) (.hp 1 (0 + (wrapF .i64 (x_54 + (b.length : Int))).toNat * 1)))) (by kernel_rfl) (ofP_guard hg92)) <| .e0 (v := .unk) (ws := [(1, .own ((out_83.set (wrapF .i64 (x_54 + (b.length : Int))).toNat (wrapF .u32 carry_84)).flatMap (iC .u32)))]) (Eq.trans (b := stO (decide ((0 + (wrapF .i64 (x_54 + (b.length : Int))).toNat * 1) + 1 ≤ (out_83.flatMap (iC .u32)).length) && true) [(1, .own (setCells (out_83.flatMap (iC .u32)) (0 + (wrapF .i64 (x_54 + (b.length : Int))).toNat * 1) [aU32 (wrapF .u32 carry_84)]))]) (by kernel_rfl) (stO_t (and_t (flat_fits (iC_len _) (inR_lt hg92) (Nat.le_of_ble_eq_true rfl) (by omega : 0 + (wrapF .i64 (x_54 + (b.length : Int))).toNat * 1 = (wrapF .i64 (x_54 + (b.length : Int))).toNat * 1 + 0))) (congrArg Blk.own (flat_set (iC_len _) (inR_lt hg92) (Nat.le_of_ble_eq_true rfl) (by omega : 0 + (wrapF .i64 (x_54 + (b.length : Int))).toNat * 1 = (wrapF .i64 (x_54 + (b.length : Int))).toNat * 1 + 0) (by kernel_rfl))))) <| .done <| .pop <| .ru fine ?_
    exact loopF_back (out_83.set (wrapF .i64 (x_54 + (b.length : Int))).toNat (wrapF .u32 carry_84), wrapF .i64 (x_54 + 1)) hr ((Wk.relen 5 (b := 1) (es := 1) (len := out_83.length) (out_83.set (wrapF .i64 (x_54 + (b.length : Int))).toNat (wrapF .u32 carry_84)).length (by kernel_rfl) (by simp)).trans ((Wk.gc [1, 5, 18, 19, 20] [(0, false), (1, false)] rfl (pKo (iC .u32) (iC_pure _) b (pKo (iC .u32) (iC_pure _) (out_83.set (wrapF .i64 (x_54 + (b.length : Int))).toNat (wrapF .u32 carry_84)) trivial))).to (by kernel_rfl)))
  ·refine .leave rfl ?_
   obtain rfl := Option.some.inj hr
   exact ⟨rfl, ((Wk.gc [5] [(0, false), (1, false)] rfl (pKo (iC .u32) (iC_pure _) b (pKo (iC .u32) (iC_pure _) out_53 trivial))).to (by kernel_rfl))⟩
 ·rintro x st' hq95
  clear hL94
  obtain ⟨rfl, hq95⟩ := hq95
  refine CQ_exit _ rfl <| .wk hq95 <| .seq ?_
  obtain ⟨v96, hc97, hr⟩ := bd hr
  refine .g1 fine (callOk_mutU (args := [.hs 1 0 out_73.length 1]) 1 0 [(1, false)] [false] (integer_trim_w_ok n out_73 v96 hc97) (by exact ⟨ids_flat (iC_pure _) _, trivial⟩) (by exact ⟨ids_flat (iC_pure _) _, trivial⟩) rfl rfl (by kernel_rfl) (by kernel_rfl)) <| .mu 1 <| .ca cf0 <| .mu 1 <| .done <| .n2 69 [(4, .hs 1 0 v96.length 1)] [.own (b.flatMap (iC .u32)), .own (v96.flatMap (iC .u32))] <| .ret ?_
  obtain rfl := Option.some.inj hr
  exact FinM.ret [.hs 1 0 v96.length 1] ((Wk.gc [0] [(0, false), (1, false)] rfl (pKo (iC .u32) (iC_pure _) b (pKo (iC .u32) (iC_pure _) v96 trivial))).to (by kernel_rfl))

theorem integer_at_inj {g : List Int} {i : Int} {g_ : List Int} {i_ : Int} (h : ([slT (iC .u32) g, .at (.int .i64 i)] : List AV) = [slT (iC .u32) g_, .at (.int .i64 i_)]) : g = g_ ∧ i = i_ := by
 simp only [List.cons.injEq, AV.agg.injEq, AV.at.injEq, Value.int.injEq, Value.bool.injEq, AV.fn.injEq, AV.pp.injEq, true_and, and_true, slT_inj_int] at h
 simp_all
theorem integer_at_cg (n : Nat) {g : List Int} {i : Int} {g_ : List Int} {i_ : Int} (h : ([slT (iC .u32) g, .at (.int .i64 i)] : List AV) = [slT (iC .u32) g_, .at (.int .i64 i_)]) : integer_at n g i = integer_at n g_ i_ := by
 obtain ⟨rfl, rfl⟩ := integer_at_inj h
 rfl
theorem integer_at_ok (n : Nat) (g : List Int) (i : Int) (r : Int) (hr : integer_at n g i = some r) : FnOk Tryz.prog 197 [sU32 g, aI64 i] (aU32 r) := by
 unfold integer_at at hr
 refine FnOk.bd fine Tryz.func197 [.tmp 4] ?_
 unfold Tryz.f197
 simp only [Option.getD_some]
 refine .seq <| .r3 fine 13 [(0, sU32 g), (1, aI64 i)] <| .seq <| .seq <| .r3 fine 13 [(0, sU32 g), (1, aI64 i), (8, aB (decide (i < (g.length : Int))))] ?_
 refine .cd hr (fun hb1 hr => ?_) (fun hb1 hr => ?_)
 ·refine .seq ?_
  obtain ⟨hg2, hr⟩ := gd hr
  refine .r0 fine <| .mu 2 <| .p0 (v := .pp (g.flatMap (iC .u32)) (i.toNat * 1)) (Eq.trans (b := ORes.ofP (guardV (inR i g.length) (.pp (g.flatMap (iC .u32)) (i.toNat * 1)))) (by kernel_rfl) (ofP_guard hg2)) <| .p0 (v := aU32 (gt g i)) (Eq.trans (b := ORes.ofP ((g.flatMap (iC .u32))[i.toNat * 1]?)) (by kernel_rfl) (ofP_some (flat_get (iC_len _) (inR_lt hg2) (by decide : 0 < 1) (by omega : i.toNat * 1 = i.toNat * 1 + 0) (by kernel_rfl)))) <| .mu 1 <| .done <| .ret ?_
  obtain rfl := Option.some.inj hr
  exact FinQ.r1 [aU32 (gt g i)]
 ·refine .skip <| .seq <| .ru fine <| .ret ?_
  obtain rfl := Option.some.inj hr
  exact FinQ.r1 [aU32 0]
end Go.L
