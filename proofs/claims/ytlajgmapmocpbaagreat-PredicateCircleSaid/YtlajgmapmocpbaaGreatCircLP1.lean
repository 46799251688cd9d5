/- The program's functions compute what the plain Lean programs compute, part 1; printed by a program. -/
import Derived.Test.YtlajgmapmocpbaaGreatCircLD
import Derived.Test.YtlajgmapmocpbaaGreatL0e
import Derived.Test.YtlajgmapmocpbaaGreatChecked
import Derived.KernelRfl
set_option linter.unusedVariables false
set_option linter.unusedSimpArgs false
set_option maxRecDepth 100000
set_option maxHeartbeats 4000000
namespace Go.L
open Go Go.Eng Go.Proofs
theorem predicate_inRange_1_ok (n : Nat) (n' : Int) (r : Bool) (hr : predicate_inRange_1 n n' = some r) : FnOk Tryz.prog 102 [.at (.int .i64 n')] (.at (.bool r)) := by
 unfold predicate_inRange_1 at hr
 refine FnOk.body fine Tryz.func102 (c := (Tryz.f102.body).getD .skip) rfl (s := mkS 9 0 [(0, aI64 n')]) (by kernel_rfl) (rs := [.tmp 2]) rfl ?_
 unfold Tryz.f102
 simp only [Option.getD_some]
 refine .seq <| .rn fine [0] (mkS 9 0 [(0, aI64 n')]) [] <| .seq ?_
 rcases Bool.eq_false_or_eq_true (decide (n' < (-1048576))) with hb1 | hb1
 ·replace hr := cd_t hb1 hr
  refine .r0 fine <| .mu 1 <| .p0 (v := aB true) (Eq.trans (b := some (.pure (aB (decide (n' < (-1048576)))))) (by kernel_rfl) (by rw [hb1])) <| .mu 5 <| .done <| .ret ?_
  obtain rfl := Option.some.inj hr
  exact FinQ.r1 [aB true]
 ·replace hr := cd_f hb1 hr
  refine .r0 fine <| .mu 1 <| .p0 (v := aB false) (Eq.trans (b := some (.pure (aB (decide (n' < (-1048576)))))) (by kernel_rfl) (by rw [hb1])) <| .mu 5 <| .done <| .ret ?_
  obtain rfl := Option.some.inj hr
  exact FinQ.r1 [aB (decide (n' > 1048576))]

theorem slices_IndexFunc_int_int_of_predicate_inRange_1_ok (n : Nat) (s : List Int) (r : Int) (hr : slices_IndexFunc_int_int_of_predicate_inRange_1 n s = some r) : FnOk Tryz.prog 130 [slT (iC .i64) s, .fn 102 [] []] (.at (.int .i64 r)) := by
 unfold slices_IndexFunc_int_int_of_predicate_inRange_1 at hr
 refine FnOk.body fine Tryz.func130 (c := (Tryz.f130.body).getD .skip) rfl (s := mkS 19 0 [(0, sI64 s), (1, .fn 102 [] [])]) (by kernel_rfl) (rs := [.tmp 4]) rfl ?_
 unfold Tryz.f130
 simp only [Option.getD_some]
 refine .seq <| .rn fine [0, 1] (mkS 19 0 [(0, sI64 s), (1, .fn 102 [] [])]) [] <| .seq <| .seq <| .rn fine [0, 1, 7, 8] (mkS 19 0 [(0, sI64 s), (1, .fn 102 [] []), (7, aI64 (s.length : Int)), (8, aI64 0)]) [] <| .block ?_
 replace hr := bd hr; obtain ⟨o13, hL14, hr⟩ := hr
 refine .loopO (σ := fun z0 => match z0 with | x_1 => ⟨mkS 19 0 [(0, sI64 s), (1, .fn 102 [] []), (7, aI64 (s.length : Int)), (8, aI64 x_1)], []⟩) (Q := fun x st' => match (generalizing := false) o13 with | .inl _ => x = .exit 0 ∧ Wk 0 st' ⟨mkS 19 0 [], []⟩ | .inr (r0) => x = .ret ∧ FinQ Tryz.prog [.tmp 4] (aI64 r0) .ret st') hL14 ((Wk.gc [0, 1, 7, 8] [] rfl pK0).to (by kernel_rfl)) ?_ ?_
 ·clear hr
  rintro m x_1 hr
  show CQ _ _ _ _ _ ⟨_, _⟩
  refine .seq <| .rn fine [0, 1, 7, 8, 9] (mkS 19 0 [(0, sI64 s), (1, .fn 102 [] []), (7, aI64 (s.length : Int)), (8, aI64 x_1), (9, aB (decide (x_1 < (s.length : Int))))]) [] <| .seq ?_
  refine .cond (t := decide (x_1 < (s.length : Int))) (by kernel_rfl) (fun hb8 => ?_) (fun hb8 => ?_)
  ·replace hr := cd_t hb8 hr
   refine .skip <| .seq <| .block <| .seq <| .rn fine [0, 1, 5, 7, 8] (mkS 19 0 [(0, sI64 s), (1, .fn 102 [] []), (5, aI64 x_1), (7, aI64 (s.length : Int)), (8, aI64 x_1)]) [] <| .seq ?_
   obtain ⟨hg9, hr⟩ := gd hr
   obtain ⟨v10, hc11, hr⟩ := bd hr
   refine .g1 fine (callOk_val (l := []) rfl (SnL.cons (Sn.pure rfl) SnL.nil) (predicate_inRange_1_ok n (gt s x_1) v10 hc11)) <| .mu 3 <| .p0 (v := .pp (s.flatMap (iC .i64)) (x_1.toNat * 1)) (Eq.trans (b := ORes.ofP (guardV (inR x_1 s.length) (.pp (s.flatMap (iC .i64)) (x_1.toNat * 1)))) (by kernel_rfl) (ofP_guard hg9)) <| .p0 (v := aI64 (gt s x_1)) (Eq.trans (b := ORes.ofP ((s.flatMap (iC .i64))[x_1.toNat * 1]?)) (by kernel_rfl) (ofP_some (flat_get (iC_len _) (inR_lt hg9) (by decide : 0 < 1) (by omega : x_1.toNat * 1 = x_1.toNat * 1 + 0) (by kernel_rfl)))) <| .c0 (by kernel_rfl) (callOf_at (by kernel_rfl)) <| .done <| .n1 [0, 1, 5, 7, 8, 16] (mkS 19 0 [(0, sI64 s), (1, .fn 102 [] []), (5, aI64 x_1), (7, aI64 (s.length : Int)), (8, aI64 x_1), (16, aB v10)]) [] ?_
   refine .cond (t := v10) (by kernel_rfl) (fun hb12 => ?_) (fun hb12 => ?_)
   ·replace hr := cd_t hb12 hr
    refine .seq <| .ru fine <| .ret ?_
    obtain rfl := Option.some.inj hr
    exact ⟨rfl, FinQ.ret (vs := [aI64 x_1]) (by kernel_rfl) (Sn.pure rfl)⟩
   ·replace hr := cd_f hb12 hr
    refine .skip <| .pop <| .ru fine ?_
    exact loopF_back (wrapF .i64 (x_1 + 1)) hr ((Wk.gc [0, 1, 7, 8] [] rfl pK0).to (by kernel_rfl))
  ·replace hr := cd_f hb8 hr
   refine .leave rfl ?_
   obtain rfl := Option.some.inj hr
   exact ⟨rfl, ((Wk.gc [] [] rfl pK0).to (by kernel_rfl))⟩
 ·rcases o13 with ⟨⟩ | r0
  ·rintro x st' hq15
   clear hL14
   obtain ⟨rfl, hq15⟩ := hq15
   refine CQ_exit _ rfl <| .wk hq15 <| .seq <| .ru fine <| .ret ?_
   obtain rfl := Option.some.inj hr
   exact FinQ.r1 [aI64 (-1)]
  ·rintro x st' hq15
   clear hL14
   obtain ⟨rfl, hq15⟩ := hq15
   obtain rfl := Option.some.inj hr
   exact CQ_ret _ hq15

theorem slices_ContainsFunc_int_int_of_predicate_inRange_1_ok (n : Nat) (s : List Int) (r : Bool) (hr : slices_ContainsFunc_int_int_of_predicate_inRange_1 n s = some r) : FnOk Tryz.prog 101 [slT (iC .i64) s, .fn 102 [] []] (.at (.bool r)) := by
 unfold slices_ContainsFunc_int_int_of_predicate_inRange_1 at hr
 refine FnOk.body fine Tryz.func101 (c := (Tryz.f101.body).getD .skip) rfl (s := mkS 9 0 [(0, sI64 s), (1, .fn 102 [] [])]) (by kernel_rfl) (rs := [.tmp 4]) rfl ?_
 unfold Tryz.f101
 simp only [Option.getD_some]
 refine .seq <| .rn fine [0, 1] (mkS 9 0 [(0, sI64 s), (1, .fn 102 [] [])]) [] <| .seq ?_
 obtain ⟨v1, hc2, hr⟩ := bd hr
 refine .g1 fine (callOk_val (l := []) rfl (SnL.cons (Sn.pure rfl) (SnL.cons (Sn.pure rfl) SnL.nil)) (slices_IndexFunc_int_int_of_predicate_inRange_1_ok n s v1 hc2)) <| .mu 2 <| .c0 (by kernel_rfl) (callOf_at (by kernel_rfl)) <| .mu 2 <| .done <| .ret ?_
 obtain rfl := Option.some.inj hr
 exact FinQ.r1 [aB (decide (v1 ≥ 0))]

theorem predicate_inRange_ok (n : Nat) (l : List Int) (r : Bool) (hr : predicate_inRange n l = some r) : FnOk Tryz.prog 63 [slT (iC .i64) l] (.at (.bool r)) := by
 unfold predicate_inRange at hr
 refine FnOk.body fine Tryz.func63 (c := (Tryz.f63.body).getD .skip) rfl (s := mkS 6 0 [(0, sI64 l)]) (by kernel_rfl) (rs := [.tmp 2]) rfl ?_
 unfold Tryz.f63
 simp only [Option.getD_some]
 refine .seq <| .rn fine [0] (mkS 6 0 [(0, sI64 l)]) [] <| .seq ?_
 obtain ⟨v1, hc2, hr⟩ := bd hr
 refine .g1 fine (callOk_val (l := []) rfl (SnL.cons (Sn.pure rfl) (SnL.cons (Sn.pure rfl) SnL.nil)) (slices_ContainsFunc_int_int_of_predicate_inRange_1_ok n l v1 hc2)) <| .mu 1 <| .c0 (by kernel_rfl) (callOf_at (by kernel_rfl)) <| .mu 2 <| .done <| .ret ?_
 obtain rfl := Option.some.inj hr
 exact FinQ.r1 [aB (!v1)]

theorem predicate_Check_1_ok (n : Nat) (p : api_Pix) (r : Bool) (hr : predicate_Check_1 n p = some r) : FnOk Tryz.prog 62 [.agg [.at (.int .i64 p.X), .at (.int .i64 p.Y)]] (.at (.bool r)) := by
 unfold predicate_Check_1 at hr
 refine FnOk.body fine Tryz.func62 (c := (Tryz.f62.body).getD .skip) rfl (s := mkS 10 0 [(0, .agg (api_Pix.c p))]) (by kernel_rfl) (rs := [.tmp 2]) rfl ?_
 unfold Tryz.f62
 simp only [Option.getD_some]
 refine .seq <| .rn fine [1] (mkS 10 0 [(1, .hp 0 0)]) [.own (api_Pix.c p)] <| .seq ?_
 obtain ⟨v1, hc2, hr⟩ := bd hr
 refine .region fine (callOf_cons (callOk_val (H := [.own (api_Pix.c p), .own (api_Pix.c p)]) (args := [.hs 1 0 2 1]) (l := [1]) rfl (SnL.cons (Sn.hs rfl (.inl rfl) (SnC.cons (Sn.pure rfl) (SnC.cons (Sn.pure rfl) SnC.nil)) (fun h => nomatch h)) SnL.nil) (predicate_inRange_ok n [p.X, p.Y] v1 hc2)) callOf_nil) <| .mu 5 <| .c0 (by kernel_rfl) (callOf_at (by kernel_rfl)) <| .mu 2 <| .done <| .ret ?_
 obtain rfl := Option.some.inj hr
 exact FinQ.r1 [aB (!v1)]

theorem slices_IndexFunc_fiducial_api_Pix_fiducial_api_Pix_of_predicate_Check_1_ok (n : Nat) (s : List api_Pix) (r : Int) (hr : slices_IndexFunc_fiducial_api_Pix_fiducial_api_Pix_of_predicate_Check_1 n s = some r) : FnOk Tryz.prog 100 [slT api_Pix.c s, .fn 62 [] []] (.at (.int .i64 r)) := by
 unfold slices_IndexFunc_fiducial_api_Pix_fiducial_api_Pix_of_predicate_Check_1 at hr
 refine FnOk.body fine Tryz.func100 (c := (Tryz.f100.body).getD .skip) rfl (s := mkS 19 0 [(0, slT api_Pix.c s), (1, .fn 62 [] [])]) (by kernel_rfl) (rs := [.tmp 4]) rfl ?_
 unfold Tryz.f100
 simp only [Option.getD_some]
 refine .seq <| .rn fine [0, 1] (mkS 19 0 [(0, slT api_Pix.c s), (1, .fn 62 [] [])]) [] <| .seq <| .seq <| .rn fine [0, 1, 7, 8] (mkS 19 0 [(0, slT api_Pix.c s), (1, .fn 62 [] []), (7, aI64 (s.length : Int)), (8, aI64 0)]) [] <| .block ?_
 replace hr := bd hr; obtain ⟨o13, hL14, hr⟩ := hr
 refine .loopO (σ := fun z0 => match z0 with | x_1 => ⟨mkS 19 0 [(0, slT api_Pix.c s), (1, .fn 62 [] []), (7, aI64 (s.length : Int)), (8, aI64 x_1)], []⟩) (Q := fun x st' => match (generalizing := false) o13 with | .inl _ => x = .exit 0 ∧ Wk 0 st' ⟨mkS 19 0 [], []⟩ | .inr (r0) => x = .ret ∧ FinQ Tryz.prog [.tmp 4] (aI64 r0) .ret st') hL14 ((Wk.gc [0, 1, 7, 8] [] rfl pK0).to (by kernel_rfl)) ?_ ?_
 ·clear hr
  rintro m x_1 hr
  show CQ _ _ _ _ _ ⟨_, _⟩
  refine .seq <| .rn fine [0, 1, 7, 8, 9] (mkS 19 0 [(0, slT api_Pix.c s), (1, .fn 62 [] []), (7, aI64 (s.length : Int)), (8, aI64 x_1), (9, aB (decide (x_1 < (s.length : Int))))]) [] <| .seq ?_
  refine .cond (t := decide (x_1 < (s.length : Int))) (by kernel_rfl) (fun hb8 => ?_) (fun hb8 => ?_)
  ·replace hr := cd_t hb8 hr
   refine .skip <| .seq <| .block <| .seq <| .rn fine [0, 1, 5, 7, 8] (mkS 19 0 [(0, slT api_Pix.c s), (1, .fn 62 [] []), (5, aI64 x_1), (7, aI64 (s.length : Int)), (8, aI64 x_1)]) [] <| .seq ?_
   obtain ⟨hg9, hr⟩ := gd hr
   obtain ⟨v10, hc11, hr⟩ := bd hr
   refine .g1 fine (callOk_val (l := []) rfl (SnL.cons (Sn.pure rfl) SnL.nil) (predicate_Check_1_ok n (gt s x_1) v10 hc11)) <| .mu 3 <| .p0 (v := .pp (s.flatMap api_Pix.c) (x_1.toNat * 2)) (Eq.trans (b := ORes.ofP (guardV (inR x_1 s.length) (.pp (s.flatMap api_Pix.c) (x_1.toNat * 2)))) (by kernel_rfl) (ofP_guard hg9)) <| .p0 (v := .agg (api_Pix.c (gt s x_1))) (Eq.trans (b := ORes.ofP (guardV (decide (2 ≤ ((s.flatMap api_Pix.c).drop (x_1.toNat * 2)).length)) (.agg (((s.flatMap api_Pix.c).drop (x_1.toNat * 2)).take 2)))) (by kernel_rfl) (flat_load api_Pix.len (inR_lt hg9) (by decide) (by omega : x_1.toNat * 2 = x_1.toNat * 2 + 0) (by kernel_rfl))) <| .c0 (by kernel_rfl) (callOf_at (by kernel_rfl)) <| .done <| .n1 [0, 1, 5, 7, 8, 16] (mkS 19 0 [(0, slT api_Pix.c s), (1, .fn 62 [] []), (5, aI64 x_1), (7, aI64 (s.length : Int)), (8, aI64 x_1), (16, aB v10)]) [] ?_
   refine .cond (t := v10) (by kernel_rfl) (fun hb12 => ?_) (fun hb12 => ?_)
   ·replace hr := cd_t hb12 hr
    refine .seq <| .ru fine <| .ret ?_
    obtain rfl := Option.some.inj hr
    exact ⟨rfl, FinQ.ret (vs := [aI64 x_1]) (by kernel_rfl) (Sn.pure rfl)⟩
   ·replace hr := cd_f hb12 hr
    refine .skip <| .pop <| .ru fine ?_
    exact loopF_back (wrapF .i64 (x_1 + 1)) hr ((Wk.gc [0, 1, 7, 8] [] rfl pK0).to (by kernel_rfl))
  ·replace hr := cd_f hb8 hr
   refine .leave rfl ?_
   obtain rfl := Option.some.inj hr
   exact ⟨rfl, ((Wk.gc [] [] rfl pK0).to (by kernel_rfl))⟩
 ·rcases o13 with ⟨⟩ | r0
  ·rintro x st' hq15
   clear hL14
   obtain ⟨rfl, hq15⟩ := hq15
   refine CQ_exit _ rfl <| .wk hq15 <| .seq <| .ru fine <| .ret ?_
   obtain rfl := Option.some.inj hr
   exact FinQ.r1 [aI64 (-1)]
  ·rintro x st' hq15
   clear hL14
   obtain ⟨rfl, hq15⟩ := hq15
   obtain rfl := Option.some.inj hr
   exact CQ_ret _ hq15

theorem slices_ContainsFunc_fiducial_api_Pix_fiducial_api_Pix_of_predicate_Check_1_ok (n : Nat) (s : List api_Pix) (r : Bool) (hr : slices_ContainsFunc_fiducial_api_Pix_fiducial_api_Pix_of_predicate_Check_1 n s = some r) : FnOk Tryz.prog 61 [slT api_Pix.c s, .fn 62 [] []] (.at (.bool r)) := by
 unfold slices_ContainsFunc_fiducial_api_Pix_fiducial_api_Pix_of_predicate_Check_1 at hr
 refine FnOk.body fine Tryz.func61 (c := (Tryz.f61.body).getD .skip) rfl (s := mkS 9 0 [(0, slT api_Pix.c s), (1, .fn 62 [] [])]) (by kernel_rfl) (rs := [.tmp 4]) rfl ?_
 unfold Tryz.f61
 simp only [Option.getD_some]
 refine .seq <| .rn fine [0, 1] (mkS 9 0 [(0, slT api_Pix.c s), (1, .fn 62 [] [])]) [] <| .seq ?_
 obtain ⟨v1, hc2, hr⟩ := bd hr
 refine .g1 fine (callOk_val (l := []) rfl (SnL.cons (Sn.pure rfl) (SnL.cons (Sn.pure rfl) SnL.nil)) (slices_IndexFunc_fiducial_api_Pix_fiducial_api_Pix_of_predicate_Check_1_ok n s v1 hc2)) <| .mu 2 <| .c0 (by kernel_rfl) (callOf_at (by kernel_rfl)) <| .mu 2 <| .done <| .ret ?_
 obtain rfl := Option.some.inj hr
 exact FinQ.r1 [aB (decide (v1 ≥ 0))]

theorem predicate_Check_ok (n : Nat) (l : List api_Pix) (r : Int) (hr : predicate_Check n l = some r) : FnOk Tryz.prog 32 [slT api_Pix.c l] (.at (.int .i64 r)) := by
 unfold predicate_Check at hr
 refine FnOk.body fine Tryz.func32 (c := (Tryz.f32.body).getD .skip) rfl (s := mkS 5 0 [(0, slT api_Pix.c l)]) (by kernel_rfl) (rs := [.tmp 2]) rfl ?_
 unfold Tryz.f32
 simp only [Option.getD_some]
 refine .seq <| .rn fine [0] (mkS 5 0 [(0, slT api_Pix.c l)]) [] <| .seq <| .seq ?_
 obtain ⟨v1, hc2, hr⟩ := bd hr
 refine .g1 fine (callOk_val (l := []) rfl (SnL.cons (Sn.pure rfl) (SnL.cons (Sn.pure rfl) SnL.nil)) (slices_ContainsFunc_fiducial_api_Pix_fiducial_api_Pix_of_predicate_Check_1_ok n l v1 hc2)) <| .mu 1 <| .c0 (by kernel_rfl) (callOf_at (by kernel_rfl)) <| .done <| .n1 [4] (mkS 5 0 [(4, aB v1)]) [] ?_
 refine .cond (t := v1) (by kernel_rfl) (fun hb3 => ?_) (fun hb3 => ?_)
 ·replace hr := cd_t hb3 hr
  refine .seq <| .ru fine <| .ret ?_
  obtain rfl := Option.some.inj hr
  exact FinQ.r1 [aI64 2]
 ·replace hr := cd_f hb3 hr
  refine .skip <| .seq <| .ru fine <| .ret ?_
  obtain rfl := Option.some.inj hr
  exact FinQ.r1 [aI64 0]

theorem predicate_cross_inj {a : api_Pix} {b : api_Pix} {c : api_Pix} {a_ : api_Pix} {b_ : api_Pix} {c_ : api_Pix} (h : ([.agg [.at (.int .i64 a.X), .at (.int .i64 a.Y)], .agg [.at (.int .i64 b.X), .at (.int .i64 b.Y)], .agg [.at (.int .i64 c.X), .at (.int .i64 c.Y)]] : List AV) = [.agg [.at (.int .i64 a_.X), .at (.int .i64 a_.Y)], .agg [.at (.int .i64 b_.X), .at (.int .i64 b_.Y)], .agg [.at (.int .i64 c_.X), .at (.int .i64 c_.Y)]]) : a = a_ ∧ b = b_ ∧ c = c_ := by
 obtain ⟨_, _⟩ := a
 obtain ⟨_, _⟩ := a_
 obtain ⟨_, _⟩ := b
 obtain ⟨_, _⟩ := b_
 obtain ⟨_, _⟩ := c
 obtain ⟨_, _⟩ := c_
 simp only [List.cons.injEq, AV.agg.injEq, AV.at.injEq, Value.int.injEq, Value.bool.injEq, AV.fn.injEq, AV.pp.injEq, true_and, and_true] at h
 simp_all
theorem predicate_cross_ok (n : Nat) (a : api_Pix) (b : api_Pix) (c : api_Pix) (r : Int) (hr : predicate_cross n a b c = some r) : FnOk Tryz.prog 58 [.agg [.at (.int .i64 a.X), .at (.int .i64 a.Y)], .agg [.at (.int .i64 b.X), .at (.int .i64 b.Y)], .agg [.at (.int .i64 c.X), .at (.int .i64 c.Y)]] (.at (.int .i64 r)) := by
 unfold predicate_cross at hr
 refine FnOk.body fine Tryz.func58 (c := (Tryz.f58.body).getD .skip) rfl (s := mkS 30 0 [(0, .agg (api_Pix.c a)), (1, .agg (api_Pix.c b)), (2, .agg (api_Pix.c c))]) (by kernel_rfl) (rs := [.tmp 6]) rfl ?_
 unfold Tryz.f58
 simp only [Option.getD_some]
 refine .seq <| .rn fine [3, 4, 5] (mkS 30 0 [(3, .hp 0 0), (4, .hp 1 0), (5, .hp 2 0)]) [.own (api_Pix.c a), .own (api_Pix.c b), .own (api_Pix.c c)] <| .seq <| .ru fine <| .ret ?_
 obtain rfl := Option.some.inj hr
 exact FinQ.r1 [aI64 (wrapF .i64 ((wrapF .i64 ((wrapF .i64 (b.X - a.X)) * (wrapF .i64 (c.Y - a.Y)))) - (wrapF .i64 ((wrapF .i64 (b.Y - a.Y)) * (wrapF .i64 (c.X - a.X))))))]

theorem predicate_dot_ok (n : Nat) (a : api_Pix) (b : api_Pix) (c : api_Pix) (r : Int) (hr : predicate_dot n a b c = some r) : FnOk Tryz.prog 68 [.agg [.at (.int .i64 a.X), .at (.int .i64 a.Y)], .agg [.at (.int .i64 b.X), .at (.int .i64 b.Y)], .agg [.at (.int .i64 c.X), .at (.int .i64 c.Y)]] (.at (.int .i64 r)) := by
 unfold predicate_dot at hr
 refine FnOk.body fine Tryz.func68 (c := (Tryz.f68.body).getD .skip) rfl (s := mkS 30 0 [(0, .agg (api_Pix.c a)), (1, .agg (api_Pix.c b)), (2, .agg (api_Pix.c c))]) (by kernel_rfl) (rs := [.tmp 6]) rfl ?_
 unfold Tryz.f68
 simp only [Option.getD_some]
 refine .seq <| .rn fine [3, 4, 5] (mkS 30 0 [(3, .hp 0 0), (4, .hp 1 0), (5, .hp 2 0)]) [.own (api_Pix.c a), .own (api_Pix.c b), .own (api_Pix.c c)] <| .seq <| .ru fine <| .ret ?_
 obtain rfl := Option.some.inj hr
 exact FinQ.r1 [aI64 (wrapF .i64 ((wrapF .i64 ((wrapF .i64 (b.X - a.X)) * (wrapF .i64 (c.X - a.X)))) + (wrapF .i64 ((wrapF .i64 (b.Y - a.Y)) * (wrapF .i64 (c.Y - a.Y))))))]

theorem predicate_on_ok (n : Nat) (a : api_Pix) (b : api_Pix) (c : api_Pix) (r : Bool) (hr : predicate_on n a b c = some r) : FnOk Tryz.prog 78 [.agg [.at (.int .i64 a.X), .at (.int .i64 a.Y)], .agg [.at (.int .i64 b.X), .at (.int .i64 b.Y)], .agg [.at (.int .i64 c.X), .at (.int .i64 c.Y)]] (.at (.bool r)) := by
 unfold predicate_on at hr
 refine FnOk.body fine Tryz.func78 (c := (Tryz.f78.body).getD .skip) rfl (s := mkS 19 0 [(0, .agg (api_Pix.c a)), (1, .agg (api_Pix.c b)), (2, .agg (api_Pix.c c))]) (by kernel_rfl) (rs := [.tmp 6]) rfl ?_
 unfold Tryz.f78
 simp only [Option.getD_some]
 refine .seq <| .rn fine [3, 4, 5] (mkS 19 0 [(3, .hp 0 0), (4, .hp 1 0), (5, .hp 2 0)]) [.own (api_Pix.c a), .own (api_Pix.c b), .own (api_Pix.c c)] <| .seq ?_
 obtain ⟨v1, hc2, hr⟩ := bd hr
 rcases Bool.eq_false_or_eq_true ((v1 : Int) == 0) with hb3 | hb3
 ·replace hr := cd_t hb3 hr
  obtain ⟨v4, hc5, hr⟩ := bd hr
  refine .region fine (callOf_cons (callOk_val (H := [.own (api_Pix.c a), .own (api_Pix.c b), .own (api_Pix.c c)]) (l := []) rfl (SnL.cons (Sn.pure rfl) (SnL.cons (Sn.pure rfl) (SnL.cons (Sn.pure rfl) SnL.nil))) (predicate_cross_ok n a b c v1 hc2)) (callOf_cons (callOk_val (H := [.own (api_Pix.c a), .own (api_Pix.c b), .own (api_Pix.c c)]) (l := []) rfl (SnL.cons (Sn.pure rfl) (SnL.cons (Sn.pure rfl) (SnL.cons (Sn.pure rfl) SnL.nil))) (predicate_dot_ok n c a b v4 hc5)) callOf_nil)) <| .mu 3 <| .c0 (by kernel_rfl) (callOf_at (by kernel_rfl)) <| .p0 (v := aB true) (Eq.trans (b := some (.pure (aB ((v1 : Int) == 0)))) (by kernel_rfl) (by rw [hb3])) <| .mu 4 <| .cal (by kernel_rfl) (by kernel_rfl) (callOf_skip (fun h _ => absurd (show (68 : Nat) = 58 from h) (by decide)) (callOf_at (by kernel_rfl))) <| .mu 3 <| .done <| .ret ?_
  obtain rfl := Option.some.inj hr
  exact FinQ.r1 [aB (decide (v4 ≤ 0))]
 ·replace hr := cd_f hb3 hr
  refine .g1 fine (callOk_val (l := []) rfl (SnL.cons (Sn.pure rfl) (SnL.cons (Sn.pure rfl) (SnL.cons (Sn.pure rfl) SnL.nil))) (predicate_cross_ok n a b c v1 hc2)) <| .mu 3 <| .c0 (by kernel_rfl) (callOf_at (by kernel_rfl)) <| .p0 (v := aB false) (Eq.trans (b := some (.pure (aB ((v1 : Int) == 0)))) (by kernel_rfl) (by rw [hb3])) <| .mu 8 <| .done <| .ret ?_
  obtain rfl := Option.some.inj hr
  exact FinQ.r1 [aB false]

theorem slices_Index_fiducial_api_Pix_fiducial_api_Pix_ok (n : Nat) (s : List api_Pix) (v : api_Pix) (r : Int) (hr : slices_Index_fiducial_api_Pix_fiducial_api_Pix n s v = some r) : FnOk Tryz.prog 114 [slT api_Pix.c s, .agg [.at (.int .i64 v.X), .at (.int .i64 v.Y)]] (.at (.int .i64 r)) := by
 unfold slices_Index_fiducial_api_Pix_fiducial_api_Pix at hr
 refine FnOk.body fine Tryz.func114 (c := (Tryz.f114.body).getD .skip) rfl (s := mkS 19 0 [(0, slT api_Pix.c s), (1, .agg (api_Pix.c v))]) (by kernel_rfl) (rs := [.tmp 4]) rfl ?_
 unfold Tryz.f114
 simp only [Option.getD_some]
 refine .seq <| .rn fine [0, 3] (mkS 19 0 [(0, slT api_Pix.c s), (3, .hp 0 0)]) [.own (api_Pix.c v)] <| .seq <| .seq <| .rn fine [0, 3, 7, 8] (mkS 19 0 [(0, slT api_Pix.c s), (3, .hp 0 0), (7, aI64 (s.length : Int)), (8, aI64 0)]) [.own (api_Pix.c v)] <| .block ?_
 replace hr := bd hr; obtain ⟨o9, hL10, hr⟩ := hr
 refine .loopO (σ := fun z0 => match z0 with | x_1 => ⟨mkS 19 0 [(0, slT api_Pix.c s), (3, .hp 0 0), (7, aI64 (s.length : Int)), (8, aI64 x_1)], [.own (api_Pix.c v)]⟩) (Q := fun x st' => match (generalizing := false) o9 with | .inl _ => x = .exit 0 ∧ Wk 0 st' ⟨mkS 19 0 [], []⟩ | .inr (r0) => x = .ret ∧ FinQ Tryz.prog [.tmp 4] (aI64 r0) .ret st') hL10 ((Wk.gc [0, 3, 7, 8] [(0, true)] rfl trivial).to (by kernel_rfl)) ?_ ?_
 ·clear hr
  rintro m x_1 hr
  show CQ _ _ _ _ _ ⟨_, _⟩
  refine .seq <| .rn fine [0, 3, 7, 8, 9] (mkS 19 0 [(0, slT api_Pix.c s), (3, .hp 0 0), (7, aI64 (s.length : Int)), (8, aI64 x_1), (9, aB (decide (x_1 < (s.length : Int))))]) [.own (api_Pix.c v)] <| .seq ?_
  refine .cond (t := decide (x_1 < (s.length : Int))) (by kernel_rfl) (fun hb6 => ?_) (fun hb6 => ?_)
  ·replace hr := cd_t hb6 hr
   refine .skip <| .seq <| .block <| .seq <| .rn fine [0, 3, 5, 7, 8] (mkS 19 0 [(0, slT api_Pix.c s), (3, .hp 0 0), (5, aI64 x_1), (7, aI64 (s.length : Int)), (8, aI64 x_1)]) [.own (api_Pix.c v)] <| .seq ?_
   obtain ⟨hg7, hr⟩ := gd hr
   refine .regionT fine callOf_nil <| .mu 3 <| .pure (v := .pp (s.flatMap api_Pix.c) (x_1.toNat * 2)) (by kernel_rfl) (Eq.trans (b := ORes.ofP (guardV (inR x_1 s.length) (.pp (s.flatMap api_Pix.c) (x_1.toNat * 2)))) (by kernel_rfl) (ofP_guard hg7)) (by kernel_rfl) <| .pure (v := .agg (api_Pix.c (gt s x_1))) (by kernel_rfl) (Eq.trans (b := ORes.ofP (guardV (decide (2 ≤ ((s.flatMap api_Pix.c).drop (x_1.toNat * 2)).length)) (.agg (((s.flatMap api_Pix.c).drop (x_1.toNat * 2)).take 2)))) (by kernel_rfl) (flat_load api_Pix.len (inR_lt hg7) (by decide) (by omega : x_1.toNat * 2 = x_1.toNat * 2 + 0) (by kernel_rfl))) (by kernel_rfl) <| .mu 1 ?_
   refine .done ⟨by kernel_rfl, ?_⟩
   refine .n1 [0, 3, 5, 7, 8, 16] (mkS 19 0 [(0, slT api_Pix.c s), (3, .hp 0 0), (5, aI64 x_1), (7, aI64 (s.length : Int)), (8, aI64 x_1), (16, aB (((v.X : Int) == (gt s x_1).X) && (((v.Y : Int) == (gt s x_1).Y) && true)))]) [.own (api_Pix.c v)] ?_
   refine .cond (t := ((v.X : Int) == (gt s x_1).X) && (((v.Y : Int) == (gt s x_1).Y) && true)) (by kernel_rfl) (fun hb8 => ?_) (fun hb8 => ?_)
   ·replace hr := cd_t hb8 hr
    refine .seq <| .ru fine <| .ret ?_
    obtain rfl := Option.some.inj hr
    exact ⟨rfl, FinQ.ret (vs := [aI64 x_1]) (by kernel_rfl) (Sn.pure rfl)⟩
   ·replace hr := cd_f hb8 hr
    refine .skip <| .pop <| .ru fine ?_
    exact loopF_back (wrapF .i64 (x_1 + 1)) hr ((Wk.gc [0, 3, 7, 8] [(0, true)] rfl trivial).to (by kernel_rfl))
  ·replace hr := cd_f hb6 hr
   refine .leave rfl ?_
   obtain rfl := Option.some.inj hr
   exact ⟨rfl, ((Wk.gc [] [] rfl pK0).to (by kernel_rfl))⟩
 ·rcases o9 with ⟨⟩ | r0
  ·rintro x st' hq11
   clear hL10
   obtain ⟨rfl, hq11⟩ := hq11
   refine CQ_exit _ rfl <| .wk hq11 <| .seq <| .ru fine <| .ret ?_
   obtain rfl := Option.some.inj hr
   exact FinQ.r1 [aI64 (-1)]
  ·rintro x st' hq11
   clear hL10
   obtain ⟨rfl, hq11⟩ := hq11
   obtain rfl := Option.some.inj hr
   exact CQ_ret _ hq11

theorem slices_Contains_fiducial_api_Pix_fiducial_api_Pix_ok (n : Nat) (s : List api_Pix) (v : api_Pix) (r : Bool) (hr : slices_Contains_fiducial_api_Pix_fiducial_api_Pix n s v = some r) : FnOk Tryz.prog 77 [slT api_Pix.c s, .agg [.at (.int .i64 v.X), .at (.int .i64 v.Y)]] (.at (.bool r)) := by
 unfold slices_Contains_fiducial_api_Pix_fiducial_api_Pix at hr
 refine FnOk.body fine Tryz.func77 (c := (Tryz.f77.body).getD .skip) rfl (s := mkS 9 0 [(0, slT api_Pix.c s), (1, .agg (api_Pix.c v))]) (by kernel_rfl) (rs := [.tmp 4]) rfl ?_
 unfold Tryz.f77
 simp only [Option.getD_some]
 refine .seq <| .rn fine [0, 3] (mkS 9 0 [(0, slT api_Pix.c s), (3, .hp 0 0)]) [.own (api_Pix.c v)] <| .seq ?_
 obtain ⟨v1, hc2, hr⟩ := bd hr
 refine .g1 fine (callOk_val (l := []) rfl (SnL.cons (Sn.pure rfl) (SnL.cons (Sn.pure rfl) SnL.nil)) (slices_Index_fiducial_api_Pix_fiducial_api_Pix_ok n s v v1 hc2)) <| .mu 2 <| .c0 (by kernel_rfl) (callOf_at (by kernel_rfl)) <| .mu 2 <| .done <| .ret ?_
 obtain rfl := Option.some.inj hr
 exact FinQ.r1 [aB (decide (v1 ≥ 0))]

theorem predicate_Relate_1_w_ok (n : Nat) (p : api_Pix) (lies : Bool) (p' : List api_Pix) (r : List api_Pix) (hr : predicate_Relate_1_w n p lies p' = some r) : FnMut 1 Tryz.prog 76 [.agg [.at (.int .i64 p.X), .at (.int .i64 p.Y)], .at (.bool lies), .hp 0 0] [.own [.hs 1 0 p'.length 2], .own (p'.flatMap api_Pix.c)] (.tup []) [.own [.hs 1 0 r.length 2], .own (r.flatMap api_Pix.c)] := by
 unfold predicate_Relate_1_w at hr
 refine FnMut.body fine Tryz.func76 (c := (Tryz.f76.body).getD .skip) rfl (us := []) (s := mkS 16 0 [(0, .agg (api_Pix.c p)), (1, aB lies), (2, .hp 0 0)]) (by kernel_rfl) (rs := []) rfl ?_
 unfold Tryz.f76
 simp only [Option.getD_some]
 refine .seq <| .rn fine [1, 2, 3] (mkS 16 0 [(1, aB lies), (2, .hp 0 0), (3, .hp 2 0)]) [.own [.hs 1 0 p'.length 2], .own (p'.flatMap api_Pix.c), .own (api_Pix.c p)] <| .seq ?_
 rcases Bool.eq_false_or_eq_true lies with hb8 | hb8
 ·replace hr := cd_t hb8 hr
  obtain ⟨v9, hc10, hr⟩ := bd hr
  refine .g1 fine (callOk_val (args := [.hs 1 0 p'.length 2, .agg (api_Pix.c p)]) (l := [1]) rfl (SnL.cons (Sn.hs rfl (.inl rfl) (SnC.pure (ids_flat api_Pix.pure _)) (fun h => flat_nil0 h)) (SnL.cons (Sn.pure rfl) SnL.nil)) (slices_Contains_fiducial_api_Pix_fiducial_api_Pix_ok n p' p v9 hc10)) <| .p0 (v := aB true) (Eq.trans (b := some (.pure (aB lies))) (by kernel_rfl) (by rw [hb8])) <| .mu 3 <| .cal (by kernel_rfl) (by kernel_rfl) (callOf_at (by kernel_rfl)) <| .mu 2 <| .done <| .n1 [2, 3, 11] (mkS 16 0 [(2, .hp 0 0), (3, .hp 2 0), (11, aB (!v9))]) [.own [.hs 1 0 p'.length 2], .own (p'.flatMap api_Pix.c), .own (api_Pix.c p)] ?_
  refine .cond (t := !v9) (by kernel_rfl) (fun hb11 => ?_) (fun hb11 => ?_)
  ·replace hr := cd_t hb11 hr
   obtain ⟨hg12, hr⟩ := gd hr
   obtain ⟨hg13, hr⟩ := gd hr
   refine .r0 fine <| .mu 3 <| .e0 (v := .hs 4 0 (p' ++ [p]).length 2) (ws := [(1, .dead), (4, .own ((p' ++ [p]).flatMap api_Pix.c))]) (Eq.trans (b := guardO (decide (0 + p'.length * 2 ≤ (p'.flatMap api_Pix.c).length) && decide ((p'.length + 1) * 16 ≤ 140737488355328) && decide (p'.length + 1 ≤ 4611686018427387904)) (some (.eff (.hs 4 0 (p'.length + 1) 2) [(1, .dead), (4, .own (((p'.flatMap api_Pix.c).drop 0).take (p'.length * 2) ++ (api_Pix.c p)))]))) (by kernel_rfl) (app_own (l := p') (xs := [p]) api_Pix.len rfl rfl (by kernel_rfl) hg12 hg13)) <| .mu 1 <| .done ?_
   obtain rfl := Option.some.inj hr
   exact FinM.normal [] ((Wk.gc [] [(0, true), (4, false)] rfl (pKt (pKo api_Pix.c api_Pix.pure (p' ++ [p]) trivial))).to (by kernel_rfl))
  ·replace hr := cd_f hb11 hr
   refine .skip ?_
   obtain rfl := Option.some.inj hr
   exact FinM.normal [] ((Wk.gc [] [(0, true), (1, false)] rfl (pKt (pKo api_Pix.c api_Pix.pure p' trivial))).to (by kernel_rfl))
 ·replace hr := cd_f hb8 hr
  refine .r0 fine <| .p0 (v := aB false) (Eq.trans (b := some (.pure (aB lies))) (by kernel_rfl) (by rw [hb8])) <| .mu 6 <| .done <| .n1 [2, 3, 11] (mkS 16 0 [(2, .hp 0 0), (3, .hp 2 0), (11, aB false)]) [.own [.hs 1 0 p'.length 2], .own (p'.flatMap api_Pix.c), .own (api_Pix.c p)] <| .cF (by kernel_rfl) <| .skip ?_
  obtain rfl := Option.some.inj hr
  exact FinM.normal [] ((Wk.gc [] [(0, true), (1, false)] rfl (pKt (pKo api_Pix.c api_Pix.pure p' trivial))).to (by kernel_rfl))

theorem cmp_isNaN_int_ok (n : Nat) (x' : Int) (r : Bool) (hr : cmp_isNaN_int n x' = some r) : FnOk Tryz.prog 129 [.at (.int .i64 x')] (.at (.bool r)) := by
 unfold cmp_isNaN_int at hr
 refine FnOk.body fine Tryz.func129 (c := (Tryz.f129.body).getD .skip) rfl (s := mkS 6 0 [(0, aI64 x')]) (by kernel_rfl) (rs := [.tmp 2]) rfl ?_
 unfold Tryz.f129
 simp only [Option.getD_some]
 refine .seq <| .rn fine [0] (mkS 6 0 [(0, aI64 x')]) [] <| .seq <| .ru fine <| .ret ?_
 obtain rfl := Option.some.inj hr
 exact FinQ.r1 [aB ((x' : Int) != x')]

theorem cmp_Compare_int_ok (n : Nat) (x' : Int) (y : Int) (r : Int) (hr : cmp_Compare_int n x' y = some r) : FnOk Tryz.prog 99 [.at (.int .i64 x'), .at (.int .i64 y)] (.at (.int .i64 r)) := by
 unfold cmp_Compare_int at hr
 refine FnOk.body fine Tryz.func99 (c := (Tryz.f99.body).getD .skip) rfl (s := mkS 20 0 [(0, aI64 x'), (1, aI64 y)]) (by kernel_rfl) (rs := [.tmp 4]) rfl ?_
 unfold Tryz.f99
 simp only [Option.getD_some]
 refine .seq <| .rn fine [0, 1] (mkS 20 0 [(0, aI64 x'), (1, aI64 y)]) [] <| .seq ?_
 obtain ⟨v1, hc2, hr⟩ := bd hr
 refine .g1 fine (callOk_val (l := []) rfl (SnL.cons (Sn.pure rfl) SnL.nil) (cmp_isNaN_int_ok n x' v1 hc2)) <| .mu 1 <| .c0 (by kernel_rfl) (callOf_at (by kernel_rfl)) <| .mu 1 <| .done <| .n1 [0, 1, 5] (mkS 20 0 [(0, aI64 x'), (1, aI64 y), (5, aB v1)]) [] <| .seq ?_
 obtain ⟨v3, hc4, hr⟩ := bd hr
 refine .g1 fine (callOk_val (l := []) rfl (SnL.cons (Sn.pure rfl) SnL.nil) (cmp_isNaN_int_ok n y v3 hc4)) <| .mu 1 <| .c0 (by kernel_rfl) (callOf_at (by kernel_rfl)) <| .mu 1 <| .done <| .n1 [0, 1, 5, 6] (mkS 20 0 [(0, aI64 x'), (1, aI64 y), (5, aB v1), (6, aB v3)]) [] <| .seq <| .seq <| .rn fine [0, 1, 6, 11] (mkS 20 0 [(0, aI64 x'), (1, aI64 y), (6, aB v3), (11, aB v1)]) [] ?_
 refine .cond (t := v1) (by kernel_rfl) (fun hb5 => ?_) (fun hb5 => ?_)
 ·replace hr := cd_t hb5 hr
  refine .seq <| .seq <| .rn fine [12] (mkS 20 0 [(12, aB v3)]) [] ?_
  refine .cond (t := v3) (by kernel_rfl) (fun hb6 => ?_) (fun hb6 => ?_)
  ·replace hr := cd_t hb6 hr
   refine .seq <| .ru fine <| .ret ?_
   obtain rfl := Option.some.inj hr
   exact FinQ.r1 [aI64 0]
  ·replace hr := cd_f hb6 hr
   refine .skip <| .seq <| .ru fine <| .ret ?_
   obtain rfl := Option.some.inj hr
   exact FinQ.r1 [aI64 (-1)]
 ·replace hr := cd_f hb5 hr
  refine .skip <| .seq <| .seq <| .rn fine [0, 1, 13] (mkS 20 0 [(0, aI64 x'), (1, aI64 y), (13, aB v3)]) [] ?_
  refine .cond (t := v3) (by kernel_rfl) (fun hb7 => ?_) (fun hb7 => ?_)
  ·replace hr := cd_t hb7 hr
   refine .seq <| .ru fine <| .ret ?_
   obtain rfl := Option.some.inj hr
   exact FinQ.r1 [aI64 1]
  ·replace hr := cd_f hb7 hr
   refine .skip <| .seq <| .seq <| .rn fine [0, 1, 16] (mkS 20 0 [(0, aI64 x'), (1, aI64 y), (16, aB (decide (x' < y)))]) [] ?_
   refine .cond (t := decide (x' < y)) (by kernel_rfl) (fun hb8 => ?_) (fun hb8 => ?_)
   ·replace hr := cd_t hb8 hr
    refine .seq <| .ru fine <| .ret ?_
    obtain rfl := Option.some.inj hr
    exact FinQ.r1 [aI64 (-1)]
   ·replace hr := cd_f hb8 hr
    refine .skip <| .seq <| .seq <| .rn fine [19] (mkS 20 0 [(19, aB (decide (x' > y)))]) [] ?_
    refine .cond (t := decide (x' > y)) (by kernel_rfl) (fun hb9 => ?_) (fun hb9 => ?_)
    ·replace hr := cd_t hb9 hr
     refine .seq <| .ru fine <| .ret ?_
     obtain rfl := Option.some.inj hr
     exact FinQ.r1 [aI64 1]
    ·replace hr := cd_f hb9 hr
     refine .skip <| .seq <| .ru fine <| .ret ?_
     obtain rfl := Option.some.inj hr
     exact FinQ.r1 [aI64 0]

theorem predicate_sign_inj {n' : Int} {n'_ : Int} (h : ([.at (.int .i64 n')] : List AV) = [.at (.int .i64 n'_)]) : n' = n'_ := by
 simp only [List.cons.injEq, AV.agg.injEq, AV.at.injEq, Value.int.injEq, Value.bool.injEq, AV.fn.injEq, AV.pp.injEq, true_and, and_true] at h
 simp_all
theorem predicate_sign_ok (n : Nat) (n' : Int) (r : Int) (hr : predicate_sign n n' = some r) : FnOk Tryz.prog 57 [.at (.int .i64 n')] (.at (.int .i64 r)) := by
 unfold predicate_sign at hr
 refine FnOk.body fine Tryz.func57 (c := (Tryz.f57.body).getD .skip) rfl (s := mkS 5 0 [(0, aI64 n')]) (by kernel_rfl) (rs := [.tmp 2]) rfl ?_
 unfold Tryz.f57
 simp only [Option.getD_some]
 refine .seq <| .rn fine [0] (mkS 5 0 [(0, aI64 n')]) [] <| .seq ?_
 obtain ⟨v1, hc2, hr⟩ := bd hr
 refine .g1 fine (callOk_val (l := []) rfl (SnL.cons (Sn.pure rfl) (SnL.cons (Sn.pure rfl) SnL.nil)) (cmp_Compare_int_ok n n' 0 v1 hc2)) <| .mu 1 <| .c0 (by kernel_rfl) (callOf_at (by kernel_rfl)) <| .mu 1 <| .done <| .ret ?_
 obtain rfl := Option.some.inj hr
 exact FinQ.r1 [aI64 v1]

theorem predicate_Relate_ok (n : Nat) (a : api_Pix) (b : api_Pix) (c : api_Pix) (d : api_Pix) (r : Int × Int) (hr : predicate_Relate n a b c d = some r) : FnOk Tryz.prog 35 [.agg [.at (.int .i64 a.X), .at (.int .i64 a.Y)], .agg [.at (.int .i64 b.X), .at (.int .i64 b.Y)], .agg [.at (.int .i64 c.X), .at (.int .i64 c.Y)], .agg [.at (.int .i64 d.X), .at (.int .i64 d.Y)]] (.tup [.at (.int .i64 r.1), .at (.int .i64 r.2)]) := by
 unfold predicate_Relate at hr
 refine FnOk.body fine Tryz.func35 (c := (Tryz.f35.body).getD .skip) rfl (s := mkS 83 0 [(0, .agg (api_Pix.c a)), (1, .agg (api_Pix.c b)), (2, .agg (api_Pix.c c)), (3, .agg (api_Pix.c d))]) (by kernel_rfl) (rs := [.tmp 8, .tmp 9]) rfl ?_
 unfold Tryz.f35
 simp only [Option.getD_some]
 refine .seq <| .rn fine [4, 5, 6, 7] (mkS 83 0 [(4, .hp 0 0), (5, .hp 1 0), (6, .hp 2 0), (7, .hp 3 0)]) [.own (api_Pix.c a), .own (api_Pix.c b), .own (api_Pix.c c), .own (api_Pix.c d)] <| .seq <| .seq ?_
 obtain ⟨v1, hc2, hr⟩ := bd hr
 refine .region fine (callOf_cons (callOk_val (H := [.own (api_Pix.c a), .own (api_Pix.c b), .own (api_Pix.c c), .own (api_Pix.c d), .own [aI64 a.X, aI64 a.Y, aI64 b.X, aI64 b.Y, aI64 c.X, aI64 c.Y, aI64 d.X, aI64 d.Y]]) (args := [.hs 4 0 4 2]) (l := [4]) rfl (SnL.cons (Sn.hs rfl (.inl rfl) (SnC.cons (Sn.pure rfl) (SnC.cons (Sn.pure rfl) (SnC.cons (Sn.pure rfl) (SnC.cons (Sn.pure rfl) (SnC.cons (Sn.pure rfl) (SnC.cons (Sn.pure rfl) (SnC.cons (Sn.pure rfl) (SnC.cons (Sn.pure rfl) SnC.nil)))))))) (fun h => nomatch h)) SnL.nil) (predicate_Check_ok n [a, b, c, d] v1 hc2)) callOf_nil) <| .mu 5 <| .c0 (by kernel_rfl) (callOf_at (by kernel_rfl)) <| .mu 1 <| .done <| .n1 [4, 5, 6, 7, 10] (mkS 83 0 [(4, .hp 0 0), (5, .hp 1 0), (6, .hp 2 0), (7, .hp 3 0), (10, aI64 v1)]) [.own (api_Pix.c a), .own (api_Pix.c b), .own (api_Pix.c c), .own (api_Pix.c d), .own [aI64 a.X, aI64 a.Y, aI64 b.X, aI64 b.Y, aI64 c.X, aI64 c.Y, aI64 d.X, aI64 d.Y]] <| .seq <| .rn fine [4, 5, 6, 7, 10, 20] (mkS 83 0 [(4, .hp 0 0), (5, .hp 1 0), (6, .hp 2 0), (7, .hp 3 0), (10, aI64 v1), (20, aB ((v1 : Int) != 0))]) [.own (api_Pix.c a), .own (api_Pix.c b), .own (api_Pix.c c), .own (api_Pix.c d), .own [aI64 a.X, aI64 a.Y, aI64 b.X, aI64 b.Y, aI64 c.X, aI64 c.Y, aI64 d.X, aI64 d.Y]] ?_
 refine .cond (t := (v1 : Int) != 0) (by kernel_rfl) (fun hb3 => ?_) (fun hb3 => ?_)
 ·replace hr := cd_t hb3 hr
  refine .seq <| .ru fine <| .ret ?_
  obtain rfl := Option.some.inj hr
  exact FinQ.ret (vs := [aI64 0, aI64 v1]) (by kernel_rfl) (Sn.tup (SnL.cons (Sn.pure rfl) (SnL.cons (Sn.pure rfl) SnL.nil)))
 ·replace hr := cd_f hb3 hr
  refine .skip <| .seq <| .rn fine [4, 5, 6, 7, 11] (mkS 83 0 [(4, .hp 0 0), (5, .hp 1 0), (6, .hp 2 0), (7, .hp 3 0), (11, .hp 5 0)]) [.own (api_Pix.c a), .own (api_Pix.c b), .own (api_Pix.c c), .own (api_Pix.c d), .own [aI64 a.X, aI64 a.Y, aI64 b.X, aI64 b.Y, aI64 c.X, aI64 c.Y, aI64 d.X, aI64 d.Y], .own [.at (.slice none 0 0)]] <| .seq <| .rn fine [4, 5, 6, 7, 11, 12] (mkS 83 0 [(4, .hp 0 0), (5, .hp 1 0), (6, .hp 2 0), (7, .hp 3 0), (11, .hp 5 0), (12, .fn 76 [] [.hp 5 0])]) [.own (api_Pix.c a), .own (api_Pix.c b), .own (api_Pix.c c), .own (api_Pix.c d), .own [aI64 a.X, aI64 a.Y, aI64 b.X, aI64 b.Y, aI64 c.X, aI64 c.Y, aI64 d.X, aI64 d.Y], .own [.at (.slice none 0 0)]] <| .seq <| .wk ((Wk.nilcell 5 0 2 (cs := [.at (.slice none 0 0)]) (by kernel_rfl) (by kernel_rfl)).to (c := ⟨mkS 83 0 [(4, .hp 0 0), (5, .hp 1 0), (6, .hp 2 0), (7, .hp 3 0), (11, .hp 5 0), (12, .fn 76 [] [.hp 5 0])], [.own (api_Pix.c a), .own (api_Pix.c b), .own (api_Pix.c c), .own (api_Pix.c d), .own [aI64 a.X, aI64 a.Y, aI64 b.X, aI64 b.Y, aI64 c.X, aI64 c.Y, aI64 d.X, aI64 d.Y], .own [.hs 6 0 ([] : List api_Pix).length 2], .own (([] : List api_Pix).flatMap api_Pix.c)]⟩) (by kernel_rfl)) ?_
  obtain ⟨v4, hc5, hr⟩ := bd hr
  obtain ⟨v6, hc7, hr⟩ := bd hr
  refine .regionT fine (callOf_cons (callOk_val (H := [.own (api_Pix.c a), .own (api_Pix.c b), .own (api_Pix.c c), .own (api_Pix.c d), .own [aI64 a.X, aI64 a.Y, aI64 b.X, aI64 b.Y, aI64 c.X, aI64 c.Y, aI64 d.X, aI64 d.Y], .own [.hs 6 0 ([] : List api_Pix).length 2], .own (([] : List api_Pix).flatMap api_Pix.c)]) (l := []) rfl (SnL.cons (Sn.pure rfl) (SnL.cons (Sn.pure rfl) (SnL.cons (Sn.pure rfl) SnL.nil))) (predicate_on_ok n c d a v4 hc5)) (callOf_cons (callOk_mutU (H := [.own (api_Pix.c a), .own (api_Pix.c b), .own (api_Pix.c c), .own (api_Pix.c d), .own [aI64 a.X, aI64 a.Y, aI64 b.X, aI64 b.Y, aI64 c.X, aI64 c.Y, aI64 d.X, aI64 d.Y], .own [.hs 6 0 ([] : List api_Pix).length 2], .own (([] : List api_Pix).flatMap api_Pix.c)]) (args := [.agg (api_Pix.c a), aB v4, .hp 5 0]) 1 1 [(5, true), (6, false)] [true, false] (predicate_Relate_1_w_ok n a v4 ([] : List api_Pix) v6 hc7) (by exact ⟨ids_flat api_Pix.pure _, trivial⟩) (by exact ⟨ids_flat api_Pix.pure _, trivial⟩) rfl rfl (by kernel_rfl) (by kernel_rfl)) callOf_nil)) <| .mu 5 <| .cal (by kernel_rfl) (by kernel_rfl) (callOf_at (by kernel_rfl)) (by kernel_rfl) <| .cal (by kernel_rfl) (by kernel_rfl) (callOf_skip (fun h _ => absurd (show (76 : Nat) = 78 from h) (by decide)) (callOf_at (by kernel_rfl))) (by kernel_rfl) ?_
  refine .done ⟨by kernel_rfl, ?_⟩
  refine .n1 [4, 5, 6, 7, 11, 12] (mkS 83 0 [(4, .hp 0 0), (5, .hp 1 0), (6, .hp 2 0), (7, .hp 3 0), (11, .hp 5 0), (12, .fn 76 [] [.hp 5 0])]) [.own (api_Pix.c a), .own (api_Pix.c b), .own (api_Pix.c c), .own (api_Pix.c d), .own [aI64 a.X, aI64 a.Y, aI64 b.X, aI64 b.Y, aI64 c.X, aI64 c.Y, aI64 d.X, aI64 d.Y], .own [.hs 7 0 v6.length 2], .dead, .own (v6.flatMap api_Pix.c)] <| .seq ?_
  obtain ⟨v8, hc9, hr⟩ := bd hr
  obtain ⟨v10, hc11, hr⟩ := bd hr
  refine .regionT fine (callOf_cons (callOk_val (H := [.own (api_Pix.c a), .own (api_Pix.c b), .own (api_Pix.c c), .own (api_Pix.c d), .own [aI64 a.X, aI64 a.Y, aI64 b.X, aI64 b.Y, aI64 c.X, aI64 c.Y, aI64 d.X, aI64 d.Y], .own [.hs 7 0 v6.length 2], .dead, .own (v6.flatMap api_Pix.c)]) (l := []) rfl (SnL.cons (Sn.pure rfl) (SnL.cons (Sn.pure rfl) (SnL.cons (Sn.pure rfl) SnL.nil))) (predicate_on_ok n c d b v8 hc9)) (callOf_cons (callOk_mutU (H := [.own (api_Pix.c a), .own (api_Pix.c b), .own (api_Pix.c c), .own (api_Pix.c d), .own [aI64 a.X, aI64 a.Y, aI64 b.X, aI64 b.Y, aI64 c.X, aI64 c.Y, aI64 d.X, aI64 d.Y], .own [.hs 7 0 v6.length 2], .dead, .own (v6.flatMap api_Pix.c)]) (args := [.agg (api_Pix.c b), aB v8, .hp 5 0]) 1 1 [(5, true), (7, false)] [true, false] (predicate_Relate_1_w_ok n b v8 v6 v10 hc11) (by exact ⟨ids_flat api_Pix.pure _, trivial⟩) (by exact ⟨ids_flat api_Pix.pure _, trivial⟩) rfl rfl (by kernel_rfl) (by kernel_rfl)) callOf_nil)) <| .mu 5 <| .cal (by kernel_rfl) (by kernel_rfl) (callOf_at (by kernel_rfl)) (by kernel_rfl) <| .cal (by kernel_rfl) (by kernel_rfl) (callOf_skip (fun h _ => absurd (show (76 : Nat) = 78 from h) (by decide)) (callOf_at (by kernel_rfl))) (by kernel_rfl) ?_
  refine .done ⟨by kernel_rfl, ?_⟩
  refine .n1 [4, 5, 6, 7, 11, 12] (mkS 83 0 [(4, .hp 0 0), (5, .hp 1 0), (6, .hp 2 0), (7, .hp 3 0), (11, .hp 5 0), (12, .fn 76 [] [.hp 5 0])]) [.own (api_Pix.c a), .own (api_Pix.c b), .own (api_Pix.c c), .own (api_Pix.c d), .own [aI64 a.X, aI64 a.Y, aI64 b.X, aI64 b.Y, aI64 c.X, aI64 c.Y, aI64 d.X, aI64 d.Y], .own [.hs 8 0 v10.length 2], .dead, .dead, .own (v10.flatMap api_Pix.c)] <| .seq ?_
  obtain ⟨v12, hc13, hr⟩ := bd hr
  obtain ⟨v14, hc15, hr⟩ := bd hr
  refine .regionT fine (callOf_cons (callOk_val (H := [.own (api_Pix.c a), .own (api_Pix.c b), .own (api_Pix.c c), .own (api_Pix.c d), .own [aI64 a.X, aI64 a.Y, aI64 b.X, aI64 b.Y, aI64 c.X, aI64 c.Y, aI64 d.X, aI64 d.Y], .own [.hs 8 0 v10.length 2], .dead, .dead, .own (v10.flatMap api_Pix.c)]) (l := []) rfl (SnL.cons (Sn.pure rfl) (SnL.cons (Sn.pure rfl) (SnL.cons (Sn.pure rfl) SnL.nil))) (predicate_on_ok n a b c v12 hc13)) (callOf_cons (callOk_mutU (H := [.own (api_Pix.c a), .own (api_Pix.c b), .own (api_Pix.c c), .own (api_Pix.c d), .own [aI64 a.X, aI64 a.Y, aI64 b.X, aI64 b.Y, aI64 c.X, aI64 c.Y, aI64 d.X, aI64 d.Y], .own [.hs 8 0 v10.length 2], .dead, .dead, .own (v10.flatMap api_Pix.c)]) (args := [.agg (api_Pix.c c), aB v12, .hp 5 0]) 1 1 [(5, true), (8, false)] [true, false] (predicate_Relate_1_w_ok n c v12 v10 v14 hc15) (by exact ⟨ids_flat api_Pix.pure _, trivial⟩) (by exact ⟨ids_flat api_Pix.pure _, trivial⟩) rfl rfl (by kernel_rfl) (by kernel_rfl)) callOf_nil)) <| .mu 5 <| .cal (by kernel_rfl) (by kernel_rfl) (callOf_at (by kernel_rfl)) (by kernel_rfl) <| .cal (by kernel_rfl) (by kernel_rfl) (callOf_skip (fun h _ => absurd (show (76 : Nat) = 78 from h) (by decide)) (callOf_at (by kernel_rfl))) (by kernel_rfl) ?_
  refine .done ⟨by kernel_rfl, ?_⟩
  refine .n1 [4, 5, 6, 7, 11, 12] (mkS 83 0 [(4, .hp 0 0), (5, .hp 1 0), (6, .hp 2 0), (7, .hp 3 0), (11, .hp 5 0), (12, .fn 76 [] [.hp 5 0])]) [.own (api_Pix.c a), .own (api_Pix.c b), .own (api_Pix.c c), .own (api_Pix.c d), .own [aI64 a.X, aI64 a.Y, aI64 b.X, aI64 b.Y, aI64 c.X, aI64 c.Y, aI64 d.X, aI64 d.Y], .own [.hs 9 0 v14.length 2], .dead, .dead, .dead, .own (v14.flatMap api_Pix.c)] <| .seq ?_
  obtain ⟨v16, hc17, hr⟩ := bd hr
  obtain ⟨v18, hc19, hr⟩ := bd hr
  refine .regionT fine (callOf_cons (callOk_val (H := [.own (api_Pix.c a), .own (api_Pix.c b), .own (api_Pix.c c), .own (api_Pix.c d), .own [aI64 a.X, aI64 a.Y, aI64 b.X, aI64 b.Y, aI64 c.X, aI64 c.Y, aI64 d.X, aI64 d.Y], .own [.hs 9 0 v14.length 2], .dead, .dead, .dead, .own (v14.flatMap api_Pix.c)]) (l := []) rfl (SnL.cons (Sn.pure rfl) (SnL.cons (Sn.pure rfl) (SnL.cons (Sn.pure rfl) SnL.nil))) (predicate_on_ok n a b d v16 hc17)) (callOf_cons (callOk_mutU (H := [.own (api_Pix.c a), .own (api_Pix.c b), .own (api_Pix.c c), .own (api_Pix.c d), .own [aI64 a.X, aI64 a.Y, aI64 b.X, aI64 b.Y, aI64 c.X, aI64 c.Y, aI64 d.X, aI64 d.Y], .own [.hs 9 0 v14.length 2], .dead, .dead, .dead, .own (v14.flatMap api_Pix.c)]) (args := [.agg (api_Pix.c d), aB v16, .hp 5 0]) 1 1 [(5, true), (9, false)] [true, false] (predicate_Relate_1_w_ok n d v16 v14 v18 hc19) (by exact ⟨ids_flat api_Pix.pure _, trivial⟩) (by exact ⟨ids_flat api_Pix.pure _, trivial⟩) rfl rfl (by kernel_rfl) (by kernel_rfl)) callOf_nil)) <| .mu 5 <| .cal (by kernel_rfl) (by kernel_rfl) (callOf_at (by kernel_rfl)) (by kernel_rfl) <| .cal (by kernel_rfl) (by kernel_rfl) (callOf_skip (fun h _ => absurd (show (76 : Nat) = 78 from h) (by decide)) (callOf_at (by kernel_rfl))) (by kernel_rfl) ?_
  refine .done ⟨by kernel_rfl, ?_⟩
  refine .n1 [4, 5, 6, 7, 11] (mkS 83 0 [(4, .hp 0 0), (5, .hp 1 0), (6, .hp 2 0), (7, .hp 3 0), (11, .hp 5 0)]) [.own (api_Pix.c a), .own (api_Pix.c b), .own (api_Pix.c c), .own (api_Pix.c d), .own [aI64 a.X, aI64 a.Y, aI64 b.X, aI64 b.Y, aI64 c.X, aI64 c.Y, aI64 d.X, aI64 d.Y], .own [.hs 10 0 v18.length 2], .dead, .dead, .dead, .dead, .own (v18.flatMap api_Pix.c)] <| .seq <| .seq <| .rn fine [4, 5, 6, 7, 52] (mkS 83 0 [(4, .hp 0 0), (5, .hp 1 0), (6, .hp 2 0), (7, .hp 3 0), (52, aI64 (v18.length : Int))]) [.own (api_Pix.c a), .own (api_Pix.c b), .own (api_Pix.c c), .own (api_Pix.c d), .own [aI64 a.X, aI64 a.Y, aI64 b.X, aI64 b.Y, aI64 c.X, aI64 c.Y, aI64 d.X, aI64 d.Y], .own [.hs 10 0 v18.length 2], .dead, .dead, .dead, .dead, .own (v18.flatMap api_Pix.c)] <| .block <| .seq <| .rn fine [4, 5, 6, 7, 52, 53] (mkS 83 0 [(4, .hp 0 0), (5, .hp 1 0), (6, .hp 2 0), (7, .hp 3 0), (52, aI64 (v18.length : Int)), (53, aB (((v18.length : Int) : Int) == 0))]) [.own (api_Pix.c a), .own (api_Pix.c b), .own (api_Pix.c c), .own (api_Pix.c d), .own [aI64 a.X, aI64 a.Y, aI64 b.X, aI64 b.Y, aI64 c.X, aI64 c.Y, aI64 d.X, aI64 d.Y], .own [.hs 10 0 v18.length 2], .dead, .dead, .dead, .dead, .own (v18.flatMap api_Pix.c)] ?_
  refine .cond (t := ((v18.length : Int) : Int) == 0) (by kernel_rfl) (fun hb20 => ?_) (fun hb20 => ?_)
  ·replace hr := cd_t hb20 hr
   refine .seq <| .seq ?_
   obtain ⟨v21, hc22, hr⟩ := bd hr
   obtain ⟨v23, hc24, hr⟩ := bd hr
   obtain ⟨v25, hc26, hr⟩ := bd hr
   obtain ⟨v27, hc28, hr⟩ := bd hr
   rcases Bool.eq_false_or_eq_true (decide ((wrapF .i64 (v23 * v27)) < 0)) with hb29 | hb29
   ·replace hr := cd_t hb29 hr
    obtain ⟨v30, hc31, hr⟩ := bd hr
    obtain ⟨v32, hc33, hr⟩ := bd hr
    obtain ⟨v34, hc35, hr⟩ := bd hr
    obtain ⟨v36, hc37, hr⟩ := bd hr
    refine .regionT fine (callOf_cons (callOk_val (H := [.own (api_Pix.c a), .own (api_Pix.c b), .own (api_Pix.c c), .own (api_Pix.c d), .own [aI64 a.X, aI64 a.Y, aI64 b.X, aI64 b.Y, aI64 c.X, aI64 c.Y, aI64 d.X, aI64 d.Y], .own [.hs 10 0 v18.length 2], .dead, .dead, .dead, .dead, .own (v18.flatMap api_Pix.c)]) (l := []) rfl (SnL.cons (Sn.pure rfl) (SnL.cons (Sn.pure rfl) (SnL.cons (Sn.pure rfl) SnL.nil))) (predicate_cross_ok n a b c v21 hc22)) (callOf_cons (callOk_val (H := [.own (api_Pix.c a), .own (api_Pix.c b), .own (api_Pix.c c), .own (api_Pix.c d), .own [aI64 a.X, aI64 a.Y, aI64 b.X, aI64 b.Y, aI64 c.X, aI64 c.Y, aI64 d.X, aI64 d.Y], .own [.hs 10 0 v18.length 2], .dead, .dead, .dead, .dead, .own (v18.flatMap api_Pix.c)]) (l := []) rfl (SnL.cons (Sn.pure rfl) SnL.nil) (predicate_sign_ok n v21 v23 hc24)) (callOf_cons (callOk_val (H := [.own (api_Pix.c a), .own (api_Pix.c b), .own (api_Pix.c c), .own (api_Pix.c d), .own [aI64 a.X, aI64 a.Y, aI64 b.X, aI64 b.Y, aI64 c.X, aI64 c.Y, aI64 d.X, aI64 d.Y], .own [.hs 10 0 v18.length 2], .dead, .dead, .dead, .dead, .own (v18.flatMap api_Pix.c)]) (l := []) rfl (SnL.cons (Sn.pure rfl) (SnL.cons (Sn.pure rfl) (SnL.cons (Sn.pure rfl) SnL.nil))) (predicate_cross_ok n a b d v25 hc26)) (callOf_cons (callOk_val (H := [.own (api_Pix.c a), .own (api_Pix.c b), .own (api_Pix.c c), .own (api_Pix.c d), .own [aI64 a.X, aI64 a.Y, aI64 b.X, aI64 b.Y, aI64 c.X, aI64 c.Y, aI64 d.X, aI64 d.Y], .own [.hs 10 0 v18.length 2], .dead, .dead, .dead, .dead, .own (v18.flatMap api_Pix.c)]) (l := []) rfl (SnL.cons (Sn.pure rfl) SnL.nil) (predicate_sign_ok n v25 v27 hc28)) (callOf_cons (callOk_val (H := [.own (api_Pix.c a), .own (api_Pix.c b), .own (api_Pix.c c), .own (api_Pix.c d), .own [aI64 a.X, aI64 a.Y, aI64 b.X, aI64 b.Y, aI64 c.X, aI64 c.Y, aI64 d.X, aI64 d.Y], .own [.hs 10 0 v18.length 2], .dead, .dead, .dead, .dead, .own (v18.flatMap api_Pix.c)]) (l := []) rfl (SnL.cons (Sn.pure rfl) (SnL.cons (Sn.pure rfl) (SnL.cons (Sn.pure rfl) SnL.nil))) (predicate_cross_ok n c d a v30 hc31)) (callOf_cons (callOk_val (H := [.own (api_Pix.c a), .own (api_Pix.c b), .own (api_Pix.c c), .own (api_Pix.c d), .own [aI64 a.X, aI64 a.Y, aI64 b.X, aI64 b.Y, aI64 c.X, aI64 c.Y, aI64 d.X, aI64 d.Y], .own [.hs 10 0 v18.length 2], .dead, .dead, .dead, .dead, .own (v18.flatMap api_Pix.c)]) (l := []) rfl (SnL.cons (Sn.pure rfl) SnL.nil) (predicate_sign_ok n v30 v32 hc33)) (callOf_cons (callOk_val (H := [.own (api_Pix.c a), .own (api_Pix.c b), .own (api_Pix.c c), .own (api_Pix.c d), .own [aI64 a.X, aI64 a.Y, aI64 b.X, aI64 b.Y, aI64 c.X, aI64 c.Y, aI64 d.X, aI64 d.Y], .own [.hs 10 0 v18.length 2], .dead, .dead, .dead, .dead, .own (v18.flatMap api_Pix.c)]) (l := []) rfl (SnL.cons (Sn.pure rfl) (SnL.cons (Sn.pure rfl) (SnL.cons (Sn.pure rfl) SnL.nil))) (predicate_cross_ok n c d b v34 hc35)) (callOf_cons (callOk_val (H := [.own (api_Pix.c a), .own (api_Pix.c b), .own (api_Pix.c c), .own (api_Pix.c d), .own [aI64 a.X, aI64 a.Y, aI64 b.X, aI64 b.Y, aI64 c.X, aI64 c.Y, aI64 d.X, aI64 d.Y], .own [.hs 10 0 v18.length 2], .dead, .dead, .dead, .dead, .own (v18.flatMap api_Pix.c)]) (l := []) rfl (SnL.cons (Sn.pure rfl) SnL.nil) (predicate_sign_ok n v34 v36 hc37)) callOf_nil)))))))) <| .mu 3 <| .cal (by kernel_rfl) (by kernel_rfl) (callOf_at (by kernel_rfl)) (by kernel_rfl) <| .cal (by kernel_rfl) (by kernel_rfl) (callOf_skip (fun h _ => absurd (show (57 : Nat) = 58 from h) (by decide)) (callOf_at (by kernel_rfl))) (by kernel_rfl) <| .mu 3 <| .cal (by kernel_rfl) (by kernel_rfl) (callOf_skip (fun _ h => by obtain ⟨e0, e1, e2⟩ := predicate_cross_inj h; rw [show v25 = v21 from Option.some.inj (hc26.symm.trans ((show predicate_cross n a b d = predicate_cross n a b c from (congr (congr (congr rfl e0) e1) e2)).trans hc22))]) (callOf_skip (fun h _ => absurd (show (58 : Nat) = 57 from h) (by decide)) (callOf_at (by kernel_rfl)))) (by kernel_rfl) ?_
    refine .cal (by kernel_rfl) (by kernel_rfl) (callOf_skip (fun h _ => absurd (show (57 : Nat) = 58 from h) (by decide)) (callOf_skip (fun _ h => by obtain e0 := predicate_sign_inj h; rw [show v27 = v23 from Option.some.inj (hc28.symm.trans ((show predicate_sign n v25 = predicate_sign n v21 from (congr rfl e0)).trans hc24))]) (callOf_skip (fun h _ => absurd (show (57 : Nat) = 58 from h) (by decide)) (callOf_at (by kernel_rfl))))) (by kernel_rfl) <| .mu 1 <| .pure (v := aB true) (by kernel_rfl) (Eq.trans (b := some (.pure (aB (decide ((wrapF .i64 (v23 * v27)) < 0))))) (by kernel_rfl) (by rw [hb29])) (by kernel_rfl) <| .mu 4 <| .cal (by kernel_rfl) (by kernel_rfl) (callOf_skip (fun _ h => by obtain ⟨e0, e1, e2⟩ := predicate_cross_inj h; rw [show v30 = v21 from Option.some.inj (hc31.symm.trans ((show predicate_cross n c d a = predicate_cross n a b c from (congr (congr (congr rfl e0) e1) e2)).trans hc22))]) (callOf_skip (fun h _ => absurd (show (58 : Nat) = 57 from h) (by decide)) (callOf_skip (fun _ h => by obtain ⟨e0, e1, e2⟩ := predicate_cross_inj h; rw [show v30 = v25 from Option.some.inj (hc31.symm.trans ((show predicate_cross n c d a = predicate_cross n a b d from (congr (congr (congr rfl e0) e1) e2)).trans hc26))]) (callOf_skip (fun h _ => absurd (show (58 : Nat) = 57 from h) (by decide)) (callOf_at (by kernel_rfl)))))) (by kernel_rfl) <| .cal (by kernel_rfl) (by kernel_rfl) (callOf_skip (fun h _ => absurd (show (57 : Nat) = 58 from h) (by decide)) (callOf_skip (fun _ h => by obtain e0 := predicate_sign_inj h; rw [show v32 = v23 from Option.some.inj (hc33.symm.trans ((show predicate_sign n v30 = predicate_sign n v21 from (congr rfl e0)).trans hc24))]) (callOf_skip (fun h _ => absurd (show (57 : Nat) = 58 from h) (by decide)) (callOf_skip (fun _ h => by obtain e0 := predicate_sign_inj h; rw [show v32 = v27 from Option.some.inj (hc33.symm.trans ((show predicate_sign n v30 = predicate_sign n v25 from (congr rfl e0)).trans hc28))]) (callOf_skip (fun h _ => absurd (show (57 : Nat) = 58 from h) (by decide)) (callOf_at (by kernel_rfl))))))) (by kernel_rfl) <| .mu 3 <| .cal (by kernel_rfl) (by kernel_rfl) (callOf_skip (fun _ h => by obtain ⟨e0, e1, e2⟩ := predicate_cross_inj h; rw [show v34 = v21 from Option.some.inj (hc35.symm.trans ((show predicate_cross n c d b = predicate_cross n a b c from (congr (congr (congr rfl e0) e1) e2)).trans hc22))]) (callOf_skip (fun h _ => absurd (show (58 : Nat) = 57 from h) (by decide)) (callOf_skip (fun _ h => by obtain ⟨e0, e1, e2⟩ := predicate_cross_inj h; rw [show v34 = v25 from Option.some.inj (hc35.symm.trans ((show predicate_cross n c d b = predicate_cross n a b d from (congr (congr (congr rfl e0) e1) e2)).trans hc26))]) (callOf_skip (fun h _ => absurd (show (58 : Nat) = 57 from h) (by decide)) (callOf_skip (fun _ h => by obtain ⟨e0, e1, e2⟩ := predicate_cross_inj h; rw [show v34 = v30 from Option.some.inj (hc35.symm.trans ((show predicate_cross n c d b = predicate_cross n c d a from (congr (congr (congr rfl e0) e1) e2)).trans hc31))]) (callOf_skip (fun h _ => absurd (show (58 : Nat) = 57 from h) (by decide)) (callOf_at (by kernel_rfl)))))))) (by kernel_rfl) ?_
    refine .cal (by kernel_rfl) (by kernel_rfl) (callOf_skip (fun h _ => absurd (show (57 : Nat) = 58 from h) (by decide)) (callOf_skip (fun _ h => by obtain e0 := predicate_sign_inj h; rw [show v36 = v23 from Option.some.inj (hc37.symm.trans ((show predicate_sign n v34 = predicate_sign n v21 from (congr rfl e0)).trans hc24))]) (callOf_skip (fun h _ => absurd (show (57 : Nat) = 58 from h) (by decide)) (callOf_skip (fun _ h => by obtain e0 := predicate_sign_inj h; rw [show v36 = v27 from Option.some.inj (hc37.symm.trans ((show predicate_sign n v34 = predicate_sign n v25 from (congr rfl e0)).trans hc28))]) (callOf_skip (fun h _ => absurd (show (57 : Nat) = 58 from h) (by decide)) (callOf_skip (fun _ h => by obtain e0 := predicate_sign_inj h; rw [show v36 = v32 from Option.some.inj (hc37.symm.trans ((show predicate_sign n v34 = predicate_sign n v30 from (congr rfl e0)).trans hc33))]) (callOf_skip (fun h _ => absurd (show (57 : Nat) = 58 from h) (by decide)) (callOf_at (by kernel_rfl))))))))) (by kernel_rfl) <| .mu 3 ?_
    refine .done ⟨by kernel_rfl, ?_⟩
    refine .n1 [80] (mkS 83 0 [(80, aB (decide ((wrapF .i64 (v32 * v36)) < 0)))]) [.own (api_Pix.c a), .own (api_Pix.c b), .own (api_Pix.c c), .own (api_Pix.c d), .own [aI64 a.X, aI64 a.Y, aI64 b.X, aI64 b.Y, aI64 c.X, aI64 c.Y, aI64 d.X, aI64 d.Y], .own [.hs 10 0 v18.length 2], .dead, .dead, .dead, .dead, .own (v18.flatMap api_Pix.c)] ?_
    refine .cond (t := decide ((wrapF .i64 (v32 * v36)) < 0)) (by kernel_rfl) (fun hb38 => ?_) (fun hb38 => ?_)
    ·replace hr := cd_t hb38 hr
     refine .seq <| .ru fine <| .ret ?_
     obtain rfl := Option.some.inj hr
     exact FinQ.ret (vs := [aI64 2, aI64 0]) (by kernel_rfl) (Sn.tup (SnL.cons (Sn.pure rfl) (SnL.cons (Sn.pure rfl) SnL.nil)))
    ·replace hr := cd_f hb38 hr
     refine .skip <| .seq <| .ru fine <| .ret ?_
     obtain rfl := Option.some.inj hr
     exact FinQ.ret (vs := [aI64 0, aI64 0]) (by kernel_rfl) (Sn.tup (SnL.cons (Sn.pure rfl) (SnL.cons (Sn.pure rfl) SnL.nil)))
   ·replace hr := cd_f hb29 hr
    refine .regionT fine (callOf_cons (callOk_val (H := [.own (api_Pix.c a), .own (api_Pix.c b), .own (api_Pix.c c), .own (api_Pix.c d), .own [aI64 a.X, aI64 a.Y, aI64 b.X, aI64 b.Y, aI64 c.X, aI64 c.Y, aI64 d.X, aI64 d.Y], .own [.hs 10 0 v18.length 2], .dead, .dead, .dead, .dead, .own (v18.flatMap api_Pix.c)]) (l := []) rfl (SnL.cons (Sn.pure rfl) (SnL.cons (Sn.pure rfl) (SnL.cons (Sn.pure rfl) SnL.nil))) (predicate_cross_ok n a b c v21 hc22)) (callOf_cons (callOk_val (H := [.own (api_Pix.c a), .own (api_Pix.c b), .own (api_Pix.c c), .own (api_Pix.c d), .own [aI64 a.X, aI64 a.Y, aI64 b.X, aI64 b.Y, aI64 c.X, aI64 c.Y, aI64 d.X, aI64 d.Y], .own [.hs 10 0 v18.length 2], .dead, .dead, .dead, .dead, .own (v18.flatMap api_Pix.c)]) (l := []) rfl (SnL.cons (Sn.pure rfl) SnL.nil) (predicate_sign_ok n v21 v23 hc24)) (callOf_cons (callOk_val (H := [.own (api_Pix.c a), .own (api_Pix.c b), .own (api_Pix.c c), .own (api_Pix.c d), .own [aI64 a.X, aI64 a.Y, aI64 b.X, aI64 b.Y, aI64 c.X, aI64 c.Y, aI64 d.X, aI64 d.Y], .own [.hs 10 0 v18.length 2], .dead, .dead, .dead, .dead, .own (v18.flatMap api_Pix.c)]) (l := []) rfl (SnL.cons (Sn.pure rfl) (SnL.cons (Sn.pure rfl) (SnL.cons (Sn.pure rfl) SnL.nil))) (predicate_cross_ok n a b d v25 hc26)) (callOf_cons (callOk_val (H := [.own (api_Pix.c a), .own (api_Pix.c b), .own (api_Pix.c c), .own (api_Pix.c d), .own [aI64 a.X, aI64 a.Y, aI64 b.X, aI64 b.Y, aI64 c.X, aI64 c.Y, aI64 d.X, aI64 d.Y], .own [.hs 10 0 v18.length 2], .dead, .dead, .dead, .dead, .own (v18.flatMap api_Pix.c)]) (l := []) rfl (SnL.cons (Sn.pure rfl) SnL.nil) (predicate_sign_ok n v25 v27 hc28)) callOf_nil)))) <| .mu 3 <| .cal (by kernel_rfl) (by kernel_rfl) (callOf_at (by kernel_rfl)) (by kernel_rfl) <| .cal (by kernel_rfl) (by kernel_rfl) (callOf_skip (fun h _ => absurd (show (57 : Nat) = 58 from h) (by decide)) (callOf_at (by kernel_rfl))) (by kernel_rfl) <| .mu 3 <| .cal (by kernel_rfl) (by kernel_rfl) (callOf_skip (fun _ h => by obtain ⟨e0, e1, e2⟩ := predicate_cross_inj h; rw [show v25 = v21 from Option.some.inj (hc26.symm.trans ((show predicate_cross n a b d = predicate_cross n a b c from (congr (congr (congr rfl e0) e1) e2)).trans hc22))]) (callOf_skip (fun h _ => absurd (show (58 : Nat) = 57 from h) (by decide)) (callOf_at (by kernel_rfl)))) (by kernel_rfl) <| .cal (by kernel_rfl) (by kernel_rfl) (callOf_skip (fun h _ => absurd (show (57 : Nat) = 58 from h) (by decide)) (callOf_skip (fun _ h => by obtain e0 := predicate_sign_inj h; rw [show v27 = v23 from Option.some.inj (hc28.symm.trans ((show predicate_sign n v25 = predicate_sign n v21 from (congr rfl e0)).trans hc24))]) (callOf_skip (fun h _ => absurd (show (57 : Nat) = 58 from h) (by decide)) (callOf_at (by kernel_rfl))))) (by kernel_rfl) <| .mu 1 <| .pure (v := aB false) (by kernel_rfl) (Eq.trans (b := some (.pure (aB (decide ((wrapF .i64 (v23 * v27)) < 0))))) (by kernel_rfl) (by rw [hb29])) (by kernel_rfl) <| .mu 14 ?_
    refine .done ⟨by kernel_rfl, ?_⟩
    refine .n1 [80] (mkS 83 0 [(80, aB false)]) [.own (api_Pix.c a), .own (api_Pix.c b), .own (api_Pix.c c), .own (api_Pix.c d), .own [aI64 a.X, aI64 a.Y, aI64 b.X, aI64 b.Y, aI64 c.X, aI64 c.Y, aI64 d.X, aI64 d.Y], .own [.hs 10 0 v18.length 2], .dead, .dead, .dead, .dead, .own (v18.flatMap api_Pix.c)] <| .cF (by kernel_rfl) <| .skip <| .seq <| .ru fine <| .ret ?_
    obtain rfl := Option.some.inj hr
    exact FinQ.ret (vs := [aI64 0, aI64 0]) (by kernel_rfl) (Sn.tup (SnL.cons (Sn.pure rfl) (SnL.cons (Sn.pure rfl) SnL.nil)))
  ·replace hr := cd_f hb20 hr
   refine .seq <| .rn fine [81] (mkS 83 0 [(81, aB (((v18.length : Int) : Int) == 1))]) [.own (api_Pix.c a), .own (api_Pix.c b), .own (api_Pix.c c), .own (api_Pix.c d), .own [aI64 a.X, aI64 a.Y, aI64 b.X, aI64 b.Y, aI64 c.X, aI64 c.Y, aI64 d.X, aI64 d.Y], .own [.hs 10 0 v18.length 2], .dead, .dead, .dead, .dead, .own (v18.flatMap api_Pix.c)] ?_
   refine .cond (t := ((v18.length : Int) : Int) == 1) (by kernel_rfl) (fun hb39 => ?_) (fun hb39 => ?_)
   ·replace hr := cd_t hb39 hr
    refine .seq <| .ru fine <| .ret ?_
    obtain rfl := Option.some.inj hr
    exact FinQ.ret (vs := [aI64 1, aI64 0]) (by kernel_rfl) (Sn.tup (SnL.cons (Sn.pure rfl) (SnL.cons (Sn.pure rfl) SnL.nil)))
   ·replace hr := cd_f hb39 hr
    refine .skip <| .pop <| .seq <| .ru fine <| .ret ?_
    obtain rfl := Option.some.inj hr
    exact FinQ.ret (vs := [aI64 3, aI64 0]) (by kernel_rfl) (Sn.tup (SnL.cons (Sn.pure rfl) (SnL.cons (Sn.pure rfl) SnL.nil)))

theorem integer_split_inj {n' : Int} {n'_ : Int} (h : ([.at (.int .u64 n')] : List AV) = [.at (.int .u64 n'_)]) : n' = n'_ := by
 simp only [List.cons.injEq, AV.agg.injEq, AV.at.injEq, Value.int.injEq, Value.bool.injEq, AV.fn.injEq, AV.pp.injEq, true_and, and_true] at h
 simp_all
theorem integer_split_ok (n : Nat) (n' : Int) (r : List Int) (hr : integer_split n n' = some r) : FnOk Tryz.prog 104 [.at (.int .u64 n')] (slT (iC .u32) r) := by
 unfold integer_split at hr
 refine FnOk.body fine Tryz.func104 (c := (Tryz.f104.body).getD .skip) rfl (s := mkS 15 0 [(0, aU64 n')]) (by kernel_rfl) (rs := [.tmp 2]) rfl ?_
 unfold Tryz.f104
 simp only [Option.getD_some]
 refine .seq <| .rn fine [0] (mkS 15 0 [(0, aU64 n')]) [] <| .seq <| .rn fine [0, 3] (mkS 15 0 [(0, aU64 n'), (3, .at (.slice none 0 0))]) [] <| .seq <| .block ?_
 replace hr := bd hr; obtain ⟨g_6, hL12, hr⟩ := hr
 refine .loopO (σ := fun z0 => match z0 with | (n_1, g_2) => ⟨mkS 15 0 [(0, aU64 n_1), (3, .hs 0 0 g_2.length 1)], [.own (g_2.flatMap (iC .u32))]⟩) (Q := fun x st' => x = .exit 0 ∧ Wk 0 st' ⟨mkS 15 0 [(3, .hs 0 0 g_6.length 1)], [.own (g_6.flatMap (iC .u32))]⟩) hL12 ((Wk.nil 3 1 (by kernel_rfl)).trans ((Wk.gc [0, 3] [(0, false)] rfl (pKc trivial)).to (by kernel_rfl))) ?_ ?_
 ·clear hr
  rintro m ⟨n_1, g_2⟩ hr
  show CQ _ _ _ _ _ ⟨_, _⟩
  refine .seq <| .seq <| .rn fine [0, 3, 5] (mkS 15 0 [(0, aU64 n_1), (3, .hs 0 0 g_2.length 1), (5, aB (decide (n_1 > 0)))]) [.own (g_2.flatMap (iC .u32))] ?_
  refine .cond (t := decide (n_1 > 0)) (by kernel_rfl) (fun hb8 => ?_) (fun hb8 => ?_)
  ·replace hr := cd_t hb8 hr
   refine .skip <| .seq <| .block ?_
   obtain ⟨hg9, hr⟩ := gd hr
   obtain ⟨hg10, hr⟩ := gd hr
   refine .r0 fine <| .mu 5 <| .e0 (v := .hs 2 0 (g_2 ++ [wrapF .u32 (n_1.tmod 1000000000)]).length 1) (ws := [(0, .dead), (2, .own ((g_2 ++ [wrapF .u32 (n_1.tmod 1000000000)]).flatMap (iC .u32)))]) (Eq.trans (b := guardO (decide (0 + g_2.length * 1 ≤ (g_2.flatMap (iC .u32)).length) && decide ((g_2.length + 1) * 4 ≤ 140737488355328) && decide (g_2.length + 1 ≤ 4611686018427387904)) (some (.eff (.hs 2 0 (g_2.length + 1) 1) [(0, .dead), (2, .own (((g_2.flatMap (iC .u32)).drop 0).take (g_2.length * 1) ++ [aU32 (wrapF .u32 (n_1.tmod 1000000000))]))]))) (by kernel_rfl) (app_own (l := g_2) (xs := [wrapF .u32 (n_1.tmod 1000000000)]) (iC_len _) rfl rfl (by kernel_rfl) hg9 hg10)) <| .mu 1 <| .done <| .pop <| .ru fine ?_
   exact loopF_back (wrapF .u64 (n_1.tdiv 1000000000), g_2 ++ [wrapF .u32 (n_1.tmod 1000000000)]) hr ((Wk.gc [0, 3] [(2, false)] rfl (pKo (iC .u32) (iC_pure _) (g_2 ++ [wrapF .u32 (n_1.tmod 1000000000)]) trivial)).to (by kernel_rfl))
  ·replace hr := cd_f hb8 hr
   refine .leave rfl ?_
   obtain rfl := Option.some.inj hr
   exact ⟨rfl, ((Wk.gc [3] [(0, false)] rfl (pKo (iC .u32) (iC_pure _) g_2 trivial)).to (by kernel_rfl))⟩
 ·rintro x st' hq13
  clear hL12
  obtain ⟨rfl, hq13⟩ := hq13
  refine CQ_exit _ rfl <| .wk hq13 <| .seq <| .rn fine [2] (mkS 15 0 [(2, .hs 0 0 g_6.length 1)]) [.own (g_6.flatMap (iC .u32))] <| .ret ?_
  obtain rfl := Option.some.inj hr
  exact FinQ.ret (vs := [.hs 0 0 g_6.length 1]) (by kernel_rfl) (Sn.hs rfl (.inl rfl) (SnC.pure (ids_flat (iC_pure _) _)) (fun h => flat_nil0 h))

theorem integer_trim_ok (n : Nat) (g : List Int) (r : List Int) (hr : integer_trim n g = some r) : FnOk Tryz.prog 131 [slT (iC .u32) g] (slT (iC .u32) r) := by
 unfold integer_trim at hr
 refine FnOk.body fine Tryz.func131 (c := (Tryz.f131.body).getD .skip) rfl (s := mkS 21 0 [(0, sU32 g)]) (by kernel_rfl) (rs := [.tmp 2]) rfl ?_
 unfold Tryz.f131
 simp only [Option.getD_some]
 refine .seq <| .rn fine [0] (mkS 21 0 [(0, sU32 g)]) [] <| .seq <| .block ?_
 replace hr := bd hr; obtain ⟨g_6, hL13, hr⟩ := hr
 refine .loopO (σ := fun z0 => match z0 with | g_1 => ⟨mkS 21 0 [(0, sU32 g_1)], []⟩) (Q := fun x st' => x = .exit 0 ∧ Wk 0 st' ⟨mkS 21 0 [(0, sU32 g_6)], []⟩) hL13 ((Wk.gc [0] [] rfl pK0).to (by kernel_rfl)) ?_ ?_
 ·clear hr
  rintro m g_1 hr
  show CQ _ _ _ _ _ ⟨_, _⟩
  refine .seq <| .seq ?_
  rcases Bool.eq_false_or_eq_true (decide ((g_1.length : Int) > 0)) with hb8 | hb8
  ·replace hr := cd_t hb8 hr
   obtain ⟨hg9, hr⟩ := gd hr
   refine .r0 fine <| .mu 2 <| .p0 (v := aB true) (Eq.trans (b := some (.pure (aB (decide ((g_1.length : Int) > 0))))) (by kernel_rfl) (by rw [hb8])) <| .mu 5 <| .pure (v := .pp (g_1.flatMap (iC .u32)) ((wrapF .i64 ((g_1.length : Int) - 1)).toNat * 1)) (by kernel_rfl) (Eq.trans (b := ORes.ofP (guardV (inR (wrapF .i64 ((g_1.length : Int) - 1)) g_1.length) (.pp (g_1.flatMap (iC .u32)) ((wrapF .i64 ((g_1.length : Int) - 1)).toNat * 1)))) (by kernel_rfl) (ofP_guard hg9)) <| .pure (v := aU32 (gt g_1 (wrapF .i64 ((g_1.length : Int) - 1)))) (by kernel_rfl) (Eq.trans (b := ORes.ofP ((g_1.flatMap (iC .u32))[(wrapF .i64 ((g_1.length : Int) - 1)).toNat * 1]?)) (by kernel_rfl) (ofP_some (flat_get (iC_len _) (inR_lt hg9) (by decide : 0 < 1) (by omega : (wrapF .i64 ((g_1.length : Int) - 1)).toNat * 1 = (wrapF .i64 ((g_1.length : Int) - 1)).toNat * 1 + 0) (by kernel_rfl)))) <| .mu 2 <| .done <| .n1 [0, 14] (mkS 21 0 [(0, sU32 g_1), (14, aB (((gt g_1 (wrapF .i64 ((g_1.length : Int) - 1))) : Int) == 0))]) [] ?_
   refine .cond (t := ((gt g_1 (wrapF .i64 ((g_1.length : Int) - 1))) : Int) == 0) (by kernel_rfl) (fun hb10 => ?_) (fun hb10 => ?_)
   ·replace hr := cd_t hb10 hr
    refine .skip <| .block ?_
    obtain ⟨hg11, hr⟩ := gd hr
    refine .r0 fine <| .mu 4 <| .p0 (v := sU32 ((g_1.drop (0 : Int).toNat).take ((wrapF .i64 ((g_1.length : Int) - 1)).toNat - (0 : Int).toNat))) (Eq.trans (b := slO (inS 0 (wrapF .i64 ((g_1.length : Int) - 1)) g_1.length) (0 : Int).toNat (wrapF .i64 ((g_1.length : Int) - 1)).toNat (fun z1 z2 => .sl true (((g_1.flatMap (iC .u32)).drop (z1 * 1)).take ((z2 - z1) * 1)) (z2 - z1))) (by kernel_rfl) (slO_t hg11 (sub_sl (iC_len _) (inS_le hg11)))) <| .mu 1 <| .done <| .pop ?_
    exact loopF_back ((g_1.drop (0 : Int).toNat).take ((wrapF .i64 ((g_1.length : Int) - 1)).toNat - (0 : Int).toNat)) hr ((Wk.gc [0] [] rfl pK0).to (by kernel_rfl))
   ·replace hr := cd_f hb10 hr
    refine .leave rfl ?_
    obtain rfl := Option.some.inj hr
    exact ⟨rfl, ((Wk.gc [0] [] rfl pK0).to (by kernel_rfl))⟩
  ·replace hr := cd_f hb8 hr
   refine .r0 fine <| .mu 2 <| .p0 (v := aB false) (Eq.trans (b := some (.pure (aB (decide ((g_1.length : Int) > 0))))) (by kernel_rfl) (by rw [hb8])) <| .mu 9 <| .done <| .n1 [0, 14] (mkS 21 0 [(0, sU32 g_1), (14, aB false)]) [] <| .cF (by kernel_rfl) <| .leave rfl ?_
   obtain rfl := Option.some.inj hr
   exact ⟨rfl, ((Wk.gc [0] [] rfl pK0).to (by kernel_rfl))⟩
 ·rintro x st' hq14
  clear hL13
  obtain ⟨rfl, hq14⟩ := hq14
  refine CQ_exit _ rfl <| .wk hq14 <| .seq <| .ru fine <| .ret ?_
  obtain rfl := Option.some.inj hr
  exact FinQ.r1 [sU32 g_6]

theorem integer_made_inj {negative : Bool} {g : List Int} {negative_ : Bool} {g_ : List Int} (h : ([.at (.bool negative), slT (iC .u32) g] : List AV) = [.at (.bool negative_), slT (iC .u32) g_]) : negative = negative_ ∧ g = g_ := by
 simp only [List.cons.injEq, AV.agg.injEq, AV.at.injEq, Value.int.injEq, Value.bool.injEq, AV.fn.injEq, AV.pp.injEq, true_and, and_true, slT_inj_int] at h
 simp_all
theorem integer_made_ok (n : Nat) (negative : Bool) (g : List Int) (r : api_Int) (hr : integer_made n negative g = some r) : FnOk Tryz.prog 103 [.at (.bool negative), slT (iC .u32) g] (.agg [.at (.bool r.Negative), slT (iC .u32) r.Groups]) := by
 unfold integer_made at hr
 refine FnOk.body fine Tryz.func103 (c := (Tryz.f103.body).getD .skip) rfl (s := mkS 14 0 [(0, aB negative), (1, sU32 g)]) (by kernel_rfl) (rs := [.cell 4 35]) rfl ?_
 unfold Tryz.f103
 simp only [Option.getD_some]
 refine .seq <| .rn fine [0, 1, 4] (mkS 14 0 [(0, aB negative), (1, sU32 g), (4, .hp 0 0)]) [.own [aB false, .at (.slice none 0 0)]] <| .seq ?_
 obtain ⟨v1, hc2, hr⟩ := bd hr
 refine .g1 fine (callOk_ref (l := []) (SnL.cons (Sn.pure rfl) SnL.nil) (integer_trim_ok n g v1 hc2)) <| .mu 1 <| .c0 (by kernel_rfl) (callOf_at (by kernel_rfl)) <| .mu 1 <| .done <| .n1 [0, 1, 4] (mkS 14 0 [(0, aB negative), (1, sU32 v1), (4, .hp 0 0)]) [.own [aB false, .at (.slice none 0 0)]] <| .seq <| .seq <| .rn fine [0, 1, 4, 9] (mkS 14 0 [(0, aB negative), (1, sU32 v1), (4, .hp 0 0), (9, aB (((v1.length : Int) : Int) == 0))]) [.own [aB false, .at (.slice none 0 0)]] ?_
 refine .cond (t := ((v1.length : Int) : Int) == 0) (by kernel_rfl) (fun hb3 => ?_) (fun hb3 => ?_)
 ·replace hr := cd_t hb3 hr
  refine .seq <| .rn fine [4] (mkS 14 0 [(4, .hp 0 0)]) [.own [aB false, .at (.slice none 0 0)]] <| .ret ?_
  obtain rfl := Option.some.inj hr
  exact FinQ.ret (vs := [.agg [aB false, .at (.slice none 0 0)]]) (by kernel_rfl) (Sn.agg (SnL.cons (Sn.pure rfl) (SnL.cons Sn.nilsl SnL.nil)))
 ·replace hr := cd_f hb3 hr
  refine .skip <| .seq <| .rn fine [4] (mkS 14 0 [(4, .hp 0 0)]) [.own [aB negative, sU32 v1]] <| .ret ?_
  obtain rfl := Option.some.inj hr
  exact FinQ.r1 [.agg [aB negative, sU32 v1]]

theorem integer_Of_inj {n' : Int} {n'_ : Int} (h : ([.at (.int .i64 n')] : List AV) = [.at (.int .i64 n'_)]) : n' = n'_ := by
 simp only [List.cons.injEq, AV.agg.injEq, AV.at.injEq, Value.int.injEq, Value.bool.injEq, AV.fn.injEq, AV.pp.injEq, true_and, and_true] at h
 simp_all
theorem integer_Of_ok (n : Nat) (n' : Int) (r : api_Int) (hr : integer_Of n n' = some r) : FnOk Tryz.prog 64 [.at (.int .i64 n')] (.agg [.at (.bool r.Negative), slT (iC .u32) r.Groups]) := by
 unfold integer_Of at hr
 refine FnOk.body fine Tryz.func64 (c := (Tryz.f64.body).getD .skip) rfl (s := mkS 15 0 [(0, aI64 n')]) (by kernel_rfl) (rs := [.cell 2 35]) rfl ?_
 unfold Tryz.f64
 simp only [Option.getD_some]
 refine .seq <| .rn fine [0, 2] (mkS 15 0 [(0, aI64 n'), (2, .hp 0 0)]) [.own [aB false, .at (.slice none 0 0)]] <| .seq <| .rn fine [0, 2, 3] (mkS 15 0 [(0, aI64 n'), (2, .hp 0 0), (3, aU64 (wrapF .u64 n'))]) [.own [aB false, .at (.slice none 0 0)]] <| .seq <| .seq <| .rn fine [0, 2, 3, 7] (mkS 15 0 [(0, aI64 n'), (2, .hp 0 0), (3, aU64 (wrapF .u64 n')), (7, aB (decide (n' < 0)))]) [.own [aB false, .at (.slice none 0 0)]] ?_
 refine .cond (t := decide (n' < 0)) (by kernel_rfl) (fun hb1 => ?_) (fun hb1 => ?_)
 ·replace hr := cd_t hb1 hr
  refine .r0 fine <| .mu 1 <| .p0 (v := aU64 (wrapF .u64 (0 - (wrapF .u64 n')))) (Eq.trans (b := some (.pure (aU64 (IntKind.wrap .u64 (0 - (wrapF .u64 n')))))) (by kernel_rfl) wrap_at) <| .mu 1 <| .done <| .n1 [0, 2, 3] (mkS 15 0 [(0, aI64 n'), (2, .hp 0 0), (3, aU64 (wrapF .u64 (0 - (wrapF .u64 n'))))]) [.own [aB false, .at (.slice none 0 0)]] <| .seq ?_
  obtain ⟨v2, hc3, hr⟩ := bd hr
  obtain ⟨v4, hc5, hr⟩ := bd hr
  refine .region fine (callOf_cons (callOk_ref (H := [.own [aB false, .at (.slice none 0 0)]]) (l := []) (SnL.cons (Sn.pure rfl) SnL.nil) (integer_split_ok n (wrapF .u64 (0 - (wrapF .u64 n'))) v2 hc3)) (callOf_cons (callOk_ref (H := [.own [aB false, .at (.slice none 0 0)]]) (l := []) (SnL.cons (Sn.pure rfl) (SnL.cons (Sn.pure rfl) SnL.nil)) (integer_made_ok n true v2 v4 hc5)) callOf_nil)) <| .mu 1 <| .p0 (v := aB true) (Eq.trans (b := some (.pure (aB (decide (n' < 0))))) (by kernel_rfl) (by rw [hb1])) <| .mu 1 <| .c0 (by kernel_rfl) (callOf_at (by kernel_rfl)) <| .c0 (by kernel_rfl) (callOf_skip (fun h _ => absurd (show (103 : Nat) = 104 from h) (by decide)) (callOf_at (by kernel_rfl))) <| .mu 1 <| .done <| .n1 [2] (mkS 15 0 [(2, .hp 0 0)]) [.own (api_Int.c v4)] <| .ret ?_
  obtain rfl := Option.some.inj hr
  exact FinQ.r1 [.agg (api_Int.c v4)]
 ·replace hr := cd_f hb1 hr
  refine .skip <| .seq ?_
  obtain ⟨v6, hc7, hr⟩ := bd hr
  obtain ⟨v8, hc9, hr⟩ := bd hr
  refine .region fine (callOf_cons (callOk_ref (H := [.own [aB false, .at (.slice none 0 0)]]) (l := []) (SnL.cons (Sn.pure rfl) SnL.nil) (integer_split_ok n (wrapF .u64 n') v6 hc7)) (callOf_cons (callOk_ref (H := [.own [aB false, .at (.slice none 0 0)]]) (l := []) (SnL.cons (Sn.pure rfl) (SnL.cons (Sn.pure rfl) SnL.nil)) (integer_made_ok n false v6 v8 hc9)) callOf_nil)) <| .mu 1 <| .p0 (v := aB false) (Eq.trans (b := some (.pure (aB (decide (n' < 0))))) (by kernel_rfl) (by rw [hb1])) <| .mu 1 <| .c0 (by kernel_rfl) (callOf_at (by kernel_rfl)) <| .c0 (by kernel_rfl) (callOf_skip (fun h _ => absurd (show (103 : Nat) = 104 from h) (by decide)) (callOf_at (by kernel_rfl))) <| .mu 1 <| .done <| .n1 [2] (mkS 15 0 [(2, .hp 0 0)]) [.own (api_Int.c v8)] <| .ret ?_
  obtain rfl := Option.some.inj hr
  exact FinQ.r1 [.agg (api_Int.c v8)]

theorem fraction_Whole_inj {n' : Int} {n'_ : Int} (h : ([.at (.int .i64 n')] : List AV) = [.at (.int .i64 n'_)]) : n' = n'_ := by
 simp only [List.cons.injEq, AV.agg.injEq, AV.at.injEq, Value.int.injEq, Value.bool.injEq, AV.fn.injEq, AV.pp.injEq, true_and, and_true] at h
 simp_all
theorem fraction_Whole_ok (n : Nat) (n' : Int) (r : api_Rat) (hr : fraction_Whole n n' = some r) : FnOk Tryz.prog 80 [.at (.int .i64 n')] (.agg [.at (.bool r.Num.Negative), slT (iC .u32) r.Num.Groups, .at (.bool r.Den.Negative), slT (iC .u32) r.Den.Groups]) := by
 unfold fraction_Whole at hr
 refine FnOk.body fine Tryz.func80 (c := (Tryz.f80.body).getD .skip) rfl (s := mkS 7 0 [(0, aI64 n')]) (by kernel_rfl) (rs := [.cell 2 37]) rfl ?_
 unfold Tryz.f80
 simp only [Option.getD_some]
 refine .seq <| .rn fine [0, 2] (mkS 7 0 [(0, aI64 n'), (2, .hp 0 0)]) [.own [aB false, .at (.slice none 0 0), aB false, .at (.slice none 0 0)]] <| .seq ?_
 obtain ⟨v1, hc2, hr⟩ := bd hr
 obtain ⟨v3, hc4, hr⟩ := bd hr
 refine .region fine (callOf_cons (callOk_ref (H := [.own [aB false, .at (.slice none 0 0), aB false, .at (.slice none 0 0)]]) (l := []) (SnL.cons (Sn.pure rfl) SnL.nil) (integer_Of_ok n n' v1 hc2)) (callOf_cons (callOk_ref (H := [.own [aB false, .at (.slice none 0 0), aB false, .at (.slice none 0 0)]]) (l := []) (SnL.cons (Sn.pure rfl) SnL.nil) (integer_Of_ok n 1 v3 hc4)) callOf_nil)) <| .mu 1 <| .c0 (by kernel_rfl) (callOf_at (by kernel_rfl)) <| .c0 (by kernel_rfl) (callOf_skip (fun _ h => by obtain e0 := integer_Of_inj h; rw [show v3 = v1 from Option.some.inj (hc4.symm.trans ((show integer_Of n 1 = integer_Of n n' from (congr rfl e0)).trans hc2))]) (callOf_at (by kernel_rfl))) <| .mu 2 <| .done <| .n1 [2] (mkS 7 0 [(2, .hp 0 0)]) [.own [aB v1.Negative, sU32 v1.Groups, aB v3.Negative, sU32 v3.Groups]] <| .ret ?_
 obtain rfl := Option.some.inj hr
 exact FinQ.r1 [.agg [aB v1.Negative, sU32 v1.Groups, aB v3.Negative, sU32 v3.Groups]]

theorem integer_Valid_1_ok (n : Nat) (g : Int) (r : Bool) (hr : integer_Valid_1 n g = some r) : FnOk Tryz.prog 154 [.at (.int .u32 g)] (.at (.bool r)) := by
 unfold integer_Valid_1 at hr
 refine FnOk.body fine Tryz.func154 (c := (Tryz.f154.body).getD .skip) rfl (s := mkS 5 0 [(0, aU32 g)]) (by kernel_rfl) (rs := [.tmp 2]) rfl ?_
 unfold Tryz.f154
 simp only [Option.getD_some]
 refine .seq <| .rn fine [0] (mkS 5 0 [(0, aU32 g)]) [] <| .seq <| .ru fine <| .ret ?_
 obtain rfl := Option.some.inj hr
 exact FinQ.r1 [aB (decide (g ≥ 1000000000))]

theorem slices_IndexFunc_uint32_uint32_of_integer_Valid_1_ok (n : Nat) (s : List Int) (r : Int) (hr : slices_IndexFunc_uint32_uint32_of_integer_Valid_1 n s = some r) : FnOk Tryz.prog 165 [slT (iC .u32) s, .fn 154 [] []] (.at (.int .i64 r)) := by
 unfold slices_IndexFunc_uint32_uint32_of_integer_Valid_1 at hr
 refine FnOk.body fine Tryz.func165 (c := (Tryz.f165.body).getD .skip) rfl (s := mkS 19 0 [(0, sU32 s), (1, .fn 154 [] [])]) (by kernel_rfl) (rs := [.tmp 4]) rfl ?_
 unfold Tryz.f165
 simp only [Option.getD_some]
 refine .seq <| .rn fine [0, 1] (mkS 19 0 [(0, sU32 s), (1, .fn 154 [] [])]) [] <| .seq <| .seq <| .rn fine [0, 1, 7, 8] (mkS 19 0 [(0, sU32 s), (1, .fn 154 [] []), (7, aI64 (s.length : Int)), (8, aI64 0)]) [] <| .block ?_
 replace hr := bd hr; obtain ⟨o13, hL14, hr⟩ := hr
 refine .loopO (σ := fun z0 => match z0 with | x_1 => ⟨mkS 19 0 [(0, sU32 s), (1, .fn 154 [] []), (7, aI64 (s.length : Int)), (8, aI64 x_1)], []⟩) (Q := fun x st' => match (generalizing := false) o13 with | .inl _ => x = .exit 0 ∧ Wk 0 st' ⟨mkS 19 0 [], []⟩ | .inr (r0) => x = .ret ∧ FinQ Tryz.prog [.tmp 4] (aI64 r0) .ret st') hL14 ((Wk.gc [0, 1, 7, 8] [] rfl pK0).to (by kernel_rfl)) ?_ ?_
 ·clear hr
  rintro m x_1 hr
  show CQ _ _ _ _ _ ⟨_, _⟩
  refine .seq <| .rn fine [0, 1, 7, 8, 9] (mkS 19 0 [(0, sU32 s), (1, .fn 154 [] []), (7, aI64 (s.length : Int)), (8, aI64 x_1), (9, aB (decide (x_1 < (s.length : Int))))]) [] <| .seq ?_
  refine .cond (t := decide (x_1 < (s.length : Int))) (by kernel_rfl) (fun hb8 => ?_) (fun hb8 => ?_)
  ·replace hr := cd_t hb8 hr
   refine .skip <| .seq <| .block <| .seq <| .rn fine [0, 1, 5, 7, 8] (mkS 19 0 [(0, sU32 s), (1, .fn 154 [] []), (5, aI64 x_1), (7, aI64 (s.length : Int)), (8, aI64 x_1)]) [] <| .seq ?_
   obtain ⟨hg9, hr⟩ := gd hr
   obtain ⟨v10, hc11, hr⟩ := bd hr
   refine .g1 fine (callOk_val (l := []) rfl (SnL.cons (Sn.pure rfl) SnL.nil) (integer_Valid_1_ok n (gt s x_1) v10 hc11)) <| .mu 3 <| .p0 (v := .pp (s.flatMap (iC .u32)) (x_1.toNat * 1)) (Eq.trans (b := ORes.ofP (guardV (inR x_1 s.length) (.pp (s.flatMap (iC .u32)) (x_1.toNat * 1)))) (by kernel_rfl) (ofP_guard hg9)) <| .p0 (v := aU32 (gt s x_1)) (Eq.trans (b := ORes.ofP ((s.flatMap (iC .u32))[x_1.toNat * 1]?)) (by kernel_rfl) (ofP_some (flat_get (iC_len _) (inR_lt hg9) (by decide : 0 < 1) (by omega : x_1.toNat * 1 = x_1.toNat * 1 + 0) (by kernel_rfl)))) <| .c0 (by kernel_rfl) (callOf_at (by kernel_rfl)) <| .done <| .n1 [0, 1, 5, 7, 8, 16] (mkS 19 0 [(0, sU32 s), (1, .fn 154 [] []), (5, aI64 x_1), (7, aI64 (s.length : Int)), (8, aI64 x_1), (16, aB v10)]) [] ?_
   refine .cond (t := v10) (by kernel_rfl) (fun hb12 => ?_) (fun hb12 => ?_)
   ·replace hr := cd_t hb12 hr
    refine .seq <| .ru fine <| .ret ?_
    obtain rfl := Option.some.inj hr
    exact ⟨rfl, FinQ.ret (vs := [aI64 x_1]) (by kernel_rfl) (Sn.pure rfl)⟩
   ·replace hr := cd_f hb12 hr
    refine .skip <| .pop <| .ru fine ?_
    exact loopF_back (wrapF .i64 (x_1 + 1)) hr ((Wk.gc [0, 1, 7, 8] [] rfl pK0).to (by kernel_rfl))
  ·replace hr := cd_f hb8 hr
   refine .leave rfl ?_
   obtain rfl := Option.some.inj hr
   exact ⟨rfl, ((Wk.gc [] [] rfl pK0).to (by kernel_rfl))⟩
 ·rcases o13 with ⟨⟩ | r0
  ·rintro x st' hq15
   clear hL14
   obtain ⟨rfl, hq15⟩ := hq15
   refine CQ_exit _ rfl <| .wk hq15 <| .seq <| .ru fine <| .ret ?_
   obtain rfl := Option.some.inj hr
   exact FinQ.r1 [aI64 (-1)]
  ·rintro x st' hq15
   clear hL14
   obtain ⟨rfl, hq15⟩ := hq15
   obtain rfl := Option.some.inj hr
   exact CQ_ret _ hq15

theorem slices_ContainsFunc_uint32_uint32_of_integer_Valid_1_ok (n : Nat) (s : List Int) (r : Bool) (hr : slices_ContainsFunc_uint32_uint32_of_integer_Valid_1 n s = some r) : FnOk Tryz.prog 153 [slT (iC .u32) s, .fn 154 [] []] (.at (.bool r)) := by
 unfold slices_ContainsFunc_uint32_uint32_of_integer_Valid_1 at hr
 refine FnOk.body fine Tryz.func153 (c := (Tryz.f153.body).getD .skip) rfl (s := mkS 9 0 [(0, sU32 s), (1, .fn 154 [] [])]) (by kernel_rfl) (rs := [.tmp 4]) rfl ?_
 unfold Tryz.f153
 simp only [Option.getD_some]
 refine .seq <| .rn fine [0, 1] (mkS 9 0 [(0, sU32 s), (1, .fn 154 [] [])]) [] <| .seq ?_
 obtain ⟨v1, hc2, hr⟩ := bd hr
 refine .g1 fine (callOk_val (l := []) rfl (SnL.cons (Sn.pure rfl) (SnL.cons (Sn.pure rfl) SnL.nil)) (slices_IndexFunc_uint32_uint32_of_integer_Valid_1_ok n s v1 hc2)) <| .mu 2 <| .c0 (by kernel_rfl) (callOf_at (by kernel_rfl)) <| .mu 2 <| .done <| .ret ?_
 obtain rfl := Option.some.inj hr
 exact FinQ.r1 [aB (decide (v1 ≥ 0))]

theorem integer_Valid_inj {x' : api_Int} {x'_ : api_Int} (h : ([.agg [.at (.bool x'.Negative), slT (iC .u32) x'.Groups]] : List AV) = [.agg [.at (.bool x'_.Negative), slT (iC .u32) x'_.Groups]]) : x' = x'_ := by
 obtain ⟨_, _⟩ := x'
 obtain ⟨_, _⟩ := x'_
 simp only [List.cons.injEq, AV.agg.injEq, AV.at.injEq, Value.int.injEq, Value.bool.injEq, AV.fn.injEq, AV.pp.injEq, true_and, and_true, slT_inj_int] at h
 simp_all
theorem integer_Valid_ok (n : Nat) (x' : api_Int) (r : Bool) (hr : integer_Valid n x' = some r) : FnOk Tryz.prog 135 [.agg [.at (.bool x'.Negative), slT (iC .u32) x'.Groups]] (.at (.bool r)) := by
 unfold integer_Valid at hr
 refine FnOk.body fine Tryz.func135 (c := (Tryz.f135.body).getD .skip) rfl (s := mkS 25 0 [(0, .agg (api_Int.c x'))]) (by kernel_rfl) (rs := [.tmp 2]) rfl ?_
 unfold Tryz.f135
 simp only [Option.getD_some]
 refine .seq <| .rn fine [1] (mkS 25 0 [(1, .hp 0 0)]) [.own (api_Int.c x')] <| .seq <| .rn fine [1, 3] (mkS 25 0 [(1, .hp 0 0), (3, aI64 (x'.Groups.length : Int))]) [.own (api_Int.c x')] <| .seq <| .seq <| .rn fine [1, 3, 8] (mkS 25 0 [(1, .hp 0 0), (3, aI64 (x'.Groups.length : Int)), (8, aB (((x'.Groups.length : Int) : Int) == 0))]) [.own (api_Int.c x')] ?_
 refine .cond (t := ((x'.Groups.length : Int) : Int) == 0) (by kernel_rfl) (fun hb1 => ?_) (fun hb1 => ?_)
 ·replace hr := cd_t hb1 hr
  refine .seq <| .ru fine <| .ret ?_
  obtain rfl := Option.some.inj hr
  exact FinQ.r1 [aB (!x'.Negative)]
 ·replace hr := cd_f hb1 hr
  refine .skip <| .seq ?_
  obtain ⟨hg2, hr⟩ := gd hr
  rcases Bool.eq_false_or_eq_true (((gt x'.Groups (wrapF .i64 ((x'.Groups.length : Int) - 1))) : Int) != 0) with hb3 | hb3
  ·replace hr := cd_t hb3 hr
   obtain ⟨v4, hc5, hr⟩ := bd hr
   refine .g1 fine (callOk_val (l := []) rfl (SnL.cons (Sn.pure rfl) (SnL.cons (Sn.pure rfl) SnL.nil)) (slices_ContainsFunc_uint32_uint32_of_integer_Valid_1_ok n x'.Groups v4 hc5)) <| .mu 4 <| .p0 (v := .pp (x'.Groups.flatMap (iC .u32)) ((wrapF .i64 ((x'.Groups.length : Int) - 1)).toNat * 1)) (Eq.trans (b := ORes.ofP (guardV (inR (wrapF .i64 ((x'.Groups.length : Int) - 1)) x'.Groups.length) (.pp (x'.Groups.flatMap (iC .u32)) ((wrapF .i64 ((x'.Groups.length : Int) - 1)).toNat * 1)))) (by kernel_rfl) (ofP_guard hg2)) <| .p0 (v := aU32 (gt x'.Groups (wrapF .i64 ((x'.Groups.length : Int) - 1)))) (Eq.trans (b := ORes.ofP ((x'.Groups.flatMap (iC .u32))[(wrapF .i64 ((x'.Groups.length : Int) - 1)).toNat * 1]?)) (by kernel_rfl) (ofP_some (flat_get (iC_len _) (inR_lt hg2) (by decide : 0 < 1) (by omega : (wrapF .i64 ((x'.Groups.length : Int) - 1)).toNat * 1 = (wrapF .i64 ((x'.Groups.length : Int) - 1)).toNat * 1 + 0) (by kernel_rfl)))) <| .p0 (v := aB true) (Eq.trans (b := some (.pure (aB (((gt x'.Groups (wrapF .i64 ((x'.Groups.length : Int) - 1))) : Int) != 0)))) (by kernel_rfl) (by rw [hb3])) <| .mu 3 <| .cal (by kernel_rfl) (by kernel_rfl) (callOf_at (by kernel_rfl)) <| .mu 3 <| .done <| .ret ?_
   obtain rfl := Option.some.inj hr
   exact FinQ.r1 [aB (!v4)]
  ·replace hr := cd_f hb3 hr
   refine .r0 fine <| .mu 4 <| .p0 (v := .pp (x'.Groups.flatMap (iC .u32)) ((wrapF .i64 ((x'.Groups.length : Int) - 1)).toNat * 1)) (Eq.trans (b := ORes.ofP (guardV (inR (wrapF .i64 ((x'.Groups.length : Int) - 1)) x'.Groups.length) (.pp (x'.Groups.flatMap (iC .u32)) ((wrapF .i64 ((x'.Groups.length : Int) - 1)).toNat * 1)))) (by kernel_rfl) (ofP_guard hg2)) <| .p0 (v := aU32 (gt x'.Groups (wrapF .i64 ((x'.Groups.length : Int) - 1)))) (Eq.trans (b := ORes.ofP ((x'.Groups.flatMap (iC .u32))[(wrapF .i64 ((x'.Groups.length : Int) - 1)).toNat * 1]?)) (by kernel_rfl) (ofP_some (flat_get (iC_len _) (inR_lt hg2) (by decide : 0 < 1) (by omega : (wrapF .i64 ((x'.Groups.length : Int) - 1)).toNat * 1 = (wrapF .i64 ((x'.Groups.length : Int) - 1)).toNat * 1 + 0) (by kernel_rfl)))) <| .p0 (v := aB false) (Eq.trans (b := some (.pure (aB (((gt x'.Groups (wrapF .i64 ((x'.Groups.length : Int) - 1))) : Int) != 0)))) (by kernel_rfl) (by rw [hb3])) <| .mu 7 <| .done <| .ret ?_
   obtain rfl := Option.some.inj hr
   exact FinQ.r1 [aB false]

theorem fraction_counted_inj {n' : api_Int} {n'_ : api_Int} (h : ([.agg [.at (.bool n'.Negative), slT (iC .u32) n'.Groups]] : List AV) = [.agg [.at (.bool n'_.Negative), slT (iC .u32) n'_.Groups]]) : n' = n'_ := by
 obtain ⟨_, _⟩ := n'
 obtain ⟨_, _⟩ := n'_
 simp only [List.cons.injEq, AV.agg.injEq, AV.at.injEq, Value.int.injEq, Value.bool.injEq, AV.fn.injEq, AV.pp.injEq, true_and, and_true, slT_inj_int] at h
 simp_all
theorem fraction_counted_ok (n : Nat) (n' : api_Int) (r : api_Int) (hr : fraction_counted n n' = some r) : FnOk Tryz.prog 137 [.agg [.at (.bool n'.Negative), slT (iC .u32) n'.Groups]] (.agg [.at (.bool r.Negative), slT (iC .u32) r.Groups]) := by
 unfold fraction_counted at hr
 refine FnOk.body fine Tryz.func137 (c := (Tryz.f137.body).getD .skip) rfl (s := mkS 7 0 [(0, .agg (api_Int.c n'))]) (by kernel_rfl) (rs := [.cell 2 35]) rfl ?_
 unfold Tryz.f137
 simp only [Option.getD_some]
 refine .seq <| .rn fine [1, 2] (mkS 7 0 [(1, .hp 0 0), (2, .hp 1 0)]) [.own (api_Int.c n'), .own [aB false, .at (.slice none 0 0)]] <| .seq <| .seq ?_
 obtain ⟨v1, hc2, hr⟩ := bd hr
 refine .g1 fine (callOk_val (l := []) rfl (SnL.cons (Sn.pure rfl) SnL.nil) (integer_Valid_ok n n' v1 hc2)) <| .mu 1 <| .c0 (by kernel_rfl) (callOf_at (by kernel_rfl)) <| .done <| .n1 [1, 2, 4] (mkS 7 0 [(1, .hp 0 0), (2, .hp 1 0), (4, aB v1)]) [.own (api_Int.c n'), .own [aB false, .at (.slice none 0 0)]] ?_
 refine .cond (t := v1) (by kernel_rfl) (fun hb3 => ?_) (fun hb3 => ?_)
 ·replace hr := cd_t hb3 hr
  refine .seq <| .rn fine [2] (mkS 7 0 [(2, .hp 1 0)]) [.own (api_Int.c n'), .own (api_Int.c n')] <| .ret ?_
  obtain rfl := Option.some.inj hr
  exact FinQ.r1 [.agg (api_Int.c n')]
 ·replace hr := cd_f hb3 hr
  refine .skip <| .seq ?_
  obtain ⟨v4, hc5, hr⟩ := bd hr
  refine .g1 fine (callOk_ref (l := []) (SnL.cons (Sn.pure rfl) SnL.nil) (integer_Of_ok n 0 v4 hc5)) <| .c0 (by kernel_rfl) (callOf_at (by kernel_rfl)) <| .mu 1 <| .done <| .n1 [2] (mkS 7 0 [(2, .hp 1 0)]) [.own (api_Int.c n'), .own (api_Int.c v4)] <| .ret ?_
  obtain rfl := Option.some.inj hr
  exact FinQ.r1 [.agg (api_Int.c v4)]

theorem integer_groups_inj {x' : api_Int} {x'_ : api_Int} (h : ([.agg [.at (.bool x'.Negative), slT (iC .u32) x'.Groups]] : List AV) = [.agg [.at (.bool x'_.Negative), slT (iC .u32) x'_.Groups]]) : x' = x'_ := by
 obtain ⟨_, _⟩ := x'
 obtain ⟨_, _⟩ := x'_
 simp only [List.cons.injEq, AV.agg.injEq, AV.at.injEq, Value.int.injEq, Value.bool.injEq, AV.fn.injEq, AV.pp.injEq, true_and, and_true, slT_inj_int] at h
 simp_all
theorem integer_groups_ok (n : Nat) (x' : api_Int) (r : List Int) (hr : integer_groups n x' = some r) : FnOk Tryz.prog 106 [.agg [.at (.bool x'.Negative), slT (iC .u32) x'.Groups]] (slT (iC .u32) r) := by
 unfold integer_groups at hr
 refine FnOk.body fine Tryz.func106 (c := (Tryz.f106.body).getD .skip) rfl (s := mkS 8 0 [(0, .agg (api_Int.c x'))]) (by kernel_rfl) (rs := [.tmp 2]) rfl ?_
 unfold Tryz.f106
 simp only [Option.getD_some]
 refine .seq <| .rn fine [1] (mkS 8 0 [(1, .hp 0 0)]) [.own (api_Int.c x')] <| .seq <| .seq ?_
 obtain ⟨v1, hc2, hr⟩ := bd hr
 refine .g1 fine (callOk_val (l := []) rfl (SnL.cons (Sn.pure rfl) SnL.nil) (integer_Valid_ok n x' v1 hc2)) <| .mu 1 <| .c0 (by kernel_rfl) (callOf_at (by kernel_rfl)) <| .mu 1 <| .done <| .n1 [1, 5] (mkS 8 0 [(1, .hp 0 0), (5, aB (!v1))]) [.own (api_Int.c x')] ?_
 refine .cond (t := !v1) (by kernel_rfl) (fun hb3 => ?_) (fun hb3 => ?_)
 ·replace hr := cd_t hb3 hr
  refine .seq <| .rn fine [2] (mkS 8 0 [(2, .at (.slice none 0 0))]) [.own (api_Int.c x')] <| .ret ?_
  obtain rfl := Option.some.inj hr
  exact FinQ.ret (vs := [.at (.slice none 0 0)]) (by kernel_rfl) Sn.nilsl
 ·replace hr := cd_f hb3 hr
  refine .skip <| .seq <| .ru fine <| .ret ?_
  obtain rfl := Option.some.inj hr
  exact FinQ.r1 [sU32 x'.Groups]

theorem integer_Sign_inj {x' : api_Int} {x'_ : api_Int} (h : ([.agg [.at (.bool x'.Negative), slT (iC .u32) x'.Groups]] : List AV) = [.agg [.at (.bool x'_.Negative), slT (iC .u32) x'_.Groups]]) : x' = x'_ := by
 obtain ⟨_, _⟩ := x'
 obtain ⟨_, _⟩ := x'_
 simp only [List.cons.injEq, AV.agg.injEq, AV.at.injEq, Value.int.injEq, Value.bool.injEq, AV.fn.injEq, AV.pp.injEq, true_and, and_true, slT_inj_int] at h
 simp_all
theorem integer_Sign_ok (n : Nat) (x' : api_Int) (r : Int) (hr : integer_Sign n x' = some r) : FnOk Tryz.prog 69 [.agg [.at (.bool x'.Negative), slT (iC .u32) x'.Groups]] (.at (.int .i64 r)) := by
 unfold integer_Sign at hr
 refine FnOk.body fine Tryz.func69 (c := (Tryz.f69.body).getD .skip) rfl (s := mkS 11 0 [(0, .agg (api_Int.c x'))]) (by kernel_rfl) (rs := [.tmp 2]) rfl ?_
 unfold Tryz.f69
 simp only [Option.getD_some]
 refine .seq <| .rn fine [1] (mkS 11 0 [(1, .hp 0 0)]) [.own (api_Int.c x')] <| .seq <| .block <| .seq ?_
 obtain ⟨v1, hc2, hr⟩ := bd hr
 refine .g1 fine (callOk_ref (l := []) (SnL.cons (Sn.pure rfl) SnL.nil) (integer_groups_ok n x' v1 hc2)) <| .mu 1 <| .c0 (by kernel_rfl) (callOf_at (by kernel_rfl)) <| .mu 3 <| .done <| .n1 [1, 3] (mkS 11 0 [(1, .hp 0 0), (3, aB (((v1.length : Int) : Int) == 0))]) [.own (api_Int.c x')] ?_
 refine .cond (t := ((v1.length : Int) : Int) == 0) (by kernel_rfl) (fun hb3 => ?_) (fun hb3 => ?_)
 ·replace hr := cd_t hb3 hr
  refine .seq <| .ru fine <| .ret ?_
  obtain rfl := Option.some.inj hr
  exact FinQ.r1 [aI64 0]
 ·replace hr := cd_f hb3 hr
  refine .seq <| .rn fine [8] (mkS 11 0 [(8, aB x'.Negative)]) [.own (api_Int.c x')] ?_
  refine .cond (t := x'.Negative) (by kernel_rfl) (fun hb4 => ?_) (fun hb4 => ?_)
  ·replace hr := cd_t hb4 hr
   refine .seq <| .ru fine <| .ret ?_
   obtain rfl := Option.some.inj hr
   exact FinQ.r1 [aI64 (-1)]
  ·replace hr := cd_f hb4 hr
   refine .skip <| .pop <| .seq <| .ru fine <| .ret ?_
   obtain rfl := Option.some.inj hr
   exact FinQ.r1 [aI64 1]

theorem slices_Clone_uint32_uint32_ok (n : Nat) (s : List Int) (r : List Int) (hr : slices_Clone_uint32_uint32 n s = some r) : FnOk Tryz.prog 156 [slT (iC .u32) s] (slT (iC .u32) r) := by
 unfold slices_Clone_uint32_uint32 at hr
 refine FnOk.body fine Tryz.func156 (c := (Tryz.f156.body).getD .skip) rfl (s := mkS 8 0 [(0, sU32 s)]) (by kernel_rfl) (rs := [.tmp 2]) rfl ?_
 unfold Tryz.f156
 simp only [Option.getD_some]
 refine .seq <| .rn fine [0] (mkS 8 0 [(0, sU32 s)]) [] <| .seq <| .seq ?_
 refine .nilcase (t := 0) (cs := s.flatMap (iC .u32)) (len := s.length) (by kernel_rfl) (fun hn3 => ?_) ?_
 ·obtain rfl : s = [] := List.length_eq_zero_iff.1 hn3
  have hx := gd hr; clear hr; obtain ⟨_, hr⟩ := hx
  have hx := gd hr; clear hr; obtain ⟨_, hr⟩ := hx
  refine .rn fine [0, 4] (mkS 8 0 [(0, .at (.slice none 0 0)), (4, aB true)]) [] <| .cT (by kernel_rfl) <| .seq <| .rn fine [2] (mkS 8 0 [(2, .at (.slice none 0 0))]) [] <| .ret ?_
  obtain rfl := Option.some.inj hr
  exact FinQ.ret (vs := [.at (.slice none 0 0)]) (by kernel_rfl) Sn.nilsl
 ·refine .rn fine [0, 4] (mkS 8 0 [(0, .sl false (s.flatMap (iC .u32)) s.length), (4, aB false)]) [] <| .cF (by kernel_rfl) <| .skip <| .seq ?_
  obtain ⟨hg1, hr⟩ := gd hr
  obtain ⟨hg2, hr⟩ := gd hr
  refine .r0 fine <| .mu 2 <| .e0 (v := .hs 1 0 s.length 1) (ws := [(0, .dead), (1, .own (s.flatMap (iC .u32)))]) (Eq.trans (b := appS (decide (((s.flatMap (iC .u32))).length = s.length * 1)) (s.flatMap (iC .u32)) s.length (fun z1 z2 => guardO (decide (0 + 0 * 1 ≤ (([] : List Int).flatMap (iC .u32)).length) && decide ((0 + z2) * 4 ≤ 140737488355328) && decide (0 + z2 ≤ 4611686018427387904)) (some (.eff (.hs 1 0 (0 + z2) 1) [(0, .dead), (1, .own (((([] : List Int).flatMap (iC .u32)).drop 0).take (0 * 1) ++ z1))])))) (by kernel_rfl) (appS_t (flat_lenB (iC_len _)) rfl (app_own (l := ([] : List Int)) (xs := s) (iC_len _) rfl rfl rfl hg1 hg2))) <| .mu 1 <| .done <| .n1 [2] (mkS 8 0 [(2, .hs 1 0 s.length 1)]) [.dead, .own (s.flatMap (iC .u32))] <| .ret ?_
  obtain rfl := Option.some.inj hr
  exact FinQ.ret (vs := [.hs 1 0 s.length 1]) (by kernel_rfl) (Sn.hs rfl (.inl rfl) (SnC.pure (ids_flat (iC_pure _) _)) (fun h => flat_nil0 h))

theorem integer_Neg_inj {x' : api_Int} {x'_ : api_Int} (h : ([.agg [.at (.bool x'.Negative), slT (iC .u32) x'.Groups]] : List AV) = [.agg [.at (.bool x'_.Negative), slT (iC .u32) x'_.Groups]]) : x' = x'_ := by
 obtain ⟨_, _⟩ := x'
 obtain ⟨_, _⟩ := x'_
 simp only [List.cons.injEq, AV.agg.injEq, AV.at.injEq, Value.int.injEq, Value.bool.injEq, AV.fn.injEq, AV.pp.injEq, true_and, and_true, slT_inj_int] at h
 simp_all
theorem integer_Neg_ok (n : Nat) (x' : api_Int) (r : api_Int) (hr : integer_Neg n x' = some r) : FnOk Tryz.prog 140 [.agg [.at (.bool x'.Negative), slT (iC .u32) x'.Groups]] (.agg [.at (.bool r.Negative), slT (iC .u32) r.Groups]) := by
 unfold integer_Neg at hr
 refine FnOk.body fine Tryz.func140 (c := (Tryz.f140.body).getD .skip) rfl (s := mkS 10 0 [(0, .agg (api_Int.c x'))]) (by kernel_rfl) (rs := [.cell 2 35]) rfl ?_
 unfold Tryz.f140
 simp only [Option.getD_some]
 refine .seq <| .rn fine [1, 2] (mkS 10 0 [(1, .hp 0 0), (2, .hp 1 0)]) [.own (api_Int.c x'), .own [aB false, .at (.slice none 0 0)]] <| .seq ?_
 obtain ⟨v1, hc2, hr⟩ := bd hr
 obtain ⟨v3, hc4, hr⟩ := bd hr
 obtain ⟨v5, hc6, hr⟩ := bd hr
 refine .regionT fine (callOf_cons (callOk_ref (H := [.own (api_Int.c x'), .own [aB false, .at (.slice none 0 0)]]) (l := []) (SnL.cons (Sn.pure rfl) SnL.nil) (integer_groups_ok n x' v1 hc2)) (callOf_cons (callOk_ref (H := [.own (api_Int.c x'), .own [aB false, .at (.slice none 0 0)]]) (l := []) (SnL.cons (Sn.pure rfl) SnL.nil) (slices_Clone_uint32_uint32_ok n v1 v3 hc4)) (callOf_cons (callOk_ref (H := [.own (api_Int.c x'), .own [aB false, .at (.slice none 0 0)]]) (l := []) (SnL.cons (Sn.pure rfl) (SnL.cons (Sn.pure rfl) SnL.nil)) (integer_made_ok n (!x'.Negative) v3 v5 hc6)) callOf_nil))) <| .mu 4 <| .cal (by kernel_rfl) (by kernel_rfl) (callOf_at (by kernel_rfl)) (by kernel_rfl) <| .cal (by kernel_rfl) (by kernel_rfl) (callOf_skip (fun h _ => absurd (show (156 : Nat) = 106 from h) (by decide)) (callOf_at (by kernel_rfl))) (by kernel_rfl) <| .cal (by kernel_rfl) (by kernel_rfl) (callOf_skip (fun h _ => absurd (show (103 : Nat) = 106 from h) (by decide)) (callOf_skip (fun h _ => absurd (show (103 : Nat) = 156 from h) (by decide)) (callOf_at (by kernel_rfl)))) (by kernel_rfl) <| .mu 1 ?_
 refine .done ⟨by kernel_rfl, ?_⟩
 refine .n1 [2] (mkS 10 0 [(2, .hp 1 0)]) [.own (api_Int.c x'), .own (api_Int.c v5)] <| .ret ?_
 obtain rfl := Option.some.inj hr
 exact FinQ.r1 [.agg (api_Int.c v5)]



theorem integer_short_ok (n : Nat) (a : List Int) (d : Int) (r : List Int × Int) (hr : integer_short n a d = some r) : FnOk Tryz.prog 166 [slT (iC .u32) a, .at (.int .u32 d)] (.tup [slT (iC .u32) r.1, .at (.int .u32 r.2)]) := by cases hr

theorem integer_long_ok (n : Nat) (a : List Int) (b : List Int) (r : List Int × List Int) (hr : integer_long n a b = some r) : FnOk Tryz.prog 167 [slT (iC .u32) a, slT (iC .u32) b] (.tup [slT (iC .u32) r.1, slT (iC .u32) r.2]) := by cases hr

theorem integer_over_ok (n : Nat) (a : List Int) (b : List Int) (r : List Int × List Int) (hr : integer_over n a b = some r) : FnOk Tryz.prog 158 [slT (iC .u32) a, slT (iC .u32) b] (.tup [slT (iC .u32) r.1, slT (iC .u32) r.2]) := by
 unfold integer_over at hr
 refine FnOk.body fine Tryz.func158 (c := (Tryz.f158.body).getD .skip) rfl (s := mkS 59 0 [(0, sU32 a), (1, sU32 b)]) (by kernel_rfl) (rs := [.tmp 4, .tmp 5]) rfl ?_
 unfold Tryz.f158
 simp only [Option.getD_some]
 refine .seq <| .rn fine [0, 1] (mkS 59 0 [(0, sU32 a), (1, sU32 b)]) [] <| .seq <| .seq ?_
 obtain ⟨v1, hc2, hr⟩ := bd hr
 refine .g1 fine (callOk_val (l := []) rfl (SnL.cons (Sn.pure rfl) (SnL.cons (Sn.pure rfl) SnL.nil)) (integer_compare_ok n a b v1 hc2)) <| .mu 2 <| .c0 (by kernel_rfl) (callOf_at (by kernel_rfl)) <| .mu 1 <| .done <| .n1 [0, 1, 15] (mkS 59 0 [(0, sU32 a), (1, sU32 b), (15, aB (decide (v1 < 0)))]) [] ?_
 refine .cond (t := decide (v1 < 0)) (by kernel_rfl) (fun hb3 => ?_) (fun hb3 => ?_)
 ·replace hr := cd_t hb3 hr
  refine .seq <| .rn fine [4, 5] (mkS 59 0 [(4, .at (.slice none 0 0)), (5, sU32 a)]) [] <| .ret ?_
  obtain rfl := Option.some.inj hr
  exact FinQ.ret (vs := [.at (.slice none 0 0), sU32 a]) (by kernel_rfl) (Sn.tup (SnL.cons Sn.nilsl (SnL.cons (Sn.pure rfl) SnL.nil)))
 ·replace hr := cd_f hb3 hr
  refine .skip <| .seq ?_
  obtain ⟨v4, hc5, hr⟩ := bd hr
  refine .g1 fine (callOk_val (l := []) rfl (SnL.cons (Sn.pure rfl) SnL.nil) (integer_word_ok n a v4 hc5)) <| .mu 1 <| .c0 (by kernel_rfl) (callOf_at (by kernel_rfl)) <| .mu 5 <| .done <| .n1 [0, 1, 6, 7] (mkS 59 0 [(0, sU32 a), (1, sU32 b), (6, aU64 v4.1), (7, aB v4.2)]) [] <| .seq ?_
  obtain ⟨v6, hc7, hr⟩ := bd hr
  refine .g1 fine (callOk_val (l := []) rfl (SnL.cons (Sn.pure rfl) SnL.nil) (integer_word_ok n b v6 hc7)) <| .mu 1 <| .c0 (by kernel_rfl) (callOf_at (by kernel_rfl)) <| .mu 5 <| .done <| .n1 [0, 1, 6, 7, 8, 9] (mkS 59 0 [(0, sU32 a), (1, sU32 b), (6, aU64 v4.1), (7, aB v4.2), (8, aU64 v6.1), (9, aB v6.2)]) [] <| .seq <| .seq ?_
  rcases Bool.eq_false_or_eq_true v4.2 with hb8 | hb8
  ·replace hr := cd_t hb8 hr
   refine .r0 fine <| .p0 (v := aB true) (Eq.trans (b := some (.pure (aB v4.2))) (by kernel_rfl) (by rw [hb8])) <| .mu 3 <| .done <| .n1 [0, 1, 6, 8, 30] (mkS 59 0 [(0, sU32 a), (1, sU32 b), (6, aU64 v4.1), (8, aU64 v6.1), (30, aB v6.2)]) [] ?_
   refine .cond (t := v6.2) (by kernel_rfl) (fun hb9 => ?_) (fun hb9 => ?_)
   ·replace hr := cd_t hb9 hr
    refine .seq ?_
    obtain ⟨hg10, hr⟩ := gd hr
    obtain ⟨v11, hc12, hr⟩ := bd hr
    obtain ⟨v13, hc14, hr⟩ := bd hr
    refine .regionT fine (callOf_cons (callOk_ref (H := []) (l := []) (SnL.cons (Sn.pure rfl) SnL.nil) (integer_split_ok n (wrapF .u64 (v4.1.tdiv v6.1)) v11 hc12)) (callOf_cons (callOk_ref (H := []) (l := []) (SnL.cons (Sn.pure rfl) SnL.nil) (integer_split_ok n (v4.1.tmod v6.1) v13 hc14)) callOf_nil)) <| .mu 2 <| .pure (v := aU64 (wrapF .u64 (v4.1.tdiv v6.1))) (by kernel_rfl) (op_quo (x := v4.1) (y := v6.1) (by kernel_rfl) (by kernel_rfl) hg10) (by kernel_rfl) <| .cal (by kernel_rfl) (by kernel_rfl) (callOf_at (by kernel_rfl)) (by kernel_rfl) <| .mu 2 <| .pure (v := aU64 (v4.1.tmod v6.1)) (by kernel_rfl) (op_rem (x := v4.1) (y := v6.1) (by kernel_rfl) (by kernel_rfl) hg10) (by kernel_rfl) <| .cal (by kernel_rfl) (by kernel_rfl) (callOf_skip (fun _ h => by obtain e0 := integer_split_inj h; rw [show v13 = v11 from Option.some.inj (hc14.symm.trans ((show integer_split n (v4.1.tmod v6.1) = integer_split n (wrapF .u64 (v4.1.tdiv v6.1)) from (congr rfl e0)).trans hc12))]) (callOf_at (by kernel_rfl))) (by kernel_rfl) <| .mu 2 ?_
    refine .done ⟨by kernel_rfl, ?_⟩
    refine .ret ?_
    obtain rfl := Option.some.inj hr
    exact FinQ.ret (vs := [sU32 v11, sU32 v13]) (by kernel_rfl) (Sn.tup (SnL.cons (Sn.pure rfl) (SnL.cons (Sn.pure rfl) SnL.nil)))
   ·replace hr := cd_f hb9 hr
    refine .skip <| .seq <| .seq <| .rn fine [0, 1, 41] (mkS 59 0 [(0, sU32 a), (1, sU32 b), (41, aB (((b.length : Int) : Int) == 1))]) [] ?_
    refine .cond (t := ((b.length : Int) : Int) == 1) (by kernel_rfl) (fun hb15 => ?_) (fun hb15 => ?_)
    ·replace hr := cd_t hb15 hr
     refine .seq ?_
     obtain ⟨hg16, hr⟩ := gd hr
     obtain ⟨v17, hc18, hr⟩ := bd hr
     refine .g1 fine (callOk_ref (l := []) (SnL.cons (Sn.pure rfl) (SnL.cons (Sn.pure rfl) SnL.nil)) (integer_short_ok n a (gt b 0) v17 hc18)) <| .mu 2 <| .p0 (v := .pp (b.flatMap (iC .u32)) ((0 : Int).toNat * 1)) (Eq.trans (b := ORes.ofP (guardV (inR 0 b.length) (.pp (b.flatMap (iC .u32)) ((0 : Int).toNat * 1)))) (by kernel_rfl) (ofP_guard hg16)) <| .p0 (v := aU32 (gt b 0)) (Eq.trans (b := ORes.ofP ((b.flatMap (iC .u32))[(0 : Int).toNat * 1]?)) (by kernel_rfl) (ofP_some (flat_get (iC_len _) (inR_lt hg16) (by decide : 0 < 1) (by omega : (0 : Int).toNat * 1 = (0 : Int).toNat * 1 + 0) (by kernel_rfl)))) <| .c0 (by kernel_rfl) (callOf_at (by kernel_rfl)) <| .mu 5 <| .done <| .n1 [10, 11] (mkS 59 0 [(10, sU32 v17.1), (11, aU32 v17.2)]) [] <| .seq ?_
     obtain ⟨v19, hc20, hr⟩ := bd hr
     refine .g1 fine (callOk_ref (l := []) (SnL.cons (Sn.pure rfl) SnL.nil) (integer_split_ok n (wrapF .u64 v17.2) v19 hc20)) <| .mu 3 <| .c0 (by kernel_rfl) (callOf_at (by kernel_rfl)) <| .mu 2 <| .done <| .ret ?_
     obtain rfl := Option.some.inj hr
     exact FinQ.ret (vs := [sU32 v17.1, sU32 v19]) (by kernel_rfl) (Sn.tup (SnL.cons (Sn.pure rfl) (SnL.cons (Sn.pure rfl) SnL.nil)))
    ·replace hr := cd_f hb15 hr
     refine .skip <| .seq ?_
     obtain ⟨v21, hc22, hr⟩ := bd hr
     refine .g1 fine (callOk_ref (l := []) (SnL.cons (Sn.pure rfl) (SnL.cons (Sn.pure rfl) SnL.nil)) (integer_long_ok n a b v21 hc22)) <| .mu 2 <| .c0 (by kernel_rfl) (callOf_at (by kernel_rfl)) <| .mu 4 <| .done <| .ret ?_
     obtain rfl := Option.some.inj hr
     exact FinQ.ret (vs := [sU32 v21.1, sU32 v21.2]) (by kernel_rfl) (Sn.tup (SnL.cons (Sn.pure rfl) (SnL.cons (Sn.pure rfl) SnL.nil)))
  ·replace hr := cd_f hb8 hr
   refine .r0 fine <| .p0 (v := aB false) (Eq.trans (b := some (.pure (aB v4.2))) (by kernel_rfl) (by rw [hb8])) <| .mu 3 <| .done <| .n1 [0, 1, 6, 8, 30] (mkS 59 0 [(0, sU32 a), (1, sU32 b), (6, aU64 v4.1), (8, aU64 v6.1), (30, aB false)]) [] <| .cF (by kernel_rfl) <| .skip <| .seq <| .seq <| .rn fine [0, 1, 41] (mkS 59 0 [(0, sU32 a), (1, sU32 b), (41, aB (((b.length : Int) : Int) == 1))]) [] ?_
   refine .cond (t := ((b.length : Int) : Int) == 1) (by kernel_rfl) (fun hb23 => ?_) (fun hb23 => ?_)
   ·replace hr := cd_t hb23 hr
    refine .seq ?_
    obtain ⟨hg24, hr⟩ := gd hr
    obtain ⟨v25, hc26, hr⟩ := bd hr
    refine .g1 fine (callOk_ref (l := []) (SnL.cons (Sn.pure rfl) (SnL.cons (Sn.pure rfl) SnL.nil)) (integer_short_ok n a (gt b 0) v25 hc26)) <| .mu 2 <| .p0 (v := .pp (b.flatMap (iC .u32)) ((0 : Int).toNat * 1)) (Eq.trans (b := ORes.ofP (guardV (inR 0 b.length) (.pp (b.flatMap (iC .u32)) ((0 : Int).toNat * 1)))) (by kernel_rfl) (ofP_guard hg24)) <| .p0 (v := aU32 (gt b 0)) (Eq.trans (b := ORes.ofP ((b.flatMap (iC .u32))[(0 : Int).toNat * 1]?)) (by kernel_rfl) (ofP_some (flat_get (iC_len _) (inR_lt hg24) (by decide : 0 < 1) (by omega : (0 : Int).toNat * 1 = (0 : Int).toNat * 1 + 0) (by kernel_rfl)))) <| .c0 (by kernel_rfl) (callOf_at (by kernel_rfl)) <| .mu 5 <| .done <| .n1 [10, 11] (mkS 59 0 [(10, sU32 v25.1), (11, aU32 v25.2)]) [] <| .seq ?_
    obtain ⟨v27, hc28, hr⟩ := bd hr
    refine .g1 fine (callOk_ref (l := []) (SnL.cons (Sn.pure rfl) SnL.nil) (integer_split_ok n (wrapF .u64 v25.2) v27 hc28)) <| .mu 3 <| .c0 (by kernel_rfl) (callOf_at (by kernel_rfl)) <| .mu 2 <| .done <| .ret ?_
    obtain rfl := Option.some.inj hr
    exact FinQ.ret (vs := [sU32 v25.1, sU32 v27]) (by kernel_rfl) (Sn.tup (SnL.cons (Sn.pure rfl) (SnL.cons (Sn.pure rfl) SnL.nil)))
   ·replace hr := cd_f hb23 hr
    refine .skip <| .seq ?_
    obtain ⟨v29, hc30, hr⟩ := bd hr
    refine .g1 fine (callOk_ref (l := []) (SnL.cons (Sn.pure rfl) (SnL.cons (Sn.pure rfl) SnL.nil)) (integer_long_ok n a b v29 hc30)) <| .mu 2 <| .c0 (by kernel_rfl) (callOf_at (by kernel_rfl)) <| .mu 4 <| .done <| .ret ?_
    obtain rfl := Option.some.inj hr
    exact FinQ.ret (vs := [sU32 v29.1, sU32 v29.2]) (by kernel_rfl) (Sn.tup (SnL.cons (Sn.pure rfl) (SnL.cons (Sn.pure rfl) SnL.nil)))

theorem integer_Gcd_ok (n : Nat) (x' : api_Int) (y : api_Int) (r : api_Int) (hr : integer_Gcd n x' y = some r) : FnOk Tryz.prog 141 [.agg [.at (.bool x'.Negative), slT (iC .u32) x'.Groups], .agg [.at (.bool y.Negative), slT (iC .u32) y.Groups]] (.agg [.at (.bool r.Negative), slT (iC .u32) r.Groups]) := by
 unfold integer_Gcd at hr
 refine FnOk.body fine Tryz.func141 (c := (Tryz.f141.body).getD .skip) rfl (s := mkS 54 0 [(0, .agg (api_Int.c x')), (1, .agg (api_Int.c y))]) (by kernel_rfl) (rs := [.cell 4 35]) rfl ?_
 unfold Tryz.f141
 simp only [Option.getD_some]
 refine .seq <| .rn fine [2, 3, 4] (mkS 54 0 [(2, .hp 0 0), (3, .hp 1 0), (4, .hp 2 0)]) [.own (api_Int.c x'), .own (api_Int.c y), .own [aB false, .at (.slice none 0 0)]] <| .seq ?_
 obtain ⟨v1, hc2, hr⟩ := bd hr
 obtain ⟨v3, hc4, hr⟩ := bd hr
 refine .regionT fine (callOf_cons (callOk_ref (H := [.own (api_Int.c x'), .own (api_Int.c y), .own [aB false, .at (.slice none 0 0)]]) (l := []) (SnL.cons (Sn.pure rfl) SnL.nil) (integer_groups_ok n x' v1 hc2)) (callOf_cons (callOk_ref (H := [.own (api_Int.c x'), .own (api_Int.c y), .own [aB false, .at (.slice none 0 0)]]) (l := []) (SnL.cons (Sn.pure rfl) SnL.nil) (integer_groups_ok n y v3 hc4)) callOf_nil)) <| .mu 1 <| .cal (by kernel_rfl) (by kernel_rfl) (callOf_at (by kernel_rfl)) (by kernel_rfl) <| .mu 1 <| .cal (by kernel_rfl) (by kernel_rfl) (callOf_skip (fun _ h => by obtain e0 := integer_groups_inj h; rw [show v3 = v1 from Option.some.inj (hc4.symm.trans ((show integer_groups n y = integer_groups n x' from (congr rfl e0)).trans hc2))]) (callOf_at (by kernel_rfl))) (by kernel_rfl) <| .mu 2 ?_
 refine .done ⟨by kernel_rfl, ?_⟩
 refine .n1 [4, 5, 6] (mkS 54 0 [(4, .hp 2 0), (5, sU32 v1), (6, sU32 v3)]) [.own (api_Int.c x'), .own (api_Int.c y), .own [aB false, .at (.slice none 0 0)]] <| .seq <| .block ?_
 replace hr := bd hr; obtain ⟨o61, hL62, hr⟩ := hr
 refine .loopO (σ := fun z0 => match z0 with | (a_5, b_6) => ⟨mkS 54 0 [(4, .hp 0 0), (5, sU32 a_5), (6, sU32 b_6)], [.own [aB false, .at (.slice none 0 0)]]⟩) (Q := fun x st' => match (generalizing := false) o61 with | .inl a_33 => x = .exit 0 ∧ Wk 0 st' ⟨mkS 54 0 [(4, .hp 0 0), (5, sU32 a_33)], [.own [aB false, .at (.slice none 0 0)]]⟩ | .inr (r0) => x = .ret ∧ FinQ Tryz.prog [.cell 4 35] (.agg (api_Int.c r0)) .ret st') hL62 ((Wk.gc [4, 5, 6] [(2, true)] rfl trivial).to (by kernel_rfl)) ?_ ?_
 ·clear hr
  rintro m ⟨a_5, b_6⟩ hr
  show CQ _ _ _ _ _ ⟨_, _⟩
  refine .seq <| .seq <| .rn fine [4, 5, 6, 19] (mkS 54 0 [(4, .hp 0 0), (5, sU32 a_5), (6, sU32 b_6), (19, aB (decide ((b_6.length : Int) > 0)))]) [.own [aB false, .at (.slice none 0 0)]] ?_
  refine .cond (t := decide ((b_6.length : Int) > 0)) (by kernel_rfl) (fun hb35 => ?_) (fun hb35 => ?_)
  ·replace hr := cd_t hb35 hr
   refine .skip <| .block <| .seq ?_
   obtain ⟨v36, hc37, hr⟩ := bd hr
   refine .g1 fine (callOk_val (l := []) rfl (SnL.cons (Sn.pure rfl) SnL.nil) (integer_word_ok n a_5 v36 hc37)) <| .mu 1 <| .c0 (by kernel_rfl) (callOf_at (by kernel_rfl)) <| .mu 5 <| .done <| .n1 [4, 5, 6, 7, 8] (mkS 54 0 [(4, .hp 0 0), (5, sU32 a_5), (6, sU32 b_6), (7, aU64 v36.1), (8, aB v36.2)]) [.own [aB false, .at (.slice none 0 0)]] <| .seq ?_
   obtain ⟨v38, hc39, hr⟩ := bd hr
   refine .g1 fine (callOk_val (l := []) rfl (SnL.cons (Sn.pure rfl) SnL.nil) (integer_word_ok n b_6 v38 hc39)) <| .mu 1 <| .c0 (by kernel_rfl) (callOf_at (by kernel_rfl)) <| .mu 5 <| .done <| .n1 [4, 5, 6, 7, 8, 9, 10] (mkS 54 0 [(4, .hp 0 0), (5, sU32 a_5), (6, sU32 b_6), (7, aU64 v36.1), (8, aB v36.2), (9, aU64 v38.1), (10, aB v38.2)]) [.own [aB false, .at (.slice none 0 0)]] <| .seq <| .seq ?_
   rcases Bool.eq_false_or_eq_true v36.2 with hb40 | hb40
   ·replace hr := cd_t hb40 hr
    refine .r0 fine <| .p0 (v := aB true) (Eq.trans (b := some (.pure (aB v36.2))) (by kernel_rfl) (by rw [hb40])) <| .mu 3 <| .done <| .n1 [4, 5, 6, 7, 9, 33] (mkS 54 0 [(4, .hp 0 0), (5, sU32 a_5), (6, sU32 b_6), (7, aU64 v36.1), (9, aU64 v38.1), (33, aB v38.2)]) [.own [aB false, .at (.slice none 0 0)]] ?_
    refine .cond (t := v38.2) (by kernel_rfl) (fun hb41 => ?_) (fun hb41 => ?_)
    ·replace hr := cd_t hb41 hr
     refine .seq <| .block ?_
     replace hr := bd hr; obtain ⟨m_46, hL51, hr⟩ := hr
     refine .loopO (σ := fun z0 => match z0 with | (m_42, n_43) => ⟨mkS 54 0 [(4, .hp 0 0), (7, aU64 m_42), (9, aU64 n_43)], [.own [aB false, .at (.slice none 0 0)]]⟩) (Q := fun x st' => x = .exit 2 ∧ Wk 0 st' ⟨mkS 54 0 [(4, .hp 0 0), (7, aU64 m_46)], [.own [aB false, .at (.slice none 0 0)]]⟩) hL51 ((Wk.gc [4, 7, 9] [(0, true)] rfl trivial).to (by kernel_rfl)) ?_ ?_
     ·clear hr
      rintro m ⟨m_42, n_43⟩ hr
      show CQ _ _ _ _ _ ⟨_, _⟩
      refine .seq <| .seq <| .rn fine [4, 7, 9, 35] (mkS 54 0 [(4, .hp 0 0), (7, aU64 m_42), (9, aU64 n_43), (35, aB (decide (n_43 > 0)))]) [.own [aB false, .at (.slice none 0 0)]] ?_
      refine .cond (t := decide (n_43 > 0)) (by kernel_rfl) (fun hb48 => ?_) (fun hb48 => ?_)
      ·replace hr := cd_t hb48 hr
       refine .skip <| .block ?_
       obtain ⟨hg49, hr⟩ := gd hr
       refine .regionT fine callOf_nil <| .mu 3 <| .pure (v := aU64 (m_42.tmod n_43)) (by kernel_rfl) (op_rem (x := m_42) (y := n_43) (by kernel_rfl) (by kernel_rfl) hg49) (by kernel_rfl) <| .mu 2 ?_
       refine .done ⟨by kernel_rfl, ?_⟩
       refine .pop ?_
       exact loopF_back (n_43, m_42.tmod n_43) hr ((Wk.gc [4, 7, 9] [(0, true)] rfl trivial).to (by kernel_rfl))
      ·replace hr := cd_f hb48 hr
       refine .leave rfl ?_
       obtain rfl := Option.some.inj hr
       exact ⟨rfl, ((Wk.gc [4, 7] [(0, true)] rfl trivial).to (by kernel_rfl))⟩
     ·rintro x st' hq52
      clear hL51
      obtain ⟨rfl, hq52⟩ := hq52
      refine CQ_exit _ rfl <| .wk hq52 <| .seq ?_
      obtain ⟨v53, hc54, hr⟩ := bd hr
      obtain ⟨v55, hc56, hr⟩ := bd hr
      refine .region fine (callOf_cons (callOk_ref (H := [.own [aB false, .at (.slice none 0 0)]]) (l := []) (SnL.cons (Sn.pure rfl) SnL.nil) (integer_split_ok n m_46 v53 hc54)) (callOf_cons (callOk_ref (H := [.own [aB false, .at (.slice none 0 0)]]) (l := []) (SnL.cons (Sn.pure rfl) (SnL.cons (Sn.pure rfl) SnL.nil)) (integer_made_ok n false v53 v55 hc56)) callOf_nil)) <| .mu 1 <| .c0 (by kernel_rfl) (callOf_at (by kernel_rfl)) <| .c0 (by kernel_rfl) (callOf_skip (fun h _ => absurd (show (103 : Nat) = 104 from h) (by decide)) (callOf_at (by kernel_rfl))) <| .mu 1 <| .done <| .n1 [4] (mkS 54 0 [(4, .hp 0 0)]) [.own (api_Int.c v55)] <| .ret ?_
      obtain rfl := Option.some.inj hr
      exact ⟨rfl, FinQ.ret (vs := [.agg (api_Int.c v55)]) (by kernel_rfl) (Sn.pure rfl)⟩
    ·replace hr := cd_f hb41 hr
     refine .skip <| .seq ?_
     obtain ⟨v57, hc58, hr⟩ := bd hr
     refine .g1 fine (callOk_ref (l := []) (SnL.cons (Sn.pure rfl) (SnL.cons (Sn.pure rfl) SnL.nil)) (integer_over_ok n a_5 b_6 v57 hc58)) <| .mu 2 <| .c0 (by kernel_rfl) (callOf_at (by kernel_rfl)) <| .mu 5 <| .done <| .n1 [4, 6, 12] (mkS 54 0 [(4, .hp 0 0), (6, sU32 b_6), (12, sU32 v57.2)]) [.own [aB false, .at (.slice none 0 0)]] <| .ru fine <| .pop ?_
     exact loopF_back (b_6, v57.2) hr ((Wk.gc [4, 5, 6] [(0, true)] rfl trivial).to (by kernel_rfl))
   ·replace hr := cd_f hb40 hr
    refine .r0 fine <| .p0 (v := aB false) (Eq.trans (b := some (.pure (aB v36.2))) (by kernel_rfl) (by rw [hb40])) <| .mu 3 <| .done <| .n1 [4, 5, 6, 7, 9, 33] (mkS 54 0 [(4, .hp 0 0), (5, sU32 a_5), (6, sU32 b_6), (7, aU64 v36.1), (9, aU64 v38.1), (33, aB false)]) [.own [aB false, .at (.slice none 0 0)]] <| .cF (by kernel_rfl) <| .skip <| .seq ?_
    obtain ⟨v59, hc60, hr⟩ := bd hr
    refine .g1 fine (callOk_ref (l := []) (SnL.cons (Sn.pure rfl) (SnL.cons (Sn.pure rfl) SnL.nil)) (integer_over_ok n a_5 b_6 v59 hc60)) <| .mu 2 <| .c0 (by kernel_rfl) (callOf_at (by kernel_rfl)) <| .mu 5 <| .done <| .n1 [4, 6, 12] (mkS 54 0 [(4, .hp 0 0), (6, sU32 b_6), (12, sU32 v59.2)]) [.own [aB false, .at (.slice none 0 0)]] <| .ru fine <| .pop ?_
    exact loopF_back (b_6, v59.2) hr ((Wk.gc [4, 5, 6] [(0, true)] rfl trivial).to (by kernel_rfl))
  ·replace hr := cd_f hb35 hr
   refine .leave rfl ?_
   obtain rfl := Option.some.inj hr
   exact ⟨rfl, ((Wk.gc [4, 5] [(0, true)] rfl trivial).to (by kernel_rfl))⟩
 ·rcases o61 with a_33 | r0
  ·rintro x st' hq63
   clear hL62
   obtain ⟨rfl, hq63⟩ := hq63
   refine CQ_exit _ rfl <| .wk hq63 <| .seq ?_
   obtain ⟨v64, hc65, hr⟩ := bd hr
   obtain ⟨v66, hc67, hr⟩ := bd hr
   refine .region fine (callOf_cons (callOk_ref (H := [.own [aB false, .at (.slice none 0 0)]]) (l := []) (SnL.cons (Sn.pure rfl) SnL.nil) (slices_Clone_uint32_uint32_ok n a_33 v64 hc65)) (callOf_cons (callOk_ref (H := [.own [aB false, .at (.slice none 0 0)]]) (l := []) (SnL.cons (Sn.pure rfl) (SnL.cons (Sn.pure rfl) SnL.nil)) (integer_made_ok n false v64 v66 hc67)) callOf_nil)) <| .mu 1 <| .c0 (by kernel_rfl) (callOf_at (by kernel_rfl)) <| .c0 (by kernel_rfl) (callOf_skip (fun h _ => absurd (show (103 : Nat) = 156 from h) (by decide)) (callOf_at (by kernel_rfl))) <| .mu 1 <| .done <| .n1 [4] (mkS 54 0 [(4, .hp 0 0)]) [.own (api_Int.c v66)] <| .ret ?_
   obtain rfl := Option.some.inj hr
   exact FinQ.r1 [.agg (api_Int.c v66)]
  ·rintro x st' hq63
   clear hL62
   obtain ⟨rfl, hq63⟩ := hq63
   obtain rfl := Option.some.inj hr
   exact CQ_ret _ hq63

theorem integer_at_inj {g : List Int} {i : Int} {g_ : List Int} {i_ : Int} (h : ([slT (iC .u32) g, .at (.int .i64 i)] : List AV) = [slT (iC .u32) g_, .at (.int .i64 i_)]) : g = g_ ∧ i = i_ := by
 simp only [List.cons.injEq, AV.agg.injEq, AV.at.injEq, Value.int.injEq, Value.bool.injEq, AV.fn.injEq, AV.pp.injEq, true_and, and_true, slT_inj_int] at h
 simp_all
theorem integer_at_ok (n : Nat) (g : List Int) (i : Int) (r : Int) (hr : integer_at n g i = some r) : FnOk Tryz.prog 150 [slT (iC .u32) g, .at (.int .i64 i)] (.at (.int .u32 r)) := by
 unfold integer_at at hr
 refine FnOk.body fine Tryz.func150 (c := (Tryz.f150.body).getD .skip) rfl (s := mkS 13 0 [(0, sU32 g), (1, aI64 i)]) (by kernel_rfl) (rs := [.tmp 4]) rfl ?_
 unfold Tryz.f150
 simp only [Option.getD_some]
 refine .seq <| .rn fine [0, 1] (mkS 13 0 [(0, sU32 g), (1, aI64 i)]) [] <| .seq <| .seq <| .rn fine [0, 1, 8] (mkS 13 0 [(0, sU32 g), (1, aI64 i), (8, aB (decide (i < (g.length : Int))))]) [] ?_
 refine .cond (t := decide (i < (g.length : Int))) (by kernel_rfl) (fun hb1 => ?_) (fun hb1 => ?_)
 ·replace hr := cd_t hb1 hr
  refine .seq ?_
  obtain ⟨hg2, hr⟩ := gd hr
  refine .r0 fine <| .mu 2 <| .p0 (v := .pp (g.flatMap (iC .u32)) (i.toNat * 1)) (Eq.trans (b := ORes.ofP (guardV (inR i g.length) (.pp (g.flatMap (iC .u32)) (i.toNat * 1)))) (by kernel_rfl) (ofP_guard hg2)) <| .p0 (v := aU32 (gt g i)) (Eq.trans (b := ORes.ofP ((g.flatMap (iC .u32))[i.toNat * 1]?)) (by kernel_rfl) (ofP_some (flat_get (iC_len _) (inR_lt hg2) (by decide : 0 < 1) (by omega : i.toNat * 1 = i.toNat * 1 + 0) (by kernel_rfl)))) <| .mu 1 <| .done <| .ret ?_
  obtain rfl := Option.some.inj hr
  exact FinQ.r1 [aU32 (gt g i)]
 ·replace hr := cd_f hb1 hr
  refine .skip <| .seq <| .ru fine <| .ret ?_
  obtain rfl := Option.some.inj hr
  exact FinQ.r1 [aU32 0]

theorem integer_plus_ok (n : Nat) (a : List Int) (b : List Int) (r : List Int) (hr : integer_plus n a b = some r) : FnOk Tryz.prog 132 [slT (iC .u32) a, slT (iC .u32) b] (slT (iC .u32) r) := by
 unfold integer_plus at hr
 refine FnOk.body fine Tryz.func132 (c := (Tryz.f132.body).getD .skip) rfl (s := mkS 41 0 [(0, sU32 a), (1, sU32 b)]) (by kernel_rfl) (rs := [.tmp 4]) rfl ?_
 unfold Tryz.f132
 simp only [Option.getD_some]
 refine .seq <| .rn fine [0, 1] (mkS 41 0 [(0, sU32 a), (1, sU32 b)]) [] <| .seq ?_
 obtain ⟨hg1, hr⟩ := gd hr
 obtain ⟨hg2, hr⟩ := gd hr
 obtain ⟨hg3, hr⟩ := gd hr
 refine .r0 fine <| .mu 6 <| .e0 (v := .hs 0 0 (List.replicate (wrapF .i64 ((mx (a.length : Int) (b.length : Int)) + 1)).toNat (0 : Int)).length 1) (ws := [(0, .own ((List.replicate (wrapF .i64 ((mx (a.length : Int) (b.length : Int)) + 1)).toNat (0 : Int)).flatMap (iC .u32)))]) (Eq.trans (b := guardO (decide (0 ≤ (wrapF .i64 ((mx (a.length : Int) (b.length : Int)) + 1))) && decide ((wrapF .i64 ((mx (a.length : Int) (b.length : Int)) + 1)) ≤ (wrapF .i64 ((mx (a.length : Int) (b.length : Int)) + 1))) && decide ((4 : Int) * (wrapF .i64 ((mx (a.length : Int) (b.length : Int)) + 1)) ≤ 281474976710656) && decide ((wrapF .i64 ((mx (a.length : Int) (b.length : Int)) + 1)) ≤ 9223372036854775807) && true && true && true) (some (.eff (.hs 0 0 (wrapF .i64 ((mx (a.length : Int) (b.length : Int)) + 1)).toNat 1) [(0, .own (zerosA [aU32 0] (wrapF .i64 ((mx (a.length : Int) (b.length : Int)) + 1)).toNat))]))) (by kernel_rfl) (make_own (c := (iC .u32)) (z := 0) rfl hg1 hg2 hg3)) <| .mu 1 <| .done <| .n1 [0, 1, 5] (mkS 41 0 [(0, sU32 a), (1, sU32 b), (5, .hs 0 0 (List.replicate (wrapF .i64 ((mx (a.length : Int) (b.length : Int)) + 1)).toNat (0 : Int)).length 1)]) [.own ((List.replicate (wrapF .i64 ((mx (a.length : Int) (b.length : Int)) + 1)).toNat (0 : Int)).flatMap (iC .u32))] <| .seq <| .rn fine [0, 1, 5, 6] (mkS 41 0 [(0, sU32 a), (1, sU32 b), (5, .hs 0 0 (List.replicate (wrapF .i64 ((mx (a.length : Int) (b.length : Int)) + 1)).toNat (0 : Int)).length 1), (6, aU32 0)]) [.own ((List.replicate (wrapF .i64 ((mx (a.length : Int) (b.length : Int)) + 1)).toNat (0 : Int)).flatMap (iC .u32))] <| .seq <| .seq <| .rn fine [0, 1, 5, 6, 17, 18] (mkS 41 0 [(0, sU32 a), (1, sU32 b), (5, .hs 0 0 (List.replicate (wrapF .i64 ((mx (a.length : Int) (b.length : Int)) + 1)).toNat (0 : Int)).length 1), (6, aU32 0), (17, aI64 ((List.replicate (wrapF .i64 ((mx (a.length : Int) (b.length : Int)) + 1)).toNat (0 : Int)).length : Int)), (18, aI64 0)]) [.own ((List.replicate (wrapF .i64 ((mx (a.length : Int) (b.length : Int)) + 1)).toNat (0 : Int)).flatMap (iC .u32))] <| .block ?_
 replace hr := bd hr; obtain ⟨out_15, hL26, hr⟩ := hr
 refine .loopO (σ := fun z0 => match z0 with | (out_4, carry_5, x_6) => ⟨mkS 41 0 [(0, sU32 a), (1, sU32 b), (5, .hs 0 0 out_4.length 1), (6, aU32 carry_5), (17, aI64 ((List.replicate (wrapF .i64 ((mx (a.length : Int) (b.length : Int)) + 1)).toNat (0 : Int)).length : Int)), (18, aI64 x_6)], [.own (out_4.flatMap (iC .u32))]⟩) (Q := fun x st' => x = .exit 0 ∧ Wk 0 st' ⟨mkS 41 0 [(5, .hs 0 0 out_15.length 1)], [.own (out_15.flatMap (iC .u32))]⟩) hL26 ((Wk.gc [0, 1, 5, 6, 17, 18] [(0, false)] rfl (pKo (iC .u32) (iC_pure _) (List.replicate (wrapF .i64 ((mx (a.length : Int) (b.length : Int)) + 1)).toNat (0 : Int)) trivial)).to (by kernel_rfl)) ?_ ?_
 ·clear hr
  rintro m ⟨out_4, carry_5, x_6⟩ hr
  show CQ _ _ _ _ _ ⟨_, _⟩
  refine .seq <| .rn fine [0, 1, 5, 6, 17, 18, 19] (mkS 41 0 [(0, sU32 a), (1, sU32 b), (5, .hs 0 0 out_4.length 1), (6, aU32 carry_5), (17, aI64 ((List.replicate (wrapF .i64 ((mx (a.length : Int) (b.length : Int)) + 1)).toNat (0 : Int)).length : Int)), (18, aI64 x_6), (19, aB (decide (x_6 < ((List.replicate (wrapF .i64 ((mx (a.length : Int) (b.length : Int)) + 1)).toNat (0 : Int)).length : Int))))]) [.own (out_4.flatMap (iC .u32))] <| .seq ?_
  refine .cond (t := decide (x_6 < ((List.replicate (wrapF .i64 ((mx (a.length : Int) (b.length : Int)) + 1)).toNat (0 : Int)).length : Int))) (by kernel_rfl) (fun hb17 => ?_) (fun hb17 => ?_)
  ·replace hr := cd_t hb17 hr
   refine .skip <| .seq <| .block <| .seq <| .rn fine [0, 1, 5, 6, 7, 17, 18] (mkS 41 0 [(0, sU32 a), (1, sU32 b), (5, .hs 0 0 out_4.length 1), (6, aU32 carry_5), (7, aI64 x_6), (17, aI64 ((List.replicate (wrapF .i64 ((mx (a.length : Int) (b.length : Int)) + 1)).toNat (0 : Int)).length : Int)), (18, aI64 x_6)]) [.own (out_4.flatMap (iC .u32))] <| .seq ?_
   obtain ⟨v18, hc19, hr⟩ := bd hr
   obtain ⟨v20, hc21, hr⟩ := bd hr
   refine .region fine (callOf_cons (callOk_val (H := [.own (out_4.flatMap (iC .u32))]) (l := []) rfl (SnL.cons (Sn.pure rfl) (SnL.cons (Sn.pure rfl) SnL.nil)) (integer_at_ok n a x_6 v18 hc19)) (callOf_cons (callOk_val (H := [.own (out_4.flatMap (iC .u32))]) (l := []) rfl (SnL.cons (Sn.pure rfl) (SnL.cons (Sn.pure rfl) SnL.nil)) (integer_at_ok n b x_6 v20 hc21)) callOf_nil)) <| .mu 2 <| .c0 (by kernel_rfl) (callOf_at (by kernel_rfl)) <| .mu 2 <| .c0 (by kernel_rfl) (callOf_skip (fun _ h => by obtain ⟨e0, e1⟩ := integer_at_inj h; rw [show v20 = v18 from Option.some.inj (hc21.symm.trans ((show integer_at n b x_6 = integer_at n a x_6 from (congr (congr rfl e0) e1)).trans hc19))]) (callOf_at (by kernel_rfl))) <| .mu 4 <| .done <| .n1 [0, 1, 5, 7, 8, 17, 18] (mkS 41 0 [(0, sU32 a), (1, sU32 b), (5, .hs 0 0 out_4.length 1), (7, aI64 x_6), (8, aU32 (wrapF .u32 ((wrapF .u32 (v18 + v20)) + carry_5))), (17, aI64 ((List.replicate (wrapF .i64 ((mx (a.length : Int) (b.length : Int)) + 1)).toNat (0 : Int)).length : Int)), (18, aI64 x_6)]) [.own (out_4.flatMap (iC .u32))] <| .seq <| .rn fine [0, 1, 5, 6, 7, 8, 17, 18] (mkS 41 0 [(0, sU32 a), (1, sU32 b), (5, .hs 0 0 out_4.length 1), (6, aU32 0), (7, aI64 x_6), (8, aU32 (wrapF .u32 ((wrapF .u32 (v18 + v20)) + carry_5))), (17, aI64 ((List.replicate (wrapF .i64 ((mx (a.length : Int) (b.length : Int)) + 1)).toNat (0 : Int)).length : Int)), (18, aI64 x_6)]) [.own (out_4.flatMap (iC .u32))] <| .seq <| .seq <| .rn fine [0, 1, 5, 6, 7, 8, 17, 18, 31] (mkS 41 0 [(0, sU32 a), (1, sU32 b), (5, .hs 0 0 out_4.length 1), (6, aU32 0), (7, aI64 x_6), (8, aU32 (wrapF .u32 ((wrapF .u32 (v18 + v20)) + carry_5))), (17, aI64 ((List.replicate (wrapF .i64 ((mx (a.length : Int) (b.length : Int)) + 1)).toNat (0 : Int)).length : Int)), (18, aI64 x_6), (31, aB (decide ((wrapF .u32 ((wrapF .u32 (v18 + v20)) + carry_5)) ≥ 1000000000)))]) [.own (out_4.flatMap (iC .u32))] ?_
   refine .cond (t := decide ((wrapF .u32 ((wrapF .u32 (v18 + v20)) + carry_5)) ≥ 1000000000)) (by kernel_rfl) (fun hb22 => ?_) (fun hb22 => ?_)
   ·replace hr := cd_t hb22 hr
    refine .rn fine [0, 1, 5, 6, 7, 8, 17, 18] (mkS 41 0 [(0, sU32 a), (1, sU32 b), (5, .hs 0 0 out_4.length 1), (6, aU32 1), (7, aI64 x_6), (8, aU32 (wrapF .u32 ((wrapF .u32 ((wrapF .u32 (v18 + v20)) + carry_5)) - 1000000000))), (17, aI64 ((List.replicate (wrapF .i64 ((mx (a.length : Int) (b.length : Int)) + 1)).toNat (0 : Int)).length : Int)), (18, aI64 x_6)]) [.own (out_4.flatMap (iC .u32))] ?_
    obtain ⟨hg23, hr⟩ := gd hr
    refine .r0 fine <| .mu 3 <| .p0 (v := .hp 0 (0 + x_6.toNat * 1)) (Eq.trans (b := ORes.ofP (guardV (inR x_6 out_4.length) (.hp 0 (0 + x_6.toNat * 1)))) (by kernel_rfl) (ofP_guard hg23)) <| .e0 (v := .unk) (ws := [(0, .own ((out_4.set x_6.toNat (wrapF .u32 ((wrapF .u32 ((wrapF .u32 (v18 + v20)) + carry_5)) - 1000000000))).flatMap (iC .u32)))]) (Eq.trans (b := stO (decide ((0 + x_6.toNat * 1) + 1 ≤ (out_4.flatMap (iC .u32)).length) && true) [(0, .own (setCells (out_4.flatMap (iC .u32)) (0 + x_6.toNat * 1) [aU32 (wrapF .u32 ((wrapF .u32 ((wrapF .u32 (v18 + v20)) + carry_5)) - 1000000000))]))]) (by kernel_rfl) (stO_t (and_t (flat_fits (iC_len _) (inR_lt hg23) (Nat.le_of_ble_eq_true rfl) (by omega : 0 + x_6.toNat * 1 = x_6.toNat * 1 + 0))) (congrArg Blk.own (flat_set (iC_len _) (inR_lt hg23) (Nat.le_of_ble_eq_true rfl) (by omega : 0 + x_6.toNat * 1 = x_6.toNat * 1 + 0) (by kernel_rfl))))) <| .done <| .pop <| .ru fine ?_
    exact loopF_back (out_4.set x_6.toNat (wrapF .u32 ((wrapF .u32 ((wrapF .u32 (v18 + v20)) + carry_5)) - 1000000000)), 1, wrapF .i64 (x_6 + 1)) hr ((Wk.relen 5 (b := 0) (es := 1) (len := out_4.length) (out_4.set x_6.toNat (wrapF .u32 ((wrapF .u32 ((wrapF .u32 (v18 + v20)) + carry_5)) - 1000000000))).length (by kernel_rfl) (by simp)).trans ((Wk.gc [0, 1, 5, 6, 17, 18] [(0, false)] rfl (pKo (iC .u32) (iC_pure _) (out_4.set x_6.toNat (wrapF .u32 ((wrapF .u32 ((wrapF .u32 (v18 + v20)) + carry_5)) - 1000000000))) trivial)).to (by kernel_rfl)))
   ·replace hr := cd_f hb22 hr
    refine .skip ?_
    obtain ⟨hg24, hr⟩ := gd hr
    refine .r0 fine <| .mu 3 <| .p0 (v := .hp 0 (0 + x_6.toNat * 1)) (Eq.trans (b := ORes.ofP (guardV (inR x_6 out_4.length) (.hp 0 (0 + x_6.toNat * 1)))) (by kernel_rfl) (ofP_guard hg24)) <| .e0 (v := .unk) (ws := [(0, .own ((out_4.set x_6.toNat (wrapF .u32 ((wrapF .u32 (v18 + v20)) + carry_5))).flatMap (iC .u32)))]) (Eq.trans (b := stO (decide ((0 + x_6.toNat * 1) + 1 ≤ (out_4.flatMap (iC .u32)).length) && true) [(0, .own (setCells (out_4.flatMap (iC .u32)) (0 + x_6.toNat * 1) [aU32 (wrapF .u32 ((wrapF .u32 (v18 + v20)) + carry_5))]))]) (by kernel_rfl) (stO_t (and_t (flat_fits (iC_len _) (inR_lt hg24) (Nat.le_of_ble_eq_true rfl) (by omega : 0 + x_6.toNat * 1 = x_6.toNat * 1 + 0))) (congrArg Blk.own (flat_set (iC_len _) (inR_lt hg24) (Nat.le_of_ble_eq_true rfl) (by omega : 0 + x_6.toNat * 1 = x_6.toNat * 1 + 0) (by kernel_rfl))))) <| .done <| .pop <| .ru fine ?_
    exact loopF_back (out_4.set x_6.toNat (wrapF .u32 ((wrapF .u32 (v18 + v20)) + carry_5)), 0, wrapF .i64 (x_6 + 1)) hr ((Wk.relen 5 (b := 0) (es := 1) (len := out_4.length) (out_4.set x_6.toNat (wrapF .u32 ((wrapF .u32 (v18 + v20)) + carry_5))).length (by kernel_rfl) (by simp)).trans ((Wk.gc [0, 1, 5, 6, 17, 18] [(0, false)] rfl (pKo (iC .u32) (iC_pure _) (out_4.set x_6.toNat (wrapF .u32 ((wrapF .u32 (v18 + v20)) + carry_5))) trivial)).to (by kernel_rfl)))
  ·replace hr := cd_f hb17 hr
   refine .leave rfl ?_
   obtain rfl := Option.some.inj hr
   exact ⟨rfl, ((Wk.gc [5] [(0, false)] rfl (pKo (iC .u32) (iC_pure _) out_4 trivial)).to (by kernel_rfl))⟩
 ·rintro x st' hq27
  clear hL26
  obtain ⟨rfl, hq27⟩ := hq27
  refine CQ_exit _ rfl <| .wk hq27 <| .seq ?_
  obtain ⟨v28, hc29, hr⟩ := bd hr
  refine .g1 fine (callOk_ref (args := [.hs 0 0 out_15.length 1]) (l := [0]) (SnL.cons (Sn.hs rfl (.inl rfl) (SnC.pure (ids_flat (iC_pure _) _)) (fun h => flat_nil0 h)) SnL.nil) (integer_trim_ok n out_15 v28 hc29)) <| .mu 1 <| .c0 (by kernel_rfl) (callOf_at (by kernel_rfl)) <| .mu 1 <| .done <| .ret ?_
  obtain rfl := Option.some.inj hr
  exact FinQ.r1 [sU32 v28]

theorem integer_minus_ok (n : Nat) (a : List Int) (b : List Int) (r : List Int) (hr : integer_minus n a b = some r) : FnOk Tryz.prog 134 [slT (iC .u32) a, slT (iC .u32) b] (slT (iC .u32) r) := by
 unfold integer_minus at hr
 refine FnOk.body fine Tryz.func134 (c := (Tryz.f134.body).getD .skip) rfl (s := mkS 50 0 [(0, sU32 a), (1, sU32 b)]) (by kernel_rfl) (rs := [.tmp 4]) rfl ?_
 unfold Tryz.f134
 simp only [Option.getD_some]
 refine .seq <| .rn fine [0, 1] (mkS 50 0 [(0, sU32 a), (1, sU32 b)]) [] <| .seq ?_
 obtain ⟨hg1, hr⟩ := gd hr
 obtain ⟨hg2, hr⟩ := gd hr
 obtain ⟨hg3, hr⟩ := gd hr
 refine .r0 fine <| .mu 2 <| .e0 (v := .hs 0 0 (List.replicate (a.length : Int).toNat (0 : Int)).length 1) (ws := [(0, .own ((List.replicate (a.length : Int).toNat (0 : Int)).flatMap (iC .u32)))]) (Eq.trans (b := guardO (decide (0 ≤ (a.length : Int)) && decide ((a.length : Int) ≤ (a.length : Int)) && decide ((4 : Int) * (a.length : Int) ≤ 281474976710656) && decide ((a.length : Int) ≤ 9223372036854775807) && true && true && true) (some (.eff (.hs 0 0 (a.length : Int).toNat 1) [(0, .own (zerosA [aU32 0] (a.length : Int).toNat))]))) (by kernel_rfl) (make_own (c := (iC .u32)) (z := 0) rfl hg1 hg2 hg3)) <| .mu 1 <| .done <| .n1 [0, 1, 5] (mkS 50 0 [(0, sU32 a), (1, sU32 b), (5, .hs 0 0 (List.replicate (a.length : Int).toNat (0 : Int)).length 1)]) [.own ((List.replicate (a.length : Int).toNat (0 : Int)).flatMap (iC .u32))] <| .seq <| .rn fine [0, 1, 5, 6] (mkS 50 0 [(0, sU32 a), (1, sU32 b), (5, .hs 0 0 (List.replicate (a.length : Int).toNat (0 : Int)).length 1), (6, aU32 0)]) [.own ((List.replicate (a.length : Int).toNat (0 : Int)).flatMap (iC .u32))] <| .seq <| .seq <| .rn fine [0, 1, 5, 6, 13, 14] (mkS 50 0 [(0, sU32 a), (1, sU32 b), (5, .hs 0 0 (List.replicate (a.length : Int).toNat (0 : Int)).length 1), (6, aU32 0), (13, aI64 ((List.replicate (a.length : Int).toNat (0 : Int)).length : Int)), (14, aI64 0)]) [.own ((List.replicate (a.length : Int).toNat (0 : Int)).flatMap (iC .u32))] <| .block ?_
 replace hr := bd hr; obtain ⟨out_14, hL24, hr⟩ := hr
 refine .loopO (σ := fun z0 => match z0 with | (out_4, borrow_5, x_6) => ⟨mkS 50 0 [(0, sU32 a), (1, sU32 b), (5, .hs 0 0 out_4.length 1), (6, aU32 borrow_5), (13, aI64 ((List.replicate (a.length : Int).toNat (0 : Int)).length : Int)), (14, aI64 x_6)], [.own (out_4.flatMap (iC .u32))]⟩) (Q := fun x st' => x = .exit 0 ∧ Wk 0 st' ⟨mkS 50 0 [(5, .hs 0 0 out_14.length 1)], [.own (out_14.flatMap (iC .u32))]⟩) hL24 ((Wk.gc [0, 1, 5, 6, 13, 14] [(0, false)] rfl (pKo (iC .u32) (iC_pure _) (List.replicate (a.length : Int).toNat (0 : Int)) trivial)).to (by kernel_rfl)) ?_ ?_
 ·clear hr
  rintro m ⟨out_4, borrow_5, x_6⟩ hr
  show CQ _ _ _ _ _ ⟨_, _⟩
  refine .seq <| .rn fine [0, 1, 5, 6, 13, 14, 15] (mkS 50 0 [(0, sU32 a), (1, sU32 b), (5, .hs 0 0 out_4.length 1), (6, aU32 borrow_5), (13, aI64 ((List.replicate (a.length : Int).toNat (0 : Int)).length : Int)), (14, aI64 x_6), (15, aB (decide (x_6 < ((List.replicate (a.length : Int).toNat (0 : Int)).length : Int))))]) [.own (out_4.flatMap (iC .u32))] <| .seq ?_
  refine .cond (t := decide (x_6 < ((List.replicate (a.length : Int).toNat (0 : Int)).length : Int))) (by kernel_rfl) (fun hb16 => ?_) (fun hb16 => ?_)
  ·replace hr := cd_t hb16 hr
   refine .skip <| .seq <| .block <| .seq <| .rn fine [0, 1, 5, 6, 7, 13, 14] (mkS 50 0 [(0, sU32 a), (1, sU32 b), (5, .hs 0 0 out_4.length 1), (6, aU32 borrow_5), (7, aI64 x_6), (13, aI64 ((List.replicate (a.length : Int).toNat (0 : Int)).length : Int)), (14, aI64 x_6)]) [.own (out_4.flatMap (iC .u32))] <| .seq ?_
   obtain ⟨v17, hc18, hr⟩ := bd hr
   refine .g1 fine (callOk_val (l := []) rfl (SnL.cons (Sn.pure rfl) (SnL.cons (Sn.pure rfl) SnL.nil)) (integer_at_ok n b x_6 v17 hc18)) <| .mu 2 <| .c0 (by kernel_rfl) (callOf_at (by kernel_rfl)) <| .mu 3 <| .done <| .n1 [0, 1, 5, 7, 8, 13, 14] (mkS 50 0 [(0, sU32 a), (1, sU32 b), (5, .hs 0 0 out_4.length 1), (7, aI64 x_6), (8, aU32 (wrapF .u32 (v17 + borrow_5))), (13, aI64 ((List.replicate (a.length : Int).toNat (0 : Int)).length : Int)), (14, aI64 x_6)]) [.own (out_4.flatMap (iC .u32))] <| .seq <| .rn fine [0, 1, 5, 6, 7, 8, 13, 14] (mkS 50 0 [(0, sU32 a), (1, sU32 b), (5, .hs 0 0 out_4.length 1), (6, aU32 0), (7, aI64 x_6), (8, aU32 (wrapF .u32 (v17 + borrow_5))), (13, aI64 ((List.replicate (a.length : Int).toNat (0 : Int)).length : Int)), (14, aI64 x_6)]) [.own (out_4.flatMap (iC .u32))] <| .seq ?_
   obtain ⟨hg19, hr⟩ := gd hr
   refine .r0 fine <| .mu 2 <| .p0 (v := .pp (a.flatMap (iC .u32)) (x_6.toNat * 1)) (Eq.trans (b := ORes.ofP (guardV (inR x_6 a.length) (.pp (a.flatMap (iC .u32)) (x_6.toNat * 1)))) (by kernel_rfl) (ofP_guard hg19)) <| .p0 (v := aU32 (gt a x_6)) (Eq.trans (b := ORes.ofP ((a.flatMap (iC .u32))[x_6.toNat * 1]?)) (by kernel_rfl) (ofP_some (flat_get (iC_len _) (inR_lt hg19) (by decide : 0 < 1) (by omega : x_6.toNat * 1 = x_6.toNat * 1 + 0) (by kernel_rfl)))) <| .mu 2 <| .done <| .n1 [0, 1, 5, 6, 7, 8, 13, 14, 27] (mkS 50 0 [(0, sU32 a), (1, sU32 b), (5, .hs 0 0 out_4.length 1), (6, aU32 0), (7, aI64 x_6), (8, aU32 (wrapF .u32 (v17 + borrow_5))), (13, aI64 ((List.replicate (a.length : Int).toNat (0 : Int)).length : Int)), (14, aI64 x_6), (27, aB (decide ((gt a x_6) < (wrapF .u32 (v17 + borrow_5)))))]) [.own (out_4.flatMap (iC .u32))] ?_
   refine .cond (t := decide ((gt a x_6) < (wrapF .u32 (v17 + borrow_5)))) (by kernel_rfl) (fun hb20 => ?_) (fun hb20 => ?_)
   ·replace hr := cd_t hb20 hr
    obtain ⟨hg21, hr⟩ := gd hr
    refine .r0 fine <| .mu 4 <| .p0 (v := .pp (a.flatMap (iC .u32)) (x_6.toNat * 1)) (Eq.trans (b := ORes.ofP (guardV (inR x_6 a.length) (.pp (a.flatMap (iC .u32)) (x_6.toNat * 1)))) (by kernel_rfl) (ofP_guard hg19)) <| .p0 (v := aU32 (gt a x_6)) (Eq.trans (b := ORes.ofP ((a.flatMap (iC .u32))[x_6.toNat * 1]?)) (by kernel_rfl) (ofP_some (flat_get (iC_len _) (inR_lt hg19) (by decide : 0 < 1) (by omega : x_6.toNat * 1 = x_6.toNat * 1 + 0) (by kernel_rfl)))) <| .mu 3 <| .p0 (v := .hp 0 (0 + x_6.toNat * 1)) (Eq.trans (b := ORes.ofP (guardV (inR x_6 out_4.length) (.hp 0 (0 + x_6.toNat * 1)))) (by kernel_rfl) (ofP_guard hg21)) <| .e0 (v := .unk) (ws := [(0, .own ((out_4.set x_6.toNat (wrapF .u32 ((wrapF .u32 ((gt a x_6) + 1000000000)) - (wrapF .u32 (v17 + borrow_5))))).flatMap (iC .u32)))]) (Eq.trans (b := stO (decide ((0 + x_6.toNat * 1) + 1 ≤ (out_4.flatMap (iC .u32)).length) && true) [(0, .own (setCells (out_4.flatMap (iC .u32)) (0 + x_6.toNat * 1) [aU32 (wrapF .u32 ((wrapF .u32 ((gt a x_6) + 1000000000)) - (wrapF .u32 (v17 + borrow_5))))]))]) (by kernel_rfl) (stO_t (and_t (flat_fits (iC_len _) (inR_lt hg21) (Nat.le_of_ble_eq_true rfl) (by omega : 0 + x_6.toNat * 1 = x_6.toNat * 1 + 0))) (congrArg Blk.own (flat_set (iC_len _) (inR_lt hg21) (Nat.le_of_ble_eq_true rfl) (by omega : 0 + x_6.toNat * 1 = x_6.toNat * 1 + 0) (by kernel_rfl))))) <| .mu 1 <| .done <| .pop <| .ru fine ?_
    exact loopF_back (out_4.set x_6.toNat (wrapF .u32 ((wrapF .u32 ((gt a x_6) + 1000000000)) - (wrapF .u32 (v17 + borrow_5)))), 1, wrapF .i64 (x_6 + 1)) hr ((Wk.relen 5 (b := 0) (es := 1) (len := out_4.length) (out_4.set x_6.toNat (wrapF .u32 ((wrapF .u32 ((gt a x_6) + 1000000000)) - (wrapF .u32 (v17 + borrow_5))))).length (by kernel_rfl) (by simp)).trans ((Wk.gc [0, 1, 5, 6, 13, 14] [(0, false)] rfl (pKo (iC .u32) (iC_pure _) (out_4.set x_6.toNat (wrapF .u32 ((wrapF .u32 ((gt a x_6) + 1000000000)) - (wrapF .u32 (v17 + borrow_5))))) trivial)).to (by kernel_rfl)))
   ·replace hr := cd_f hb20 hr
    obtain ⟨hg22, hr⟩ := gd hr
    refine .r0 fine <| .mu 4 <| .p0 (v := .pp (a.flatMap (iC .u32)) (x_6.toNat * 1)) (Eq.trans (b := ORes.ofP (guardV (inR x_6 a.length) (.pp (a.flatMap (iC .u32)) (x_6.toNat * 1)))) (by kernel_rfl) (ofP_guard hg19)) <| .p0 (v := aU32 (gt a x_6)) (Eq.trans (b := ORes.ofP ((a.flatMap (iC .u32))[x_6.toNat * 1]?)) (by kernel_rfl) (ofP_some (flat_get (iC_len _) (inR_lt hg19) (by decide : 0 < 1) (by omega : x_6.toNat * 1 = x_6.toNat * 1 + 0) (by kernel_rfl)))) <| .mu 2 <| .p0 (v := .hp 0 (0 + x_6.toNat * 1)) (Eq.trans (b := ORes.ofP (guardV (inR x_6 out_4.length) (.hp 0 (0 + x_6.toNat * 1)))) (by kernel_rfl) (ofP_guard hg22)) <| .e0 (v := .unk) (ws := [(0, .own ((out_4.set x_6.toNat (wrapF .u32 ((gt a x_6) - (wrapF .u32 (v17 + borrow_5))))).flatMap (iC .u32)))]) (Eq.trans (b := stO (decide ((0 + x_6.toNat * 1) + 1 ≤ (out_4.flatMap (iC .u32)).length) && true) [(0, .own (setCells (out_4.flatMap (iC .u32)) (0 + x_6.toNat * 1) [aU32 (wrapF .u32 ((gt a x_6) - (wrapF .u32 (v17 + borrow_5))))]))]) (by kernel_rfl) (stO_t (and_t (flat_fits (iC_len _) (inR_lt hg22) (Nat.le_of_ble_eq_true rfl) (by omega : 0 + x_6.toNat * 1 = x_6.toNat * 1 + 0))) (congrArg Blk.own (flat_set (iC_len _) (inR_lt hg22) (Nat.le_of_ble_eq_true rfl) (by omega : 0 + x_6.toNat * 1 = x_6.toNat * 1 + 0) (by kernel_rfl))))) <| .done <| .pop <| .ru fine ?_
    exact loopF_back (out_4.set x_6.toNat (wrapF .u32 ((gt a x_6) - (wrapF .u32 (v17 + borrow_5)))), 0, wrapF .i64 (x_6 + 1)) hr ((Wk.relen 5 (b := 0) (es := 1) (len := out_4.length) (out_4.set x_6.toNat (wrapF .u32 ((gt a x_6) - (wrapF .u32 (v17 + borrow_5))))).length (by kernel_rfl) (by simp)).trans ((Wk.gc [0, 1, 5, 6, 13, 14] [(0, false)] rfl (pKo (iC .u32) (iC_pure _) (out_4.set x_6.toNat (wrapF .u32 ((gt a x_6) - (wrapF .u32 (v17 + borrow_5))))) trivial)).to (by kernel_rfl)))
  ·replace hr := cd_f hb16 hr
   refine .leave rfl ?_
   obtain rfl := Option.some.inj hr
   exact ⟨rfl, ((Wk.gc [5] [(0, false)] rfl (pKo (iC .u32) (iC_pure _) out_4 trivial)).to (by kernel_rfl))⟩
 ·rintro x st' hq25
  clear hL24
  obtain ⟨rfl, hq25⟩ := hq25
  refine CQ_exit _ rfl <| .wk hq25 <| .seq ?_
  obtain ⟨v26, hc27, hr⟩ := bd hr
  refine .g1 fine (callOk_ref (args := [.hs 0 0 out_14.length 1]) (l := [0]) (SnL.cons (Sn.hs rfl (.inl rfl) (SnC.pure (ids_flat (iC_pure _) _)) (fun h => flat_nil0 h)) SnL.nil) (integer_trim_ok n out_14 v26 hc27)) <| .mu 1 <| .c0 (by kernel_rfl) (callOf_at (by kernel_rfl)) <| .mu 1 <| .done <| .ret ?_
  obtain rfl := Option.some.inj hr
  exact FinQ.r1 [sU32 v26]

theorem integer_Divide_ok (n : Nat) (x' : api_Int) (y : api_Int) (r : api_Int × api_Int × Int) (hr : integer_Divide n x' y = some r) : FnOk Tryz.prog 142 [.agg [.at (.bool x'.Negative), slT (iC .u32) x'.Groups], .agg [.at (.bool y.Negative), slT (iC .u32) y.Groups]] (.tup [.agg [.at (.bool r.1.Negative), slT (iC .u32) r.1.Groups], .agg [.at (.bool r.2.1.Negative), slT (iC .u32) r.2.1.Groups], .at (.int .i64 r.2.2)]) := by
 unfold integer_Divide at hr
 refine FnOk.body fine Tryz.func142 (c := (Tryz.f142.body).getD .skip) rfl (s := mkS 55 0 [(0, .agg (api_Int.c x')), (1, .agg (api_Int.c y))]) (by kernel_rfl) (rs := [.cell 4 35, .cell 5 35, .tmp 6]) rfl ?_
 unfold Tryz.f142
 simp only [Option.getD_some]
 refine .seq <| .rn fine [2, 3, 4, 5] (mkS 55 0 [(2, .hp 0 0), (3, .hp 1 0), (4, .hp 2 0), (5, .hp 3 0)]) [.own (api_Int.c x'), .own (api_Int.c y), .own [aB false, .at (.slice none 0 0)], .own [aB false, .at (.slice none 0 0)]] <| .seq ?_
 obtain ⟨v1, hc2, hr⟩ := bd hr
 obtain ⟨v3, hc4, hr⟩ := bd hr
 refine .regionT fine (callOf_cons (callOk_ref (H := [.own (api_Int.c x'), .own (api_Int.c y), .own [aB false, .at (.slice none 0 0)], .own [aB false, .at (.slice none 0 0)]]) (l := []) (SnL.cons (Sn.pure rfl) SnL.nil) (integer_groups_ok n x' v1 hc2)) (callOf_cons (callOk_ref (H := [.own (api_Int.c x'), .own (api_Int.c y), .own [aB false, .at (.slice none 0 0)], .own [aB false, .at (.slice none 0 0)]]) (l := []) (SnL.cons (Sn.pure rfl) SnL.nil) (integer_groups_ok n y v3 hc4)) callOf_nil)) <| .mu 1 <| .cal (by kernel_rfl) (by kernel_rfl) (callOf_at (by kernel_rfl)) (by kernel_rfl) <| .mu 1 <| .cal (by kernel_rfl) (by kernel_rfl) (callOf_skip (fun _ h => by obtain e0 := integer_groups_inj h; rw [show v3 = v1 from Option.some.inj (hc4.symm.trans ((show integer_groups n y = integer_groups n x' from (congr rfl e0)).trans hc2))]) (callOf_at (by kernel_rfl))) (by kernel_rfl) <| .mu 2 ?_
 refine .done ⟨by kernel_rfl, ?_⟩
 refine .n1 [2, 3, 4, 5, 7, 8] (mkS 55 0 [(2, .hp 0 0), (3, .hp 1 0), (4, .hp 2 0), (5, .hp 3 0), (7, sU32 v1), (8, sU32 v3)]) [.own (api_Int.c x'), .own (api_Int.c y), .own [aB false, .at (.slice none 0 0)], .own [aB false, .at (.slice none 0 0)]] <| .seq <| .seq <| .rn fine [2, 3, 4, 5, 7, 8, 17] (mkS 55 0 [(2, .hp 0 0), (3, .hp 1 0), (4, .hp 2 0), (5, .hp 3 0), (7, sU32 v1), (8, sU32 v3), (17, aB (((v3.length : Int) : Int) == 0))]) [.own (api_Int.c x'), .own (api_Int.c y), .own [aB false, .at (.slice none 0 0)], .own [aB false, .at (.slice none 0 0)]] ?_
 refine .cond (t := ((v3.length : Int) : Int) == 0) (by kernel_rfl) (fun hb5 => ?_) (fun hb5 => ?_)
 ·replace hr := cd_t hb5 hr
  refine .seq <| .rn fine [4, 5, 6] (mkS 55 0 [(4, .hp 2 0), (5, .hp 3 0), (6, aI64 14)]) [.own (api_Int.c x'), .own (api_Int.c y), .own [aB false, .at (.slice none 0 0)], .own [aB false, .at (.slice none 0 0)]] <| .ret ?_
  obtain rfl := Option.some.inj hr
  exact FinQ.ret (vs := [.agg [aB false, .at (.slice none 0 0)], .agg [aB false, .at (.slice none 0 0)], aI64 14]) (by kernel_rfl) (Sn.tup (SnL.cons (Sn.agg (SnL.cons (Sn.pure rfl) (SnL.cons Sn.nilsl SnL.nil))) (SnL.cons (Sn.agg (SnL.cons (Sn.pure rfl) (SnL.cons Sn.nilsl SnL.nil))) (SnL.cons (Sn.pure rfl) SnL.nil))))
 ·replace hr := cd_f hb5 hr
  refine .skip <| .seq ?_
  obtain ⟨v6, hc7, hr⟩ := bd hr
  refine .g1 fine (callOk_ref (l := []) (SnL.cons (Sn.pure rfl) (SnL.cons (Sn.pure rfl) SnL.nil)) (integer_over_ok n v1 v3 v6 hc7)) <| .mu 2 <| .c0 (by kernel_rfl) (callOf_at (by kernel_rfl)) <| .mu 5 <| .done <| .n1 [2, 3, 4, 5, 8, 9, 10] (mkS 55 0 [(2, .hp 0 0), (3, .hp 1 0), (4, .hp 2 0), (5, .hp 3 0), (8, sU32 v3), (9, sU32 v6.1), (10, sU32 v6.2)]) [.own (api_Int.c x'), .own (api_Int.c y), .own [aB false, .at (.slice none 0 0)], .own [aB false, .at (.slice none 0 0)]] <| .seq ?_
  obtain ⟨v8, hc9, hr⟩ := bd hr
  refine .g1 fine (callOk_ref (l := []) (SnL.cons (Sn.pure rfl) SnL.nil) (slices_Clone_uint32_uint32_ok n v6.2 v8 hc9)) <| .mu 1 <| .c0 (by kernel_rfl) (callOf_at (by kernel_rfl)) <| .mu 1 <| .done <| .n1 [2, 3, 4, 5, 8, 9, 10] (mkS 55 0 [(2, .hp 0 0), (3, .hp 1 0), (4, .hp 2 0), (5, .hp 3 0), (8, sU32 v3), (9, sU32 v6.1), (10, sU32 v8)]) [.own (api_Int.c x'), .own (api_Int.c y), .own [aB false, .at (.slice none 0 0)], .own [aB false, .at (.slice none 0 0)]] <| .seq <| .seq ?_
  rcases Bool.eq_false_or_eq_true (decide ((v8.length : Int) > 0)) with hb10 | hb10
  ·replace hr := cd_t hb10 hr
   refine .r0 fine <| .mu 2 <| .p0 (v := aB true) (Eq.trans (b := some (.pure (aB (decide ((v8.length : Int) > 0))))) (by kernel_rfl) (by rw [hb10])) <| .mu 7 <| .done <| .n1 [2, 3, 4, 5, 8, 9, 10, 37] (mkS 55 0 [(2, .hp 0 0), (3, .hp 1 0), (4, .hp 2 0), (5, .hp 3 0), (8, sU32 v3), (9, sU32 v6.1), (10, sU32 v8), (37, aB (x'.Negative != y.Negative))]) [.own (api_Int.c x'), .own (api_Int.c y), .own [aB false, .at (.slice none 0 0)], .own [aB false, .at (.slice none 0 0)]] ?_
   refine .cond (t := x'.Negative != y.Negative) (by kernel_rfl) (fun hb11 => ?_) (fun hb11 => ?_)
   ·replace hr := cd_t hb11 hr
    obtain ⟨v12, hc13, hr⟩ := bd hr
    obtain ⟨v14, hc15, hr⟩ := bd hr
    refine .region fine (callOf_cons (callOk_ref (H := [.own (api_Int.c x'), .own (api_Int.c y), .own [aB false, .at (.slice none 0 0)], .own [aB false, .at (.slice none 0 0)], .own [aU32 1]]) (args := [sU32 v6.1, .hs 4 0 1 1]) (l := [4]) (SnL.cons (Sn.pure rfl) (SnL.cons (Sn.hs rfl (.inl rfl) (SnC.cons (Sn.pure rfl) SnC.nil) (fun h => nomatch h)) SnL.nil)) (integer_plus_ok n v6.1 [1] v12 hc13)) (callOf_cons (callOk_ref (H := [.own (api_Int.c x'), .own (api_Int.c y), .own [aB false, .at (.slice none 0 0)], .own [aB false, .at (.slice none 0 0)], .fix [aU32 1]]) (l := []) (SnL.cons (Sn.pure rfl) (SnL.cons (Sn.pure rfl) SnL.nil)) (integer_minus_ok n v3 v8 v14 hc15)) callOf_nil)) <| .mu 2 <| .c0 (by kernel_rfl) (callOf_at (by kernel_rfl)) <| .mu 2 <| .c0 (by kernel_rfl) (callOf_skip (fun h _ => absurd (show (134 : Nat) = 132 from h) (by decide)) (callOf_at (by kernel_rfl))) <| .mu 2 <| .done <| .n1 [2, 3, 4, 5, 9, 10] (mkS 55 0 [(2, .hp 0 0), (3, .hp 1 0), (4, .hp 2 0), (5, .hp 3 0), (9, sU32 v12), (10, sU32 v14)]) [.own (api_Int.c x'), .own (api_Int.c y), .own [aB false, .at (.slice none 0 0)], .own [aB false, .at (.slice none 0 0)], .fix [aU32 1]] <| .seq ?_
    obtain ⟨v16, hc17, hr⟩ := bd hr
    obtain ⟨v18, hc19, hr⟩ := bd hr
    refine .regionT fine (callOf_cons (callOk_ref (H := [.own (api_Int.c x'), .own (api_Int.c y), .own [aB false, .at (.slice none 0 0)], .own [aB false, .at (.slice none 0 0)], .fix [aU32 1]]) (l := []) (SnL.cons (Sn.pure rfl) (SnL.cons (Sn.pure rfl) SnL.nil)) (integer_made_ok n true v12 v16 hc17)) (callOf_cons (callOk_ref (H := [.own (api_Int.c x'), .own (api_Int.c y), .own [aB false, .at (.slice none 0 0)], .own [aB false, .at (.slice none 0 0)], .fix [aU32 1]]) (l := []) (SnL.cons (Sn.pure rfl) (SnL.cons (Sn.pure rfl) SnL.nil)) (integer_made_ok n y.Negative v14 v18 hc19)) callOf_nil)) <| .mu 4 <| .pure (v := aB true) (by kernel_rfl) (Eq.trans (b := some (.pure (aB (x'.Negative != y.Negative)))) (by kernel_rfl) (by rw [hb11])) (by kernel_rfl) <| .mu 1 <| .cal (by kernel_rfl) (by kernel_rfl) (callOf_at (by kernel_rfl)) (by kernel_rfl) <| .mu 3 <| .cal (by kernel_rfl) (by kernel_rfl) (callOf_skip (fun _ h => by obtain ⟨e0, e1⟩ := integer_made_inj h; rw [show v18 = v16 from Option.some.inj (hc19.symm.trans ((show integer_made n y.Negative v14 = integer_made n true v12 from (congr (congr rfl e0) e1)).trans hc17))]) (callOf_at (by kernel_rfl))) (by kernel_rfl) <| .mu 3 ?_
    refine .done ⟨by kernel_rfl, ?_⟩
    refine .n1 [4, 5, 6] (mkS 55 0 [(4, .hp 2 0), (5, .hp 3 0), (6, aI64 0)]) [.own (api_Int.c x'), .own (api_Int.c y), .own (api_Int.c v16), .own (api_Int.c v18), .fix [aU32 1]] <| .ret ?_
    obtain rfl := Option.some.inj hr
    exact FinQ.ret (vs := [.agg (api_Int.c v16), .agg (api_Int.c v18), aI64 0]) (by kernel_rfl) (Sn.tup (SnL.cons (Sn.pure rfl) (SnL.cons (Sn.pure rfl) (SnL.cons (Sn.pure rfl) SnL.nil))))
   ·replace hr := cd_f hb11 hr
    refine .skip <| .seq ?_
    obtain ⟨v20, hc21, hr⟩ := bd hr
    obtain ⟨v22, hc23, hr⟩ := bd hr
    refine .regionT fine (callOf_cons (callOk_ref (H := [.own (api_Int.c x'), .own (api_Int.c y), .own [aB false, .at (.slice none 0 0)], .own [aB false, .at (.slice none 0 0)]]) (l := []) (SnL.cons (Sn.pure rfl) (SnL.cons (Sn.pure rfl) SnL.nil)) (integer_made_ok n false v6.1 v20 hc21)) (callOf_cons (callOk_ref (H := [.own (api_Int.c x'), .own (api_Int.c y), .own [aB false, .at (.slice none 0 0)], .own [aB false, .at (.slice none 0 0)]]) (l := []) (SnL.cons (Sn.pure rfl) (SnL.cons (Sn.pure rfl) SnL.nil)) (integer_made_ok n y.Negative v8 v22 hc23)) callOf_nil)) <| .mu 4 <| .pure (v := aB false) (by kernel_rfl) (Eq.trans (b := some (.pure (aB (x'.Negative != y.Negative)))) (by kernel_rfl) (by rw [hb11])) (by kernel_rfl) <| .mu 1 <| .cal (by kernel_rfl) (by kernel_rfl) (callOf_at (by kernel_rfl)) (by kernel_rfl) <| .mu 3 <| .cal (by kernel_rfl) (by kernel_rfl) (callOf_skip (fun _ h => by obtain ⟨e0, e1⟩ := integer_made_inj h; rw [show v22 = v20 from Option.some.inj (hc23.symm.trans ((show integer_made n y.Negative v8 = integer_made n false v6.1 from (congr (congr rfl e0) e1)).trans hc21))]) (callOf_at (by kernel_rfl))) (by kernel_rfl) <| .mu 3 ?_
    refine .done ⟨by kernel_rfl, ?_⟩
    refine .n1 [4, 5, 6] (mkS 55 0 [(4, .hp 2 0), (5, .hp 3 0), (6, aI64 0)]) [.own (api_Int.c x'), .own (api_Int.c y), .own (api_Int.c v20), .own (api_Int.c v22)] <| .ret ?_
    obtain rfl := Option.some.inj hr
    exact FinQ.ret (vs := [.agg (api_Int.c v20), .agg (api_Int.c v22), aI64 0]) (by kernel_rfl) (Sn.tup (SnL.cons (Sn.pure rfl) (SnL.cons (Sn.pure rfl) (SnL.cons (Sn.pure rfl) SnL.nil))))
  ·replace hr := cd_f hb10 hr
   refine .r0 fine <| .mu 2 <| .p0 (v := aB false) (Eq.trans (b := some (.pure (aB (decide ((v8.length : Int) > 0))))) (by kernel_rfl) (by rw [hb10])) <| .mu 7 <| .done <| .n1 [2, 3, 4, 5, 8, 9, 10, 37] (mkS 55 0 [(2, .hp 0 0), (3, .hp 1 0), (4, .hp 2 0), (5, .hp 3 0), (8, sU32 v3), (9, sU32 v6.1), (10, sU32 v8), (37, aB false)]) [.own (api_Int.c x'), .own (api_Int.c y), .own [aB false, .at (.slice none 0 0)], .own [aB false, .at (.slice none 0 0)]] <| .cF (by kernel_rfl) <| .skip <| .seq ?_
   obtain ⟨v24, hc25, hr⟩ := bd hr
   obtain ⟨v26, hc27, hr⟩ := bd hr
   refine .regionT fine (callOf_cons (callOk_ref (H := [.own (api_Int.c x'), .own (api_Int.c y), .own [aB false, .at (.slice none 0 0)], .own [aB false, .at (.slice none 0 0)]]) (l := []) (SnL.cons (Sn.pure rfl) (SnL.cons (Sn.pure rfl) SnL.nil)) (integer_made_ok n (x'.Negative != y.Negative) v6.1 v24 hc25)) (callOf_cons (callOk_ref (H := [.own (api_Int.c x'), .own (api_Int.c y), .own [aB false, .at (.slice none 0 0)], .own [aB false, .at (.slice none 0 0)]]) (l := []) (SnL.cons (Sn.pure rfl) (SnL.cons (Sn.pure rfl) SnL.nil)) (integer_made_ok n y.Negative v8 v26 hc27)) callOf_nil)) <| .mu 6 <| .cal (by kernel_rfl) (by kernel_rfl) (callOf_at (by kernel_rfl)) (by kernel_rfl) <| .mu 3 <| .cal (by kernel_rfl) (by kernel_rfl) (callOf_skip (fun _ h => by obtain ⟨e0, e1⟩ := integer_made_inj h; rw [show v26 = v24 from Option.some.inj (hc27.symm.trans ((show integer_made n y.Negative v8 = integer_made n (x'.Negative != y.Negative) v6.1 from (congr (congr rfl e0) e1)).trans hc25))]) (callOf_at (by kernel_rfl))) (by kernel_rfl) <| .mu 3 ?_
   refine .done ⟨by kernel_rfl, ?_⟩
   refine .n1 [4, 5, 6] (mkS 55 0 [(4, .hp 2 0), (5, .hp 3 0), (6, aI64 0)]) [.own (api_Int.c x'), .own (api_Int.c y), .own (api_Int.c v24), .own (api_Int.c v26)] <| .ret ?_
   obtain rfl := Option.some.inj hr
   exact FinQ.ret (vs := [.agg (api_Int.c v24), .agg (api_Int.c v26), aI64 0]) (by kernel_rfl) (Sn.tup (SnL.cons (Sn.pure rfl) (SnL.cons (Sn.pure rfl) (SnL.cons (Sn.pure rfl) SnL.nil))))

theorem fraction_reduced_ok (n : Nat) (num : api_Int) (den : api_Int) (r : api_Rat) (hr : fraction_reduced n num den = some r) : FnOk Tryz.prog 117 [.agg [.at (.bool num.Negative), slT (iC .u32) num.Groups], .agg [.at (.bool den.Negative), slT (iC .u32) den.Groups]] (.agg [.at (.bool r.Num.Negative), slT (iC .u32) r.Num.Groups, .at (.bool r.Den.Negative), slT (iC .u32) r.Den.Groups]) := by
 unfold fraction_reduced at hr
 refine FnOk.body fine Tryz.func117 (c := (Tryz.f117.body).getD .skip) rfl (s := mkS 33 0 [(0, .agg (api_Int.c num)), (1, .agg (api_Int.c den))]) (by kernel_rfl) (rs := [.cell 4 37]) rfl ?_
 unfold Tryz.f117
 simp only [Option.getD_some]
 refine .seq <| .rn fine [2, 3, 4] (mkS 33 0 [(2, .hp 0 0), (3, .hp 1 0), (4, .hp 2 0)]) [.own (api_Int.c num), .own (api_Int.c den), .own [aB false, .at (.slice none 0 0), aB false, .at (.slice none 0 0)]] <| .seq <| .seq ?_
 obtain ⟨v1, hc2, hr⟩ := bd hr
 refine .g1 fine (callOk_val (l := []) rfl (SnL.cons (Sn.pure rfl) SnL.nil) (integer_Sign_ok n den v1 hc2)) <| .mu 1 <| .c0 (by kernel_rfl) (callOf_at (by kernel_rfl)) <| .mu 1 <| .done <| .n1 [2, 3, 4, 8] (mkS 33 0 [(2, .hp 0 0), (3, .hp 1 0), (4, .hp 2 0), (8, aB (decide (v1 < 0)))]) [.own (api_Int.c num), .own (api_Int.c den), .own [aB false, .at (.slice none 0 0), aB false, .at (.slice none 0 0)]] ?_
 refine .cond (t := decide (v1 < 0)) (by kernel_rfl) (fun hb3 => ?_) (fun hb3 => ?_)
 ·replace hr := cd_t hb3 hr
  obtain ⟨v4, hc5, hr⟩ := bd hr
  obtain ⟨v6, hc7, hr⟩ := bd hr
  refine .regionT fine (callOf_cons (callOk_ref (H := [.own (api_Int.c num), .own (api_Int.c den), .own [aB false, .at (.slice none 0 0), aB false, .at (.slice none 0 0)]]) (l := []) (SnL.cons (Sn.pure rfl) SnL.nil) (integer_Neg_ok n num v4 hc5)) (callOf_cons (callOk_ref (H := [.own (api_Int.c num), .own (api_Int.c den), .own [aB false, .at (.slice none 0 0), aB false, .at (.slice none 0 0)]]) (l := []) (SnL.cons (Sn.pure rfl) SnL.nil) (integer_Neg_ok n den v6 hc7)) callOf_nil)) <| .mu 1 <| .cal (by kernel_rfl) (by kernel_rfl) (callOf_at (by kernel_rfl)) (by kernel_rfl) <| .mu 1 <| .cal (by kernel_rfl) (by kernel_rfl) (callOf_skip (fun _ h => by obtain e0 := integer_Neg_inj h; rw [show v6 = v4 from Option.some.inj (hc7.symm.trans ((show integer_Neg n den = integer_Neg n num from (congr rfl e0)).trans hc5))]) (callOf_at (by kernel_rfl))) (by kernel_rfl) <| .mu 2 ?_
  refine .done ⟨by kernel_rfl, ?_⟩
  refine .n1 [2, 3, 4] (mkS 33 0 [(2, .hp 0 0), (3, .hp 1 0), (4, .hp 2 0)]) [.own (api_Int.c v4), .own (api_Int.c v6), .own [aB false, .at (.slice none 0 0), aB false, .at (.slice none 0 0)]] <| .seq ?_
  obtain ⟨v8, hc9, hr⟩ := bd hr
  refine .g1 fine (callOk_ref (l := []) (SnL.cons (Sn.pure rfl) (SnL.cons (Sn.pure rfl) SnL.nil)) (integer_Gcd_ok n v4 v6 v8 hc9)) <| .mu 2 <| .c0 (by kernel_rfl) (callOf_at (by kernel_rfl)) <| .mu 2 <| .done <| .n1 [2, 3, 4, 5] (mkS 33 0 [(2, .hp 0 0), (3, .hp 1 0), (4, .hp 2 0), (5, .hp 3 0)]) [.own (api_Int.c v4), .own (api_Int.c v6), .own [aB false, .at (.slice none 0 0), aB false, .at (.slice none 0 0)], .own (api_Int.c v8)] <| .seq ?_
  obtain ⟨v10, hc11, hr⟩ := bd hr
  refine .g1 fine (callOk_ref (l := []) (SnL.cons (Sn.pure rfl) (SnL.cons (Sn.pure rfl) SnL.nil)) (integer_Divide_ok n v4 v8 v10 hc11)) <| .mu 2 <| .c0 (by kernel_rfl) (callOf_at (by kernel_rfl)) <| .mu 5 <| .done <| .n1 [2, 3, 4, 5] (mkS 33 0 [(2, .hp 0 0), (3, .hp 1 0), (4, .hp 2 0), (5, .hp 3 0)]) [.own (api_Int.c v10.1), .own (api_Int.c v6), .own [aB false, .at (.slice none 0 0), aB false, .at (.slice none 0 0)], .own (api_Int.c v8)] <| .seq ?_
  obtain ⟨v12, hc13, hr⟩ := bd hr
  refine .g1 fine (callOk_ref (l := []) (SnL.cons (Sn.pure rfl) (SnL.cons (Sn.pure rfl) SnL.nil)) (integer_Divide_ok n v6 v8 v12 hc13)) <| .mu 2 <| .c0 (by kernel_rfl) (callOf_at (by kernel_rfl)) <| .mu 5 <| .done <| .n1 [2, 3, 4] (mkS 33 0 [(2, .hp 0 0), (3, .hp 1 0), (4, .hp 2 0)]) [.own (api_Int.c v10.1), .own (api_Int.c v12.1), .own [aB false, .at (.slice none 0 0), aB false, .at (.slice none 0 0)], .own (api_Int.c v8)] <| .seq <| .rn fine [4] (mkS 33 0 [(4, .hp 2 0)]) [.own (api_Int.c v10.1), .own (api_Int.c v12.1), .own [aB v10.1.Negative, sU32 v10.1.Groups, aB v12.1.Negative, sU32 v12.1.Groups], .own (api_Int.c v8)] <| .ret ?_
  obtain rfl := Option.some.inj hr
  exact FinQ.r1 [.agg [aB v10.1.Negative, sU32 v10.1.Groups, aB v12.1.Negative, sU32 v12.1.Groups]]
 ·replace hr := cd_f hb3 hr
  refine .skip <| .seq ?_
  obtain ⟨v14, hc15, hr⟩ := bd hr
  refine .g1 fine (callOk_ref (l := []) (SnL.cons (Sn.pure rfl) (SnL.cons (Sn.pure rfl) SnL.nil)) (integer_Gcd_ok n num den v14 hc15)) <| .mu 2 <| .c0 (by kernel_rfl) (callOf_at (by kernel_rfl)) <| .mu 2 <| .done <| .n1 [2, 3, 4, 5] (mkS 33 0 [(2, .hp 0 0), (3, .hp 1 0), (4, .hp 2 0), (5, .hp 3 0)]) [.own (api_Int.c num), .own (api_Int.c den), .own [aB false, .at (.slice none 0 0), aB false, .at (.slice none 0 0)], .own (api_Int.c v14)] <| .seq ?_
  obtain ⟨v16, hc17, hr⟩ := bd hr
  refine .g1 fine (callOk_ref (l := []) (SnL.cons (Sn.pure rfl) (SnL.cons (Sn.pure rfl) SnL.nil)) (integer_Divide_ok n num v14 v16 hc17)) <| .mu 2 <| .c0 (by kernel_rfl) (callOf_at (by kernel_rfl)) <| .mu 5 <| .done <| .n1 [2, 3, 4, 5] (mkS 33 0 [(2, .hp 0 0), (3, .hp 1 0), (4, .hp 2 0), (5, .hp 3 0)]) [.own (api_Int.c v16.1), .own (api_Int.c den), .own [aB false, .at (.slice none 0 0), aB false, .at (.slice none 0 0)], .own (api_Int.c v14)] <| .seq ?_
  obtain ⟨v18, hc19, hr⟩ := bd hr
  refine .g1 fine (callOk_ref (l := []) (SnL.cons (Sn.pure rfl) (SnL.cons (Sn.pure rfl) SnL.nil)) (integer_Divide_ok n den v14 v18 hc19)) <| .mu 2 <| .c0 (by kernel_rfl) (callOf_at (by kernel_rfl)) <| .mu 5 <| .done <| .n1 [2, 3, 4] (mkS 33 0 [(2, .hp 0 0), (3, .hp 1 0), (4, .hp 2 0)]) [.own (api_Int.c v16.1), .own (api_Int.c v18.1), .own [aB false, .at (.slice none 0 0), aB false, .at (.slice none 0 0)], .own (api_Int.c v14)] <| .seq <| .rn fine [4] (mkS 33 0 [(4, .hp 2 0)]) [.own (api_Int.c v16.1), .own (api_Int.c v18.1), .own [aB v16.1.Negative, sU32 v16.1.Groups, aB v18.1.Negative, sU32 v18.1.Groups], .own (api_Int.c v14)] <| .ret ?_
  obtain rfl := Option.some.inj hr
  exact FinQ.r1 [.agg [aB v16.1.Negative, sU32 v16.1.Groups, aB v18.1.Negative, sU32 v18.1.Groups]]

theorem fraction_New_ok (n : Nat) (num : api_Int) (den : api_Int) (r : api_Rat × Int) (hr : fraction_New n num den = some r) : FnOk Tryz.prog 115 [.agg [.at (.bool num.Negative), slT (iC .u32) num.Groups], .agg [.at (.bool den.Negative), slT (iC .u32) den.Groups]] (.tup [.agg [.at (.bool r.1.Num.Negative), slT (iC .u32) r.1.Num.Groups, .at (.bool r.1.Den.Negative), slT (iC .u32) r.1.Den.Groups], .at (.int .i64 r.2)]) := by
 unfold fraction_New at hr
 refine FnOk.body fine Tryz.func115 (c := (Tryz.f115.body).getD .skip) rfl (s := mkS 17 0 [(0, .agg (api_Int.c num)), (1, .agg (api_Int.c den))]) (by kernel_rfl) (rs := [.cell 4 37, .tmp 5]) rfl ?_
 unfold Tryz.f115
 simp only [Option.getD_some]
 refine .seq <| .rn fine [2, 3, 4] (mkS 17 0 [(2, .hp 0 0), (3, .hp 1 0), (4, .hp 2 0)]) [.own (api_Int.c num), .own (api_Int.c den), .own [aB false, .at (.slice none 0 0), aB false, .at (.slice none 0 0)]] <| .seq ?_
 obtain ⟨v1, hc2, hr⟩ := bd hr
 obtain ⟨v3, hc4, hr⟩ := bd hr
 refine .regionT fine (callOf_cons (callOk_ref (H := [.own (api_Int.c num), .own (api_Int.c den), .own [aB false, .at (.slice none 0 0), aB false, .at (.slice none 0 0)]]) (l := []) (SnL.cons (Sn.pure rfl) SnL.nil) (fraction_counted_ok n num v1 hc2)) (callOf_cons (callOk_ref (H := [.own (api_Int.c num), .own (api_Int.c den), .own [aB false, .at (.slice none 0 0), aB false, .at (.slice none 0 0)]]) (l := []) (SnL.cons (Sn.pure rfl) SnL.nil) (fraction_counted_ok n den v3 hc4)) callOf_nil)) <| .mu 1 <| .cal (by kernel_rfl) (by kernel_rfl) (callOf_at (by kernel_rfl)) (by kernel_rfl) <| .mu 1 <| .cal (by kernel_rfl) (by kernel_rfl) (callOf_skip (fun _ h => by obtain e0 := fraction_counted_inj h; rw [show v3 = v1 from Option.some.inj (hc4.symm.trans ((show fraction_counted n den = fraction_counted n num from (congr rfl e0)).trans hc2))]) (callOf_at (by kernel_rfl))) (by kernel_rfl) <| .mu 2 ?_
 refine .done ⟨by kernel_rfl, ?_⟩
 refine .n1 [2, 3, 4] (mkS 17 0 [(2, .hp 0 0), (3, .hp 1 0), (4, .hp 2 0)]) [.own (api_Int.c v1), .own (api_Int.c v3), .own [aB false, .at (.slice none 0 0), aB false, .at (.slice none 0 0)]] <| .seq <| .seq ?_
 obtain ⟨v5, hc6, hr⟩ := bd hr
 refine .g1 fine (callOk_val (l := []) rfl (SnL.cons (Sn.pure rfl) SnL.nil) (integer_Sign_ok n v3 v5 hc6)) <| .mu 1 <| .c0 (by kernel_rfl) (callOf_at (by kernel_rfl)) <| .mu 1 <| .done <| .n1 [2, 3, 4, 12] (mkS 17 0 [(2, .hp 0 0), (3, .hp 1 0), (4, .hp 2 0), (12, aB ((v5 : Int) == 0))]) [.own (api_Int.c v1), .own (api_Int.c v3), .own [aB false, .at (.slice none 0 0), aB false, .at (.slice none 0 0)]] ?_
 refine .cond (t := (v5 : Int) == 0) (by kernel_rfl) (fun hb7 => ?_) (fun hb7 => ?_)
 ·replace hr := cd_t hb7 hr
  refine .seq <| .rn fine [4, 5] (mkS 17 0 [(4, .hp 2 0), (5, aI64 14)]) [.own (api_Int.c v1), .own (api_Int.c v3), .own [aB false, .at (.slice none 0 0), aB false, .at (.slice none 0 0)]] <| .ret ?_
  obtain rfl := Option.some.inj hr
  exact FinQ.ret (vs := [.agg [aB false, .at (.slice none 0 0), aB false, .at (.slice none 0 0)], aI64 14]) (by kernel_rfl) (Sn.tup (SnL.cons (Sn.agg (SnL.cons (Sn.pure rfl) (SnL.cons Sn.nilsl (SnL.cons (Sn.pure rfl) (SnL.cons Sn.nilsl SnL.nil))))) (SnL.cons (Sn.pure rfl) SnL.nil)))
 ·replace hr := cd_f hb7 hr
  refine .skip <| .seq ?_
  obtain ⟨v8, hc9, hr⟩ := bd hr
  refine .g1 fine (callOk_ref (l := []) (SnL.cons (Sn.pure rfl) (SnL.cons (Sn.pure rfl) SnL.nil)) (fraction_reduced_ok n v1 v3 v8 hc9)) <| .mu 2 <| .c0 (by kernel_rfl) (callOf_at (by kernel_rfl)) <| .mu 2 <| .done <| .n1 [4, 5] (mkS 17 0 [(4, .hp 2 0), (5, aI64 0)]) [.own (api_Int.c v1), .own (api_Int.c v3), .own (api_Rat.c v8)] <| .ret ?_
  obtain rfl := Option.some.inj hr
  exact FinQ.ret (vs := [.agg (api_Rat.c v8), aI64 0]) (by kernel_rfl) (Sn.tup (SnL.cons (Sn.pure rfl) (SnL.cons (Sn.pure rfl) SnL.nil)))

theorem fraction_Of_ok (n : Nat) (n' : Int) (d : Int) (r : api_Rat × Int) (hr : fraction_Of n n' d = some r) : FnOk Tryz.prog 81 [.at (.int .i64 n'), .at (.int .i64 d)] (.tup [.agg [.at (.bool r.1.Num.Negative), slT (iC .u32) r.1.Num.Groups, .at (.bool r.1.Den.Negative), slT (iC .u32) r.1.Den.Groups], .at (.int .i64 r.2)]) := by
 unfold fraction_Of at hr
 refine FnOk.body fine Tryz.func81 (c := (Tryz.f81.body).getD .skip) rfl (s := mkS 13 0 [(0, aI64 n'), (1, aI64 d)]) (by kernel_rfl) (rs := [.cell 4 37, .tmp 5]) rfl ?_
 unfold Tryz.f81
 simp only [Option.getD_some]
 refine .seq <| .rn fine [0, 1, 4] (mkS 13 0 [(0, aI64 n'), (1, aI64 d), (4, .hp 0 0)]) [.own [aB false, .at (.slice none 0 0), aB false, .at (.slice none 0 0)]] <| .seq ?_
 obtain ⟨v1, hc2, hr⟩ := bd hr
 obtain ⟨v3, hc4, hr⟩ := bd hr
 obtain ⟨v5, hc6, hr⟩ := bd hr
 refine .region fine (callOf_cons (callOk_ref (H := [.own [aB false, .at (.slice none 0 0), aB false, .at (.slice none 0 0)]]) (l := []) (SnL.cons (Sn.pure rfl) SnL.nil) (integer_Of_ok n n' v1 hc2)) (callOf_cons (callOk_ref (H := [.own [aB false, .at (.slice none 0 0), aB false, .at (.slice none 0 0)]]) (l := []) (SnL.cons (Sn.pure rfl) SnL.nil) (integer_Of_ok n d v3 hc4)) (callOf_cons (callOk_ref (H := [.own [aB false, .at (.slice none 0 0), aB false, .at (.slice none 0 0)]]) (l := []) (SnL.cons (Sn.pure rfl) (SnL.cons (Sn.pure rfl) SnL.nil)) (fraction_New_ok n v1 v3 v5 hc6)) callOf_nil))) <| .mu 1 <| .c0 (by kernel_rfl) (callOf_at (by kernel_rfl)) <| .mu 1 <| .c0 (by kernel_rfl) (callOf_skip (fun _ h => by obtain e0 := integer_Of_inj h; rw [show v3 = v1 from Option.some.inj (hc4.symm.trans ((show integer_Of n d = integer_Of n n' from (congr rfl e0)).trans hc2))]) (callOf_at (by kernel_rfl))) <| .c0 (by kernel_rfl) (callOf_skip (fun h _ => absurd (show (115 : Nat) = 64 from h) (by decide)) (callOf_skip (fun h _ => absurd (show (115 : Nat) = 64 from h) (by decide)) (callOf_at (by kernel_rfl)))) <| .mu 4 <| .done <| .n1 [4, 5] (mkS 13 0 [(4, .hp 0 0), (5, aI64 v5.2)]) [.own (api_Rat.c v5.1)] <| .ret ?_
 obtain rfl := Option.some.inj hr
 exact FinQ.ret (vs := [.agg (api_Rat.c v5.1), aI64 v5.2]) (by kernel_rfl) (Sn.tup (SnL.cons (Sn.pure rfl) (SnL.cons (Sn.pure rfl) SnL.nil)))

theorem integer_Compare_ok (n : Nat) (x' : api_Int) (y : api_Int) (r : Int) (hr : integer_Compare n x' y = some r) : FnOk Tryz.prog 155 [.agg [.at (.bool x'.Negative), slT (iC .u32) x'.Groups], .agg [.at (.bool y.Negative), slT (iC .u32) y.Groups]] (.at (.int .i64 r)) := by
 unfold integer_Compare at hr
 refine FnOk.body fine Tryz.func155 (c := (Tryz.f155.body).getD .skip) rfl (s := mkS 28 0 [(0, .agg (api_Int.c x')), (1, .agg (api_Int.c y))]) (by kernel_rfl) (rs := [.tmp 4]) rfl ?_
 unfold Tryz.f155
 simp only [Option.getD_some]
 refine .seq <| .rn fine [2, 3] (mkS 28 0 [(2, .hp 0 0), (3, .hp 1 0)]) [.own (api_Int.c x'), .own (api_Int.c y)] <| .seq <| .seq ?_
 obtain ⟨v1, hc2, hr⟩ := bd hr
 obtain ⟨v3, hc4, hr⟩ := bd hr
 refine .regionT fine (callOf_cons (callOk_val (H := [.own (api_Int.c x'), .own (api_Int.c y)]) (l := []) rfl (SnL.cons (Sn.pure rfl) SnL.nil) (integer_Sign_ok n x' v1 hc2)) (callOf_cons (callOk_val (H := [.own (api_Int.c x'), .own (api_Int.c y)]) (l := []) rfl (SnL.cons (Sn.pure rfl) SnL.nil) (integer_Sign_ok n y v3 hc4)) callOf_nil)) <| .mu 1 <| .cal (by kernel_rfl) (by kernel_rfl) (callOf_at (by kernel_rfl)) (by kernel_rfl) <| .mu 1 <| .cal (by kernel_rfl) (by kernel_rfl) (callOf_skip (fun _ h => by obtain e0 := integer_Sign_inj h; rw [show v3 = v1 from Option.some.inj (hc4.symm.trans ((show integer_Sign n y = integer_Sign n x' from (congr rfl e0)).trans hc2))]) (callOf_at (by kernel_rfl))) (by kernel_rfl) <| .mu 2 ?_
 refine .done ⟨by kernel_rfl, ?_⟩
 refine .n1 [2, 3, 5, 6] (mkS 28 0 [(2, .hp 0 0), (3, .hp 1 0), (5, aI64 v1), (6, aI64 v3)]) [.own (api_Int.c x'), .own (api_Int.c y)] <| .seq <| .rn fine [2, 3, 5, 6, 14] (mkS 28 0 [(2, .hp 0 0), (3, .hp 1 0), (5, aI64 v1), (6, aI64 v3), (14, aB ((v1 : Int) != v3))]) [.own (api_Int.c x'), .own (api_Int.c y)] ?_
 refine .cond (t := (v1 : Int) != v3) (by kernel_rfl) (fun hb5 => ?_) (fun hb5 => ?_)
 ·replace hr := cd_t hb5 hr
  refine .seq ?_
  obtain ⟨v6, hc7, hr⟩ := bd hr
  refine .g1 fine (callOk_val (l := []) rfl (SnL.cons (Sn.pure rfl) (SnL.cons (Sn.pure rfl) SnL.nil)) (cmp_Compare_int_ok n v1 v3 v6 hc7)) <| .mu 2 <| .c0 (by kernel_rfl) (callOf_at (by kernel_rfl)) <| .mu 1 <| .done <| .ret ?_
  obtain rfl := Option.some.inj hr
  exact FinQ.r1 [aI64 v6]
 ·replace hr := cd_f hb5 hr
  refine .skip <| .seq ?_
  obtain ⟨v8, hc9, hr⟩ := bd hr
  obtain ⟨v10, hc11, hr⟩ := bd hr
  obtain ⟨v12, hc13, hr⟩ := bd hr
  refine .regionT fine (callOf_cons (callOk_ref (H := [.own (api_Int.c x'), .own (api_Int.c y)]) (l := []) (SnL.cons (Sn.pure rfl) SnL.nil) (integer_groups_ok n x' v8 hc9)) (callOf_cons (callOk_ref (H := [.own (api_Int.c x'), .own (api_Int.c y)]) (l := []) (SnL.cons (Sn.pure rfl) SnL.nil) (integer_groups_ok n y v10 hc11)) (callOf_cons (callOk_val (H := [.own (api_Int.c x'), .own (api_Int.c y)]) (l := []) rfl (SnL.cons (Sn.pure rfl) (SnL.cons (Sn.pure rfl) SnL.nil)) (integer_compare_ok n v8 v10 v12 hc13)) callOf_nil))) <| .mu 1 <| .cal (by kernel_rfl) (by kernel_rfl) (callOf_at (by kernel_rfl)) (by kernel_rfl) <| .mu 1 <| .cal (by kernel_rfl) (by kernel_rfl) (callOf_skip (fun _ h => by obtain e0 := integer_groups_inj h; rw [show v10 = v8 from Option.some.inj (hc11.symm.trans ((show integer_groups n y = integer_groups n x' from (congr rfl e0)).trans hc9))]) (callOf_at (by kernel_rfl))) (by kernel_rfl) <| .cal (by kernel_rfl) (by kernel_rfl) (callOf_skip (fun h _ => absurd (show (133 : Nat) = 106 from h) (by decide)) (callOf_skip (fun h _ => absurd (show (133 : Nat) = 106 from h) (by decide)) (callOf_at (by kernel_rfl)))) (by kernel_rfl) <| .mu 1 ?_
  refine .done ⟨by kernel_rfl, ?_⟩
  refine .n1 [2, 7] (mkS 28 0 [(2, .hp 0 0), (7, aI64 v12)]) [.own (api_Int.c x'), .own (api_Int.c y)] <| .seq <| .seq <| .rn fine [7, 24] (mkS 28 0 [(7, aI64 v12), (24, aB x'.Negative)]) [.own (api_Int.c x'), .own (api_Int.c y)] ?_
  refine .cond (t := x'.Negative) (by kernel_rfl) (fun hb14 => ?_) (fun hb14 => ?_)
  ·replace hr := cd_t hb14 hr
   refine .seq <| .r0 fine <| .mu 1 <| .p0 (v := aI64 (wrapF .i64 (0 - v12))) (Eq.trans (b := some (.pure (aI64 (IntKind.wrap .i64 (0 - v12))))) (by kernel_rfl) wrap_at) <| .mu 1 <| .done <| .ret ?_
   obtain rfl := Option.some.inj hr
   exact FinQ.r1 [aI64 (wrapF .i64 (0 - v12))]
  ·replace hr := cd_f hb14 hr
   refine .skip <| .seq <| .ru fine <| .ret ?_
   obtain rfl := Option.some.inj hr
   exact FinQ.r1 [aI64 v12]

theorem fraction_Valid_ok (n : Nat) (x' : api_Rat) (r : Bool) (hr : fraction_Valid n x' = some r) : FnOk Tryz.prog 138 [.agg [.at (.bool x'.Num.Negative), slT (iC .u32) x'.Num.Groups, .at (.bool x'.Den.Negative), slT (iC .u32) x'.Den.Groups]] (.at (.bool r)) := by
 unfold fraction_Valid at hr
 refine FnOk.body fine Tryz.func138 (c := (Tryz.f138.body).getD .skip) rfl (s := mkS 27 0 [(0, .agg (api_Rat.c x'))]) (by kernel_rfl) (rs := [.tmp 2]) rfl ?_
 unfold Tryz.f138
 simp only [Option.getD_some]
 refine .seq <| .rn fine [1] (mkS 27 0 [(1, .hp 0 0)]) [.own (api_Rat.c x')] <| .seq <| .seq ?_
 obtain ⟨v1, hc2, hr⟩ := bd hr
 rcases Bool.eq_false_or_eq_true (!v1) with hb3 | hb3
 ·replace hr := cd_t hb3 hr
  refine .g1 fine (callOk_val (l := []) rfl (SnL.cons (Sn.pure rfl) SnL.nil) (integer_Valid_ok n x'.Num v1 hc2)) <| .mu 2 <| .c0 (by kernel_rfl) (callOf_at (by kernel_rfl)) <| .p0 (v := aB true) (Eq.trans (b := some (.pure (aB (!v1)))) (by kernel_rfl) (by rw [hb3])) <| .mu 12 <| .done <| .n1 [1, 18] (mkS 27 0 [(1, .hp 0 0), (18, aB true)]) [.own (api_Rat.c x')] <| .cT (by kernel_rfl) <| .seq <| .ru fine <| .ret ?_
  obtain rfl := Option.some.inj hr
  exact FinQ.r1 [aB false]
 ·replace hr := cd_f hb3 hr
  obtain ⟨v4, hc5, hr⟩ := bd hr
  rcases Bool.eq_false_or_eq_true (!v4) with hb6 | hb6
  ·replace hr := cd_t hb6 hr
   refine .region fine (callOf_cons (callOk_val (H := [.own (api_Rat.c x')]) (l := []) rfl (SnL.cons (Sn.pure rfl) SnL.nil) (integer_Valid_ok n x'.Num v1 hc2)) (callOf_cons (callOk_val (H := [.own (api_Rat.c x')]) (l := []) rfl (SnL.cons (Sn.pure rfl) SnL.nil) (integer_Valid_ok n x'.Den v4 hc5)) callOf_nil)) <| .mu 2 <| .c0 (by kernel_rfl) (callOf_at (by kernel_rfl)) <| .p0 (v := aB false) (Eq.trans (b := some (.pure (aB (!v1)))) (by kernel_rfl) (by rw [hb3])) <| .mu 3 <| .cal (by kernel_rfl) (by kernel_rfl) (callOf_skip (fun _ h => by obtain e0 := integer_Valid_inj h; rw [show v4 = v1 from Option.some.inj (hc5.symm.trans ((show integer_Valid n x'.Den = integer_Valid n x'.Num from (congr rfl e0)).trans hc2))]) (callOf_at (by kernel_rfl))) <| .pure (v := aB true) (by kernel_rfl) (Eq.trans (b := some (.pure (aB (!v4)))) (by kernel_rfl) (by rw [hb6])) <| .mu 7 <| .done <| .n1 [1, 18] (mkS 27 0 [(1, .hp 0 0), (18, aB true)]) [.own (api_Rat.c x')] <| .cT (by kernel_rfl) <| .seq <| .ru fine <| .ret ?_
   obtain rfl := Option.some.inj hr
   exact FinQ.r1 [aB false]
  ·replace hr := cd_f hb6 hr
   obtain ⟨v7, hc8, hr⟩ := bd hr
   refine .region fine (callOf_cons (callOk_val (H := [.own (api_Rat.c x')]) (l := []) rfl (SnL.cons (Sn.pure rfl) SnL.nil) (integer_Valid_ok n x'.Num v1 hc2)) (callOf_cons (callOk_val (H := [.own (api_Rat.c x')]) (l := []) rfl (SnL.cons (Sn.pure rfl) SnL.nil) (integer_Valid_ok n x'.Den v4 hc5)) (callOf_cons (callOk_val (H := [.own (api_Rat.c x')]) (l := []) rfl (SnL.cons (Sn.pure rfl) SnL.nil) (integer_Sign_ok n x'.Den v7 hc8)) callOf_nil))) <| .mu 2 <| .c0 (by kernel_rfl) (callOf_at (by kernel_rfl)) <| .p0 (v := aB false) (Eq.trans (b := some (.pure (aB (!v1)))) (by kernel_rfl) (by rw [hb3])) <| .mu 3 <| .cal (by kernel_rfl) (by kernel_rfl) (callOf_skip (fun _ h => by obtain e0 := integer_Valid_inj h; rw [show v4 = v1 from Option.some.inj (hc5.symm.trans ((show integer_Valid n x'.Den = integer_Valid n x'.Num from (congr rfl e0)).trans hc2))]) (callOf_at (by kernel_rfl))) <| .pure (v := aB false) (by kernel_rfl) (Eq.trans (b := some (.pure (aB (!v4)))) (by kernel_rfl) (by rw [hb6])) <| .mu 4 <| .cal (by kernel_rfl) (by kernel_rfl) (callOf_skip (fun h _ => absurd (show (69 : Nat) = 135 from h) (by decide)) (callOf_skip (fun h _ => absurd (show (69 : Nat) = 135 from h) (by decide)) (callOf_at (by kernel_rfl)))) <| .mu 2 <| .done <| .n1 [1, 18] (mkS 27 0 [(1, .hp 0 0), (18, aB (decide (v7 ≤ 0)))]) [.own (api_Rat.c x')] ?_
   refine .cond (t := decide (v7 ≤ 0)) (by kernel_rfl) (fun hb9 => ?_) (fun hb9 => ?_)
   ·replace hr := cd_t hb9 hr
    refine .seq <| .ru fine <| .ret ?_
    obtain rfl := Option.some.inj hr
    exact FinQ.r1 [aB false]
   ·replace hr := cd_f hb9 hr
    refine .skip <| .seq ?_
    obtain ⟨v10, hc11, hr⟩ := bd hr
    obtain ⟨v12, hc13, hr⟩ := bd hr
    obtain ⟨v14, hc15, hr⟩ := bd hr
    refine .region fine (callOf_cons (callOk_ref (H := [.own (api_Rat.c x')]) (l := []) (SnL.cons (Sn.pure rfl) (SnL.cons (Sn.pure rfl) SnL.nil)) (integer_Gcd_ok n x'.Num x'.Den v10 hc11)) (callOf_cons (callOk_ref (H := [.own (api_Rat.c x')]) (l := []) (SnL.cons (Sn.pure rfl) SnL.nil) (integer_Of_ok n 1 v12 hc13)) (callOf_cons (callOk_val (H := [.own (api_Rat.c x')]) (l := []) rfl (SnL.cons (Sn.pure rfl) (SnL.cons (Sn.pure rfl) SnL.nil)) (integer_Compare_ok n v10 v12 v14 hc15)) callOf_nil))) <| .mu 4 <| .c0 (by kernel_rfl) (callOf_at (by kernel_rfl)) <| .c0 (by kernel_rfl) (callOf_skip (fun h _ => absurd (show (64 : Nat) = 141 from h) (by decide)) (callOf_at (by kernel_rfl))) <| .c0 (by kernel_rfl) (callOf_skip (fun h _ => absurd (show (155 : Nat) = 141 from h) (by decide)) (callOf_skip (fun h _ => absurd (show (155 : Nat) = 64 from h) (by decide)) (callOf_at (by kernel_rfl)))) <| .mu 2 <| .done <| .ret ?_
    obtain rfl := Option.some.inj hr
    exact FinQ.r1 [aB ((v14 : Int) == 0)]

theorem fraction_copied_ok (n : Nat) (x' : api_Rat) (r : api_Rat) (hr : fraction_copied n x' = some r) : FnOk Tryz.prog 139 [.agg [.at (.bool x'.Num.Negative), slT (iC .u32) x'.Num.Groups, .at (.bool x'.Den.Negative), slT (iC .u32) x'.Den.Groups]] (.agg [.at (.bool r.Num.Negative), slT (iC .u32) r.Num.Groups, .at (.bool r.Den.Negative), slT (iC .u32) r.Den.Groups]) := by
 unfold fraction_copied at hr
 refine FnOk.body fine Tryz.func139 (c := (Tryz.f139.body).getD .skip) rfl (s := mkS 12 0 [(0, .agg (api_Rat.c x'))]) (by kernel_rfl) (rs := [.cell 2 37]) rfl ?_
 unfold Tryz.f139
 simp only [Option.getD_some]
 refine .seq <| .rn fine [1, 2] (mkS 12 0 [(1, .hp 0 0), (2, .hp 1 0)]) [.own (api_Rat.c x'), .own [aB false, .at (.slice none 0 0), aB false, .at (.slice none 0 0)]] <| .seq ?_
 obtain ⟨v1, hc2, hr⟩ := bd hr
 obtain ⟨v3, hc4, hr⟩ := bd hr
 obtain ⟨v5, hc6, hr⟩ := bd hr
 obtain ⟨v7, hc8, hr⟩ := bd hr
 refine .regionT fine (callOf_cons (callOk_ref (H := [.own (api_Rat.c x'), .own [aB false, .at (.slice none 0 0), aB false, .at (.slice none 0 0)]]) (l := []) (SnL.cons (Sn.pure rfl) SnL.nil) (integer_Neg_ok n x'.Num v1 hc2)) (callOf_cons (callOk_ref (H := [.own (api_Rat.c x'), .own [aB false, .at (.slice none 0 0), aB false, .at (.slice none 0 0)]]) (l := []) (SnL.cons (Sn.pure rfl) SnL.nil) (integer_Neg_ok n v1 v3 hc4)) (callOf_cons (callOk_ref (H := [.own (api_Rat.c x'), .own [aB false, .at (.slice none 0 0), aB false, .at (.slice none 0 0)]]) (l := []) (SnL.cons (Sn.pure rfl) SnL.nil) (integer_Neg_ok n x'.Den v5 hc6)) (callOf_cons (callOk_ref (H := [.own (api_Rat.c x'), .own [aB false, .at (.slice none 0 0), aB false, .at (.slice none 0 0)]]) (l := []) (SnL.cons (Sn.pure rfl) SnL.nil) (integer_Neg_ok n v5 v7 hc8)) callOf_nil)))) <| .mu 2 <| .cal (by kernel_rfl) (by kernel_rfl) (callOf_at (by kernel_rfl)) (by kernel_rfl) <| .cal (by kernel_rfl) (by kernel_rfl) (callOf_skip (fun _ h => by obtain e0 := integer_Neg_inj h; rw [show v3 = v1 from Option.some.inj (hc4.symm.trans ((show integer_Neg n v1 = integer_Neg n x'.Num from (congr rfl e0)).trans hc2))]) (callOf_at (by kernel_rfl))) (by kernel_rfl) <| .mu 2 <| .cal (by kernel_rfl) (by kernel_rfl) (callOf_skip (fun _ h => by obtain e0 := integer_Neg_inj h; rw [show v5 = v1 from Option.some.inj (hc6.symm.trans ((show integer_Neg n x'.Den = integer_Neg n x'.Num from (congr rfl e0)).trans hc2))]) (callOf_skip (fun _ h => by obtain e0 := integer_Neg_inj h; rw [show v5 = v3 from Option.some.inj (hc6.symm.trans ((show integer_Neg n x'.Den = integer_Neg n v1 from (congr rfl e0)).trans hc4))]) (callOf_at (by kernel_rfl)))) (by kernel_rfl) <| .cal (by kernel_rfl) (by kernel_rfl) (callOf_skip (fun _ h => by obtain e0 := integer_Neg_inj h; rw [show v7 = v1 from Option.some.inj (hc8.symm.trans ((show integer_Neg n v5 = integer_Neg n x'.Num from (congr rfl e0)).trans hc2))]) (callOf_skip (fun _ h => by obtain e0 := integer_Neg_inj h; rw [show v7 = v3 from Option.some.inj (hc8.symm.trans ((show integer_Neg n v5 = integer_Neg n v1 from (congr rfl e0)).trans hc4))]) (callOf_skip (fun _ h => by obtain e0 := integer_Neg_inj h; rw [show v7 = v5 from Option.some.inj (hc8.symm.trans ((show integer_Neg n v5 = integer_Neg n x'.Den from (congr rfl e0)).trans hc6))]) (callOf_at (by kernel_rfl))))) (by kernel_rfl) <| .mu 2 ?_
 refine .done ⟨by kernel_rfl, ?_⟩
 refine .n1 [2] (mkS 12 0 [(2, .hp 1 0)]) [.own (api_Rat.c x'), .own [aB v3.Negative, sU32 v3.Groups, aB v7.Negative, sU32 v7.Groups]] <| .ret ?_
 obtain rfl := Option.some.inj hr
 exact FinQ.r1 [.agg [aB v3.Negative, sU32 v3.Groups, aB v7.Negative, sU32 v7.Groups]]

theorem fraction_Value_inj {x' : api_Rat} {x'_ : api_Rat} (h : ([.agg [.at (.bool x'.Num.Negative), slT (iC .u32) x'.Num.Groups, .at (.bool x'.Den.Negative), slT (iC .u32) x'.Den.Groups]] : List AV) = [.agg [.at (.bool x'_.Num.Negative), slT (iC .u32) x'_.Num.Groups, .at (.bool x'_.Den.Negative), slT (iC .u32) x'_.Den.Groups]]) : x' = x'_ := by
 obtain ⟨⟨_, _⟩, ⟨_, _⟩⟩ := x'
 obtain ⟨⟨_, _⟩, ⟨_, _⟩⟩ := x'_
 simp only [List.cons.injEq, AV.agg.injEq, AV.at.injEq, Value.int.injEq, Value.bool.injEq, AV.fn.injEq, AV.pp.injEq, true_and, and_true, slT_inj_int] at h
 simp_all
theorem fraction_Value_ok (n : Nat) (x' : api_Rat) (r : api_Rat) (hr : fraction_Value n x' = some r) : FnOk Tryz.prog 116 [.agg [.at (.bool x'.Num.Negative), slT (iC .u32) x'.Num.Groups, .at (.bool x'.Den.Negative), slT (iC .u32) x'.Den.Groups]] (.agg [.at (.bool r.Num.Negative), slT (iC .u32) r.Num.Groups, .at (.bool r.Den.Negative), slT (iC .u32) r.Den.Groups]) := by
 unfold fraction_Value at hr
 refine FnOk.body fine Tryz.func116 (c := (Tryz.f116.body).getD .skip) rfl (s := mkS 8 0 [(0, .agg (api_Rat.c x'))]) (by kernel_rfl) (rs := [.cell 2 37]) rfl ?_
 unfold Tryz.f116
 simp only [Option.getD_some]
 refine .seq <| .rn fine [1, 2] (mkS 8 0 [(1, .hp 0 0), (2, .hp 1 0)]) [.own (api_Rat.c x'), .own [aB false, .at (.slice none 0 0), aB false, .at (.slice none 0 0)]] <| .seq <| .seq ?_
 obtain ⟨v1, hc2, hr⟩ := bd hr
 refine .g1 fine (callOk_val (l := []) rfl (SnL.cons (Sn.pure rfl) SnL.nil) (fraction_Valid_ok n x' v1 hc2)) <| .mu 1 <| .c0 (by kernel_rfl) (callOf_at (by kernel_rfl)) <| .done <| .n1 [1, 2, 4] (mkS 8 0 [(1, .hp 0 0), (2, .hp 1 0), (4, aB v1)]) [.own (api_Rat.c x'), .own [aB false, .at (.slice none 0 0), aB false, .at (.slice none 0 0)]] ?_
 refine .cond (t := v1) (by kernel_rfl) (fun hb3 => ?_) (fun hb3 => ?_)
 ·replace hr := cd_t hb3 hr
  refine .seq ?_
  obtain ⟨v4, hc5, hr⟩ := bd hr
  refine .g1 fine (callOk_ref (l := []) (SnL.cons (Sn.pure rfl) SnL.nil) (fraction_copied_ok n x' v4 hc5)) <| .mu 1 <| .c0 (by kernel_rfl) (callOf_at (by kernel_rfl)) <| .mu 1 <| .done <| .n1 [2] (mkS 8 0 [(2, .hp 1 0)]) [.own (api_Rat.c x'), .own (api_Rat.c v4)] <| .ret ?_
  obtain rfl := Option.some.inj hr
  exact FinQ.r1 [.agg (api_Rat.c v4)]
 ·replace hr := cd_f hb3 hr
  refine .skip <| .seq ?_
  obtain ⟨v6, hc7, hr⟩ := bd hr
  refine .g1 fine (callOk_ref (l := []) (SnL.cons (Sn.pure rfl) SnL.nil) (fraction_Whole_ok n 0 v6 hc7)) <| .c0 (by kernel_rfl) (callOf_at (by kernel_rfl)) <| .mu 1 <| .done <| .n1 [2] (mkS 8 0 [(2, .hp 1 0)]) [.own (api_Rat.c x'), .own (api_Rat.c v6)] <| .ret ?_
  obtain rfl := Option.some.inj hr
  exact FinQ.r1 [.agg (api_Rat.c v6)]

theorem integer_times_ok (n : Nat) (a : List Int) (b : List Int) (r : List Int) (hr : integer_times n a b = some r) : FnOk Tryz.prog 107 [slT (iC .u32) a, slT (iC .u32) b] (slT (iC .u32) r) := by
 unfold integer_times at hr
 refine FnOk.body fine Tryz.func107 (c := (Tryz.f107.body).getD .skip) rfl (s := mkS 69 0 [(0, sU32 a), (1, sU32 b)]) (by kernel_rfl) (rs := [.tmp 4]) rfl ?_
 unfold Tryz.f107
 simp only [Option.getD_some]
 refine .seq <| .rn fine [0, 1] (mkS 69 0 [(0, sU32 a), (1, sU32 b)]) [] <| .seq ?_
 obtain ⟨hg1, hr⟩ := gd hr
 obtain ⟨hg2, hr⟩ := gd hr
 obtain ⟨hg3, hr⟩ := gd hr
 refine .r0 fine <| .mu 5 <| .e0 (v := .hs 0 0 (List.replicate (wrapF .i64 ((a.length : Int) + (b.length : Int))).toNat (0 : Int)).length 1) (ws := [(0, .own ((List.replicate (wrapF .i64 ((a.length : Int) + (b.length : Int))).toNat (0 : Int)).flatMap (iC .u32)))]) (Eq.trans (b := guardO (decide (0 ≤ (wrapF .i64 ((a.length : Int) + (b.length : Int)))) && decide ((wrapF .i64 ((a.length : Int) + (b.length : Int))) ≤ (wrapF .i64 ((a.length : Int) + (b.length : Int)))) && decide ((4 : Int) * (wrapF .i64 ((a.length : Int) + (b.length : Int))) ≤ 281474976710656) && decide ((wrapF .i64 ((a.length : Int) + (b.length : Int))) ≤ 9223372036854775807) && true && true && true) (some (.eff (.hs 0 0 (wrapF .i64 ((a.length : Int) + (b.length : Int))).toNat 1) [(0, .own (zerosA [aU32 0] (wrapF .i64 ((a.length : Int) + (b.length : Int))).toNat))]))) (by kernel_rfl) (make_own (c := (iC .u32)) (z := 0) rfl hg1 hg2 hg3)) <| .mu 1 <| .done <| .n1 [0, 1, 5] (mkS 69 0 [(0, sU32 a), (1, sU32 b), (5, .hs 0 0 (List.replicate (wrapF .i64 ((a.length : Int) + (b.length : Int))).toNat (0 : Int)).length 1)]) [.own ((List.replicate (wrapF .i64 ((a.length : Int) + (b.length : Int))).toNat (0 : Int)).flatMap (iC .u32))] <| .seq <| .seq <| .rn fine [1, 5, 18, 19, 20] (mkS 69 0 [(1, sU32 b), (5, .hs 0 0 (List.replicate (wrapF .i64 ((a.length : Int) + (b.length : Int))).toNat (0 : Int)).length 1), (18, sU32 a), (19, aI64 (a.length : Int)), (20, aI64 0)]) [.own ((List.replicate (wrapF .i64 ((a.length : Int) + (b.length : Int))).toNat (0 : Int)).flatMap (iC .u32))] <| .block ?_
 replace hr := bd hr; obtain ⟨out_24, hL45, hr⟩ := hr
 refine .loopO (σ := fun z0 => match z0 with | (out_4, x_5) => ⟨mkS 69 0 [(1, sU32 b), (5, .hs 0 0 out_4.length 1), (18, sU32 a), (19, aI64 (a.length : Int)), (20, aI64 x_5)], [.own (out_4.flatMap (iC .u32))]⟩) (Q := fun x st' => x = .exit 0 ∧ Wk 0 st' ⟨mkS 69 0 [(5, .hs 0 0 out_24.length 1)], [.own (out_24.flatMap (iC .u32))]⟩) hL45 ((Wk.gc [1, 5, 18, 19, 20] [(0, false)] rfl (pKo (iC .u32) (iC_pure _) (List.replicate (wrapF .i64 ((a.length : Int) + (b.length : Int))).toNat (0 : Int)) trivial)).to (by kernel_rfl)) ?_ ?_
 ·clear hr
  rintro m ⟨out_4, x_5⟩ hr
  show CQ _ _ _ _ _ ⟨_, _⟩
  refine .seq <| .rn fine [1, 5, 18, 19, 20, 21] (mkS 69 0 [(1, sU32 b), (5, .hs 0 0 out_4.length 1), (18, sU32 a), (19, aI64 (a.length : Int)), (20, aI64 x_5), (21, aB (decide (x_5 < (a.length : Int))))]) [.own (out_4.flatMap (iC .u32))] <| .seq ?_
  refine .cond (t := decide (x_5 < (a.length : Int))) (by kernel_rfl) (fun hb26 => ?_) (fun hb26 => ?_)
  ·replace hr := cd_t hb26 hr
   refine .skip <| .seq <| .block <| .seq ?_
   obtain ⟨hg27, hr⟩ := gd hr
   refine .r0 fine <| .mu 1 <| .p0 (v := .pp (a.flatMap (iC .u32)) (x_5.toNat * 1)) (Eq.trans (b := ORes.ofP (guardV (inR x_5 a.length) (.pp (a.flatMap (iC .u32)) (x_5.toNat * 1)))) (by kernel_rfl) (ofP_guard hg27)) <| .p0 (v := aU32 (gt a x_5)) (Eq.trans (b := ORes.ofP ((a.flatMap (iC .u32))[x_5.toNat * 1]?)) (by kernel_rfl) (ofP_some (flat_get (iC_len _) (inR_lt hg27) (by decide : 0 < 1) (by omega : x_5.toNat * 1 = x_5.toNat * 1 + 0) (by kernel_rfl)))) <| .mu 2 <| .done <| .n1 [1, 5, 6, 7, 18, 19, 20] (mkS 69 0 [(1, sU32 b), (5, .hs 0 0 out_4.length 1), (6, aI64 x_5), (7, aU32 (gt a x_5)), (18, sU32 a), (19, aI64 (a.length : Int)), (20, aI64 x_5)]) [.own (out_4.flatMap (iC .u32))] <| .seq <| .rn fine [1, 5, 6, 7, 8, 18, 19, 20] (mkS 69 0 [(1, sU32 b), (5, .hs 0 0 out_4.length 1), (6, aI64 x_5), (7, aU32 (gt a x_5)), (8, aU64 0), (18, sU32 a), (19, aI64 (a.length : Int)), (20, aI64 x_5)]) [.own (out_4.flatMap (iC .u32))] <| .seq <| .seq <| .rn fine [1, 5, 6, 7, 8, 18, 19, 20, 25, 26, 27] (mkS 69 0 [(1, sU32 b), (5, .hs 0 0 out_4.length 1), (6, aI64 x_5), (7, aU32 (gt a x_5)), (8, aU64 0), (18, sU32 a), (19, aI64 (a.length : Int)), (20, aI64 x_5), (25, sU32 b), (26, aI64 (b.length : Int)), (27, aI64 0)]) [.own (out_4.flatMap (iC .u32))] <| .block ?_
   replace hr := bd hr; obtain ⟨o40, hL41, hr⟩ := hr
   refine .loopO (σ := fun z0 => match z0 with | (out_28, carry_29, x_30) => ⟨mkS 69 0 [(1, sU32 b), (5, .hs 0 0 out_28.length 1), (6, aI64 x_5), (7, aU32 (gt a x_5)), (8, aU64 carry_29), (18, sU32 a), (19, aI64 (a.length : Int)), (20, aI64 x_5), (25, sU32 b), (26, aI64 (b.length : Int)), (27, aI64 x_30)], [.own (out_28.flatMap (iC .u32))]⟩) (Q := fun x st' => match (generalizing := false) o40 with | (out_34, carry_35) => x = .exit 2 ∧ Wk 0 st' ⟨mkS 69 0 [(1, sU32 b), (5, .hs 0 0 out_34.length 1), (6, aI64 x_5), (8, aU64 carry_35), (18, sU32 a), (19, aI64 (a.length : Int)), (20, aI64 x_5)], [.own (out_34.flatMap (iC .u32))]⟩) hL41 ((Wk.gc [1, 5, 6, 7, 8, 18, 19, 20, 25, 26, 27] [(0, false)] rfl (pKo (iC .u32) (iC_pure _) out_4 trivial)).to (by kernel_rfl)) ?_ ?_
   ·clear hr
    rintro m ⟨out_28, carry_29, x_30⟩ hr
    show CQ _ _ _ _ _ ⟨_, _⟩
    refine .seq <| .rn fine [1, 5, 6, 7, 8, 18, 19, 20, 25, 26, 27, 28] (mkS 69 0 [(1, sU32 b), (5, .hs 0 0 out_28.length 1), (6, aI64 x_5), (7, aU32 (gt a x_5)), (8, aU64 carry_29), (18, sU32 a), (19, aI64 (a.length : Int)), (20, aI64 x_5), (25, sU32 b), (26, aI64 (b.length : Int)), (27, aI64 x_30), (28, aB (decide (x_30 < (b.length : Int))))]) [.own (out_28.flatMap (iC .u32))] <| .seq ?_
    refine .cond (t := decide (x_30 < (b.length : Int))) (by kernel_rfl) (fun hb37 => ?_) (fun hb37 => ?_)
    ·replace hr := cd_t hb37 hr
     refine .skip <| .seq <| .block <| .seq ?_
     obtain ⟨hg38, hr⟩ := gd hr
     refine .r0 fine <| .mu 1 <| .p0 (v := .pp (b.flatMap (iC .u32)) (x_30.toNat * 1)) (Eq.trans (b := ORes.ofP (guardV (inR x_30 b.length) (.pp (b.flatMap (iC .u32)) (x_30.toNat * 1)))) (by kernel_rfl) (ofP_guard hg38)) <| .p0 (v := aU32 (gt b x_30)) (Eq.trans (b := ORes.ofP ((b.flatMap (iC .u32))[x_30.toNat * 1]?)) (by kernel_rfl) (ofP_some (flat_get (iC_len _) (inR_lt hg38) (by decide : 0 < 1) (by omega : x_30.toNat * 1 = x_30.toNat * 1 + 0) (by kernel_rfl)))) <| .mu 2 <| .done <| .n1 [1, 5, 6, 7, 8, 9, 10, 18, 19, 20, 25, 26, 27] (mkS 69 0 [(1, sU32 b), (5, .hs 0 0 out_28.length 1), (6, aI64 x_5), (7, aU32 (gt a x_5)), (8, aU64 carry_29), (9, aI64 x_30), (10, aU32 (gt b x_30)), (18, sU32 a), (19, aI64 (a.length : Int)), (20, aI64 x_5), (25, sU32 b), (26, aI64 (b.length : Int)), (27, aI64 x_30)]) [.own (out_28.flatMap (iC .u32))] <| .seq ?_
     obtain ⟨hg39, hr⟩ := gd hr
     refine .r0 fine <| .mu 4 <| .p0 (v := .hp 0 (0 + (wrapF .i64 (x_5 + x_30)).toNat * 1)) (Eq.trans (b := ORes.ofP (guardV (inR (wrapF .i64 (x_5 + x_30)) out_28.length) (.hp 0 (0 + (wrapF .i64 (x_5 + x_30)).toNat * 1)))) (by kernel_rfl) (ofP_guard hg39)) <| .p0 (v := aU32 (gt out_28 (wrapF .i64 (x_5 + x_30)))) (Eq.trans (b := ORes.ofP ((out_28.flatMap (iC .u32))[0 + (wrapF .i64 (x_5 + x_30)).toNat * 1]?)) (by kernel_rfl) (ofP_some (flat_get (iC_len _) (inR_lt hg39) (by decide : 0 < 1) (by omega : 0 + (wrapF .i64 (x_5 + x_30)).toNat * 1 = (wrapF .i64 (x_5 + x_30)).toNat * 1 + 0) (by kernel_rfl)))) <| .mu 10 <| .done <| .n1 [1, 5, 6, 7, 9, 11, 18, 19, 20, 25, 26, 27] (mkS 69 0 [(1, sU32 b), (5, .hs 0 0 out_28.length 1), (6, aI64 x_5), (7, aU32 (gt a x_5)), (9, aI64 x_30), (11, aU64 (wrapF .u64 ((wrapF .u64 ((wrapF .u64 (gt out_28 (wrapF .i64 (x_5 + x_30)))) + (wrapF .u64 ((wrapF .u64 (gt a x_5)) * (wrapF .u64 (gt b x_30)))))) + carry_29))), (18, sU32 a), (19, aI64 (a.length : Int)), (20, aI64 x_5), (25, sU32 b), (26, aI64 (b.length : Int)), (27, aI64 x_30)]) [.own (out_28.flatMap (iC .u32))] <| .r0 fine <| .mu 9 <| .p0 (v := .hp 0 (0 + (wrapF .i64 (x_5 + x_30)).toNat * 1)) (Eq.trans (b := ORes.ofP (guardV (inR (wrapF .i64 (x_5 + x_30)) out_28.length) (.hp 0 (0 + (wrapF .i64 (x_5 + x_30)).toNat * 1)))) (by kernel_rfl) (ofP_guard hg39)) <| .e0 (v := .unk) (ws := [(0, .own ((out_28.set (wrapF .i64 (x_5 + x_30)).toNat (wrapF .u32 ((wrapF .u64 ((wrapF .u64 ((wrapF .u64 (gt out_28 (wrapF .i64 (x_5 + x_30)))) + (wrapF .u64 ((wrapF .u64 (gt a x_5)) * (wrapF .u64 (gt b x_30)))))) + carry_29)).tmod 1000000000))).flatMap (iC .u32)))]) (Eq.trans (b := stO (decide ((0 + (wrapF .i64 (x_5 + x_30)).toNat * 1) + 1 ≤ (out_28.flatMap (iC .u32)).length) && true) [(0, .own (setCells (out_28.flatMap (iC .u32)) (0 + (wrapF .i64 (x_5 + x_30)).toNat * 1) [aU32 (wrapF .u32 ((wrapF .u64 ((wrapF .u64 ((wrapF .u64 (gt out_28 (wrapF .i64 (x_5 + x_30)))) + (wrapF .u64 ((wrapF .u64 (gt a x_5)) * (wrapF .u64 (gt b x_30)))))) + carry_29)).tmod 1000000000))]))]) (by kernel_rfl) (stO_t (and_t (flat_fits (iC_len _) (inR_lt hg39) (Nat.le_of_ble_eq_true rfl) (by omega : 0 + (wrapF .i64 (x_5 + x_30)).toNat * 1 = (wrapF .i64 (x_5 + x_30)).toNat * 1 + 0))) (congrArg Blk.own (flat_set (iC_len _) (inR_lt hg39) (Nat.le_of_ble_eq_true rfl) (by omega : 0 + (wrapF .i64 (x_5 + x_30)).toNat * 1 = (wrapF .i64 (x_5 + x_30)).toNat * 1 + 0) (by kernel_rfl))))) <| .mu 1 <| .done <| .pop <| .ru fine ?_
     exact loopF_back (out_28.set (wrapF .i64 (x_5 + x_30)).toNat (wrapF .u32 ((wrapF .u64 ((wrapF .u64 ((wrapF .u64 (gt out_28 (wrapF .i64 (x_5 + x_30)))) + (wrapF .u64 ((wrapF .u64 (gt a x_5)) * (wrapF .u64 (gt b x_30)))))) + carry_29)).tmod 1000000000)), wrapF .u64 ((wrapF .u64 ((wrapF .u64 ((wrapF .u64 (gt out_28 (wrapF .i64 (x_5 + x_30)))) + (wrapF .u64 ((wrapF .u64 (gt a x_5)) * (wrapF .u64 (gt b x_30)))))) + carry_29)).tdiv 1000000000), wrapF .i64 (x_30 + 1)) hr ((Wk.relen 5 (b := 0) (es := 1) (len := out_28.length) (out_28.set (wrapF .i64 (x_5 + x_30)).toNat (wrapF .u32 ((wrapF .u64 ((wrapF .u64 ((wrapF .u64 (gt out_28 (wrapF .i64 (x_5 + x_30)))) + (wrapF .u64 ((wrapF .u64 (gt a x_5)) * (wrapF .u64 (gt b x_30)))))) + carry_29)).tmod 1000000000))).length (by kernel_rfl) (by simp)).trans ((Wk.gc [1, 5, 6, 7, 8, 18, 19, 20, 25, 26, 27] [(0, false)] rfl (pKo (iC .u32) (iC_pure _) (out_28.set (wrapF .i64 (x_5 + x_30)).toNat (wrapF .u32 ((wrapF .u64 ((wrapF .u64 ((wrapF .u64 (gt out_28 (wrapF .i64 (x_5 + x_30)))) + (wrapF .u64 ((wrapF .u64 (gt a x_5)) * (wrapF .u64 (gt b x_30)))))) + carry_29)).tmod 1000000000))) trivial)).to (by kernel_rfl)))
    ·replace hr := cd_f hb37 hr
     refine .leave rfl ?_
     obtain rfl := Option.some.inj hr
     exact ⟨rfl, ((Wk.gc [1, 5, 6, 8, 18, 19, 20] [(0, false)] rfl (pKo (iC .u32) (iC_pure _) out_28 trivial)).to (by kernel_rfl))⟩
   ·rcases o40 with ⟨out_34, carry_35⟩
    rintro x st' hq42
    clear hL41
    obtain ⟨rfl, hq42⟩ := hq42
    refine CQ_exit _ rfl <| .wk hq42 ?_
    obtain ⟨hg43, hr⟩ := gd hr
    refine .r0 fine <| .mu 7 <| .p0 (v := .hp 0 (0 + (wrapF .i64 (x_5 + (b.length : Int))).toNat * 1)) (Eq.trans (b := ORes.ofP (guardV (inR (wrapF .i64 (x_5 + (b.length : Int))) out_34.length) (.hp 0 (0 + (wrapF .i64 (x_5 + (b.length : Int))).toNat * 1)))) (by kernel_rfl) (ofP_guard hg43)) <| .e0 (v := .unk) (ws := [(0, .own ((out_34.set (wrapF .i64 (x_5 + (b.length : Int))).toNat (wrapF .u32 carry_35)).flatMap (iC .u32)))]) (Eq.trans (b := stO (decide ((0 + (wrapF .i64 (x_5 + (b.length : Int))).toNat * 1) + 1 ≤ (out_34.flatMap (iC .u32)).length) && true) [(0, .own (setCells (out_34.flatMap (iC .u32)) (0 + (wrapF .i64 (x_5 + (b.length : Int))).toNat * 1) [aU32 (wrapF .u32 carry_35)]))]) (by kernel_rfl) (stO_t (and_t (flat_fits (iC_len _) (inR_lt hg43) (Nat.le_of_ble_eq_true rfl) (by omega : 0 + (wrapF .i64 (x_5 + (b.length : Int))).toNat * 1 = (wrapF .i64 (x_5 + (b.length : Int))).toNat * 1 + 0))) (congrArg Blk.own (flat_set (iC_len _) (inR_lt hg43) (Nat.le_of_ble_eq_true rfl) (by omega : 0 + (wrapF .i64 (x_5 + (b.length : Int))).toNat * 1 = (wrapF .i64 (x_5 + (b.length : Int))).toNat * 1 + 0) (by kernel_rfl))))) <| .done <| .pop <| .ru fine ?_
    exact loopF_back (out_34.set (wrapF .i64 (x_5 + (b.length : Int))).toNat (wrapF .u32 carry_35), wrapF .i64 (x_5 + 1)) hr ((Wk.relen 5 (b := 0) (es := 1) (len := out_34.length) (out_34.set (wrapF .i64 (x_5 + (b.length : Int))).toNat (wrapF .u32 carry_35)).length (by kernel_rfl) (by simp)).trans ((Wk.gc [1, 5, 18, 19, 20] [(0, false)] rfl (pKo (iC .u32) (iC_pure _) (out_34.set (wrapF .i64 (x_5 + (b.length : Int))).toNat (wrapF .u32 carry_35)) trivial)).to (by kernel_rfl)))
  ·replace hr := cd_f hb26 hr
   refine .leave rfl ?_
   obtain rfl := Option.some.inj hr
   exact ⟨rfl, ((Wk.gc [5] [(0, false)] rfl (pKo (iC .u32) (iC_pure _) out_4 trivial)).to (by kernel_rfl))⟩
 ·rintro x st' hq46
  clear hL45
  obtain ⟨rfl, hq46⟩ := hq46
  refine CQ_exit _ rfl <| .wk hq46 <| .seq ?_
  obtain ⟨v47, hc48, hr⟩ := bd hr
  refine .g1 fine (callOk_ref (args := [.hs 0 0 out_24.length 1]) (l := [0]) (SnL.cons (Sn.hs rfl (.inl rfl) (SnC.pure (ids_flat (iC_pure _) _)) (fun h => flat_nil0 h)) SnL.nil) (integer_trim_ok n out_24 v47 hc48)) <| .mu 1 <| .c0 (by kernel_rfl) (callOf_at (by kernel_rfl)) <| .mu 1 <| .done <| .ret ?_
  obtain rfl := Option.some.inj hr
  exact FinQ.r1 [sU32 v47]

theorem integer_Mul_inj {x' : api_Int} {y : api_Int} {x'_ : api_Int} {y_ : api_Int} (h : ([.agg [.at (.bool x'.Negative), slT (iC .u32) x'.Groups], .agg [.at (.bool y.Negative), slT (iC .u32) y.Groups]] : List AV) = [.agg [.at (.bool x'_.Negative), slT (iC .u32) x'_.Groups], .agg [.at (.bool y_.Negative), slT (iC .u32) y_.Groups]]) : x' = x'_ ∧ y = y_ := by
 obtain ⟨_, _⟩ := x'
 obtain ⟨_, _⟩ := x'_
 obtain ⟨_, _⟩ := y
 obtain ⟨_, _⟩ := y_
 simp only [List.cons.injEq, AV.agg.injEq, AV.at.injEq, Value.int.injEq, Value.bool.injEq, AV.fn.injEq, AV.pp.injEq, true_and, and_true, slT_inj_int] at h
 simp_all
theorem integer_Mul_ok (n : Nat) (x' : api_Int) (y : api_Int) (r : api_Int) (hr : integer_Mul n x' y = some r) : FnOk Tryz.prog 67 [.agg [.at (.bool x'.Negative), slT (iC .u32) x'.Groups], .agg [.at (.bool y.Negative), slT (iC .u32) y.Groups]] (.agg [.at (.bool r.Negative), slT (iC .u32) r.Groups]) := by
 unfold integer_Mul at hr
 refine FnOk.body fine Tryz.func67 (c := (Tryz.f67.body).getD .skip) rfl (s := mkS 16 0 [(0, .agg (api_Int.c x')), (1, .agg (api_Int.c y))]) (by kernel_rfl) (rs := [.cell 4 35]) rfl ?_
 unfold Tryz.f67
 simp only [Option.getD_some]
 refine .seq <| .rn fine [2, 3, 4] (mkS 16 0 [(2, .hp 0 0), (3, .hp 1 0), (4, .hp 2 0)]) [.own (api_Int.c x'), .own (api_Int.c y), .own [aB false, .at (.slice none 0 0)]] <| .seq ?_
 obtain ⟨v1, hc2, hr⟩ := bd hr
 obtain ⟨v3, hc4, hr⟩ := bd hr
 obtain ⟨v5, hc6, hr⟩ := bd hr
 obtain ⟨v7, hc8, hr⟩ := bd hr
 refine .regionT fine (callOf_cons (callOk_ref (H := [.own (api_Int.c x'), .own (api_Int.c y), .own [aB false, .at (.slice none 0 0)]]) (l := []) (SnL.cons (Sn.pure rfl) SnL.nil) (integer_groups_ok n x' v1 hc2)) (callOf_cons (callOk_ref (H := [.own (api_Int.c x'), .own (api_Int.c y), .own [aB false, .at (.slice none 0 0)]]) (l := []) (SnL.cons (Sn.pure rfl) SnL.nil) (integer_groups_ok n y v3 hc4)) (callOf_cons (callOk_ref (H := [.own (api_Int.c x'), .own (api_Int.c y), .own [aB false, .at (.slice none 0 0)]]) (l := []) (SnL.cons (Sn.pure rfl) (SnL.cons (Sn.pure rfl) SnL.nil)) (integer_times_ok n v1 v3 v5 hc6)) (callOf_cons (callOk_ref (H := [.own (api_Int.c x'), .own (api_Int.c y), .own [aB false, .at (.slice none 0 0)]]) (l := []) (SnL.cons (Sn.pure rfl) (SnL.cons (Sn.pure rfl) SnL.nil)) (integer_made_ok n (x'.Negative != y.Negative) v5 v7 hc8)) callOf_nil)))) <| .mu 6 <| .cal (by kernel_rfl) (by kernel_rfl) (callOf_at (by kernel_rfl)) (by kernel_rfl) <| .mu 1 <| .cal (by kernel_rfl) (by kernel_rfl) (callOf_skip (fun _ h => by obtain e0 := integer_groups_inj h; rw [show v3 = v1 from Option.some.inj (hc4.symm.trans ((show integer_groups n y = integer_groups n x' from (congr rfl e0)).trans hc2))]) (callOf_at (by kernel_rfl))) (by kernel_rfl) <| .cal (by kernel_rfl) (by kernel_rfl) (callOf_skip (fun h _ => absurd (show (107 : Nat) = 106 from h) (by decide)) (callOf_skip (fun h _ => absurd (show (107 : Nat) = 106 from h) (by decide)) (callOf_at (by kernel_rfl)))) (by kernel_rfl) <| .cal (by kernel_rfl) (by kernel_rfl) (callOf_skip (fun h _ => absurd (show (103 : Nat) = 106 from h) (by decide)) (callOf_skip (fun h _ => absurd (show (103 : Nat) = 106 from h) (by decide)) (callOf_skip (fun h _ => absurd (show (103 : Nat) = 107 from h) (by decide)) (callOf_at (by kernel_rfl))))) (by kernel_rfl) <| .mu 1 ?_
 refine .done ⟨by kernel_rfl, ?_⟩
 refine .n1 [4] (mkS 16 0 [(4, .hp 2 0)]) [.own (api_Int.c x'), .own (api_Int.c y), .own (api_Int.c v7)] <| .ret ?_
 obtain rfl := Option.some.inj hr
 exact FinQ.r1 [.agg (api_Int.c v7)]

theorem fraction_Mul_ok (n : Nat) (x' : api_Rat) (y : api_Rat) (r : api_Rat) (hr : fraction_Mul n x' y = some r) : FnOk Tryz.prog 84 [.agg [.at (.bool x'.Num.Negative), slT (iC .u32) x'.Num.Groups, .at (.bool x'.Den.Negative), slT (iC .u32) x'.Den.Groups], .agg [.at (.bool y.Num.Negative), slT (iC .u32) y.Num.Groups, .at (.bool y.Den.Negative), slT (iC .u32) y.Den.Groups]] (.agg [.at (.bool r.Num.Negative), slT (iC .u32) r.Num.Groups, .at (.bool r.Den.Negative), slT (iC .u32) r.Den.Groups]) := by
 unfold fraction_Mul at hr
 refine FnOk.body fine Tryz.func84 (c := (Tryz.f84.body).getD .skip) rfl (s := mkS 20 0 [(0, .agg (api_Rat.c x')), (1, .agg (api_Rat.c y))]) (by kernel_rfl) (rs := [.cell 4 37]) rfl ?_
 unfold Tryz.f84
 simp only [Option.getD_some]
 refine .seq <| .rn fine [2, 3, 4] (mkS 20 0 [(2, .hp 0 0), (3, .hp 1 0), (4, .hp 2 0)]) [.own (api_Rat.c x'), .own (api_Rat.c y), .own [aB false, .at (.slice none 0 0), aB false, .at (.slice none 0 0)]] <| .seq ?_
 obtain ⟨v1, hc2, hr⟩ := bd hr
 obtain ⟨v3, hc4, hr⟩ := bd hr
 refine .regionT fine (callOf_cons (callOk_ref (H := [.own (api_Rat.c x'), .own (api_Rat.c y), .own [aB false, .at (.slice none 0 0), aB false, .at (.slice none 0 0)]]) (l := []) (SnL.cons (Sn.pure rfl) SnL.nil) (fraction_Value_ok n x' v1 hc2)) (callOf_cons (callOk_ref (H := [.own (api_Rat.c x'), .own (api_Rat.c y), .own [aB false, .at (.slice none 0 0), aB false, .at (.slice none 0 0)]]) (l := []) (SnL.cons (Sn.pure rfl) SnL.nil) (fraction_Value_ok n y v3 hc4)) callOf_nil)) <| .mu 1 <| .cal (by kernel_rfl) (by kernel_rfl) (callOf_at (by kernel_rfl)) (by kernel_rfl) <| .mu 1 <| .cal (by kernel_rfl) (by kernel_rfl) (callOf_skip (fun _ h => by obtain e0 := fraction_Value_inj h; rw [show v3 = v1 from Option.some.inj (hc4.symm.trans ((show fraction_Value n y = fraction_Value n x' from (congr rfl e0)).trans hc2))]) (callOf_at (by kernel_rfl))) (by kernel_rfl) <| .mu 2 ?_
 refine .done ⟨by kernel_rfl, ?_⟩
 refine .n1 [2, 3, 4] (mkS 20 0 [(2, .hp 0 0), (3, .hp 1 0), (4, .hp 2 0)]) [.own (api_Rat.c v1), .own (api_Rat.c v3), .own [aB false, .at (.slice none 0 0), aB false, .at (.slice none 0 0)]] <| .seq ?_
 obtain ⟨v5, hc6, hr⟩ := bd hr
 obtain ⟨v7, hc8, hr⟩ := bd hr
 obtain ⟨v9, hc10, hr⟩ := bd hr
 refine .regionT fine (callOf_cons (callOk_ref (H := [.own (api_Rat.c v1), .own (api_Rat.c v3), .own [aB false, .at (.slice none 0 0), aB false, .at (.slice none 0 0)]]) (l := []) (SnL.cons (Sn.pure rfl) (SnL.cons (Sn.pure rfl) SnL.nil)) (integer_Mul_ok n v1.Num v3.Num v5 hc6)) (callOf_cons (callOk_ref (H := [.own (api_Rat.c v1), .own (api_Rat.c v3), .own [aB false, .at (.slice none 0 0), aB false, .at (.slice none 0 0)]]) (l := []) (SnL.cons (Sn.pure rfl) (SnL.cons (Sn.pure rfl) SnL.nil)) (integer_Mul_ok n v1.Den v3.Den v7 hc8)) (callOf_cons (callOk_ref (H := [.own (api_Rat.c v1), .own (api_Rat.c v3), .own [aB false, .at (.slice none 0 0), aB false, .at (.slice none 0 0)]]) (l := []) (SnL.cons (Sn.pure rfl) (SnL.cons (Sn.pure rfl) SnL.nil)) (fraction_reduced_ok n v5 v7 v9 hc10)) callOf_nil))) <| .mu 4 <| .cal (by kernel_rfl) (by kernel_rfl) (callOf_at (by kernel_rfl)) (by kernel_rfl) <| .mu 4 <| .cal (by kernel_rfl) (by kernel_rfl) (callOf_skip (fun _ h => by obtain ⟨e0, e1⟩ := integer_Mul_inj h; rw [show v7 = v5 from Option.some.inj (hc8.symm.trans ((show integer_Mul n v1.Den v3.Den = integer_Mul n v1.Num v3.Num from (congr (congr rfl e0) e1)).trans hc6))]) (callOf_at (by kernel_rfl))) (by kernel_rfl) <| .cal (by kernel_rfl) (by kernel_rfl) (callOf_skip (fun h _ => absurd (show (117 : Nat) = 67 from h) (by decide)) (callOf_skip (fun h _ => absurd (show (117 : Nat) = 67 from h) (by decide)) (callOf_at (by kernel_rfl)))) (by kernel_rfl) <| .mu 1 ?_
 refine .done ⟨by kernel_rfl, ?_⟩
 refine .n1 [4] (mkS 20 0 [(4, .hp 2 0)]) [.own (api_Rat.c v1), .own (api_Rat.c v3), .own (api_Rat.c v9)] <| .ret ?_
 obtain rfl := Option.some.inj hr
 exact FinQ.r1 [.agg (api_Rat.c v9)]

theorem integer_sum_ok (n : Nat) (negative : Bool) (a : List Int) (other : Bool) (b : List Int) (r : api_Int) (hr : integer_sum n negative a other b = some r) : FnOk Tryz.prog 105 [.at (.bool negative), slT (iC .u32) a, .at (.bool other), slT (iC .u32) b] (.agg [.at (.bool r.Negative), slT (iC .u32) r.Groups]) := by
 unfold integer_sum at hr
 refine FnOk.body fine Tryz.func105 (c := (Tryz.f105.body).getD .skip) rfl (s := mkS 33 0 [(0, aB negative), (1, sU32 a), (2, aB other), (3, sU32 b)]) (by kernel_rfl) (rs := [.cell 8 35]) rfl ?_
 unfold Tryz.f105
 simp only [Option.getD_some]
 refine .seq <| .rn fine [0, 1, 2, 3, 8] (mkS 33 0 [(0, aB negative), (1, sU32 a), (2, aB other), (3, sU32 b), (8, .hp 0 0)]) [.own [aB false, .at (.slice none 0 0)]] <| .seq <| .block <| .seq <| .rn fine [0, 1, 2, 3, 8, 9] (mkS 33 0 [(0, aB negative), (1, sU32 a), (2, aB other), (3, sU32 b), (8, .hp 0 0), (9, aB (negative == other))]) [.own [aB false, .at (.slice none 0 0)]] ?_
 refine .cond (t := negative == other) (by kernel_rfl) (fun hb1 => ?_) (fun hb1 => ?_)
 ·replace hr := cd_t hb1 hr
  refine .seq ?_
  obtain ⟨v2, hc3, hr⟩ := bd hr
  obtain ⟨v4, hc5, hr⟩ := bd hr
  refine .region fine (callOf_cons (callOk_ref (H := [.own [aB false, .at (.slice none 0 0)]]) (l := []) (SnL.cons (Sn.pure rfl) (SnL.cons (Sn.pure rfl) SnL.nil)) (integer_plus_ok n a b v2 hc3)) (callOf_cons (callOk_ref (H := [.own [aB false, .at (.slice none 0 0)]]) (l := []) (SnL.cons (Sn.pure rfl) (SnL.cons (Sn.pure rfl) SnL.nil)) (integer_made_ok n negative v2 v4 hc5)) callOf_nil)) <| .mu 3 <| .c0 (by kernel_rfl) (callOf_at (by kernel_rfl)) <| .c0 (by kernel_rfl) (callOf_skip (fun h _ => absurd (show (103 : Nat) = 132 from h) (by decide)) (callOf_at (by kernel_rfl))) <| .mu 1 <| .done <| .n1 [8] (mkS 33 0 [(8, .hp 0 0)]) [.own (api_Int.c v4)] <| .ret ?_
  obtain rfl := Option.some.inj hr
  exact FinQ.r1 [.agg (api_Int.c v4)]
 ·replace hr := cd_f hb1 hr
  refine .seq ?_
  obtain ⟨v6, hc7, hr⟩ := bd hr
  refine .g1 fine (callOk_val (l := []) rfl (SnL.cons (Sn.pure rfl) (SnL.cons (Sn.pure rfl) SnL.nil)) (integer_compare_ok n a b v6 hc7)) <| .mu 2 <| .c0 (by kernel_rfl) (callOf_at (by kernel_rfl)) <| .mu 2 <| .done <| .n1 [0, 1, 2, 3, 8, 18] (mkS 33 0 [(0, aB negative), (1, sU32 a), (2, aB other), (3, sU32 b), (8, .hp 0 0), (18, aB (decide (v6 ≥ 0)))]) [.own [aB false, .at (.slice none 0 0)]] ?_
  refine .cond (t := decide (v6 ≥ 0)) (by kernel_rfl) (fun hb8 => ?_) (fun hb8 => ?_)
  ·replace hr := cd_t hb8 hr
   refine .seq ?_
   obtain ⟨v9, hc10, hr⟩ := bd hr
   obtain ⟨v11, hc12, hr⟩ := bd hr
   refine .region fine (callOf_cons (callOk_ref (H := [.own [aB false, .at (.slice none 0 0)]]) (l := []) (SnL.cons (Sn.pure rfl) (SnL.cons (Sn.pure rfl) SnL.nil)) (integer_minus_ok n a b v9 hc10)) (callOf_cons (callOk_ref (H := [.own [aB false, .at (.slice none 0 0)]]) (l := []) (SnL.cons (Sn.pure rfl) (SnL.cons (Sn.pure rfl) SnL.nil)) (integer_made_ok n negative v9 v11 hc12)) callOf_nil)) <| .mu 3 <| .c0 (by kernel_rfl) (callOf_at (by kernel_rfl)) <| .c0 (by kernel_rfl) (callOf_skip (fun h _ => absurd (show (103 : Nat) = 134 from h) (by decide)) (callOf_at (by kernel_rfl))) <| .mu 1 <| .done <| .n1 [8] (mkS 33 0 [(8, .hp 0 0)]) [.own (api_Int.c v11)] <| .ret ?_
   obtain rfl := Option.some.inj hr
   exact FinQ.r1 [.agg (api_Int.c v11)]
  ·replace hr := cd_f hb8 hr
   refine .skip <| .pop <| .seq ?_
   obtain ⟨v13, hc14, hr⟩ := bd hr
   obtain ⟨v15, hc16, hr⟩ := bd hr
   refine .region fine (callOf_cons (callOk_ref (H := [.own [aB false, .at (.slice none 0 0)]]) (l := []) (SnL.cons (Sn.pure rfl) (SnL.cons (Sn.pure rfl) SnL.nil)) (integer_minus_ok n b a v13 hc14)) (callOf_cons (callOk_ref (H := [.own [aB false, .at (.slice none 0 0)]]) (l := []) (SnL.cons (Sn.pure rfl) (SnL.cons (Sn.pure rfl) SnL.nil)) (integer_made_ok n other v13 v15 hc16)) callOf_nil)) <| .mu 3 <| .c0 (by kernel_rfl) (callOf_at (by kernel_rfl)) <| .c0 (by kernel_rfl) (callOf_skip (fun h _ => absurd (show (103 : Nat) = 134 from h) (by decide)) (callOf_at (by kernel_rfl))) <| .mu 1 <| .done <| .n1 [8] (mkS 33 0 [(8, .hp 0 0)]) [.own (api_Int.c v15)] <| .ret ?_
   obtain rfl := Option.some.inj hr
   exact FinQ.r1 [.agg (api_Int.c v15)]
end Go.L
