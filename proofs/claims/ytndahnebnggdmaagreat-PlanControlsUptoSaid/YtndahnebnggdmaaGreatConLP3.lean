/- The program's functions compute what the plain Lean programs compute, part 3; printed by a program. -/
import Derived.Test.YtndahnebnggdmaaGreatConLP2
import Derived.Test.YtndahnebnggdmaaGreatL0dpbdclmj
import Derived.Test.YtndahnebnggdmaaGreatSortlkejhobd
import Derived.Test.YtndahnebnggdmaaGreatChecked
import Derived.KernelRfl
set_option linter.all false
set_option maxRecDepth 100000
set_option maxHeartbeats 4000000
namespace Go.L
open Go Go.Eng Go.Proofs
theorem slices_IndexFunc_fiducial_api_Pix_fiducial_api_Pix_of_fiduciallaw55_PlanControls_1_ok (n : Nat) (s : List api_Pix) (r : Int) (hr : slices_IndexFunc_fiducial_api_Pix_fiducial_api_Pix_of_fiduciallaw55_PlanControls_1 n s = some r) : FnOk Tryz.prog 30 [slT api_Pix.c s, .fn 9 [] []] (aI64 r) := by
 unfold slices_IndexFunc_fiducial_api_Pix_fiducial_api_Pix_of_fiduciallaw55_PlanControls_1 at hr
 refine FnOk.bd G Tryz.func30 [.tmp 4] ?_
 unfold Tryz.f30
 simp only [Option.getD_some]
 refine .seq (.r4 G [0, 1] [] (.seq (.seq (.r4 G [0, 1] [(7, aI64 (s.length : Int)), (8, aI64 0)] (.block ?_)))))
 replace hr := bd hr; obtain ⟨o13, hL14, hr⟩ := hr
 refine .loopO (σ := fun z0 => match z0 with | x_1 => ⟨mkS 19 0 [(0, slT api_Pix.c s), (1, .fn 9 [] []), (7, aI64 (s.length : Int)), (8, aI64 x_1)], []⟩) (Q := fun x st' => match (generalizing := false) o13 with | .inl _ => x = .exit 0 ∧ Wk 0 st' ⟨mkS 19 0 [], []⟩ | .inr (r0) => x = .ret ∧ FinQ Tryz.prog [.tmp 4] (aI64 r0) .ret st') hL14 ((Wk.gc [0, 1, 7, 8] [] rfl pK0).to) ?_ ?_
 ·clear hr
  rintro m x_1 hr
  show CQ _ _ _ _ _ ⟨_, _⟩
  refine .seq (.r4 G [0, 1, 7, 8] [(9, aB (decide (x_1 < (s.length : Int))))] (.seq ?_))
  refine .cd hr (fun hb8 hr => ?_) (fun hb8 hr => ?_)
  ·refine .skip (.seq (.block (.seq (.r4 G [0, 1, 7, 8] [(5, aI64 x_1)] (.seq ?_)))))
   obtain ⟨hg9, hr⟩ := gd hr
   obtain ⟨v10, hc11, hr⟩ := bd hr
   refine .g1 G (ok0 (fiduciallaw55_PlanControls_1_ok n (gt s x_1) v10 hc11)) (.mu 3 (.p0 (v := .pp (s.flatMap api_Pix.c) (x_1.toNat * 2)) (tr (ofP_guard hg9)) (.p0 (v := .agg (api_Pix.c (gt s x_1))) (Eq.trans (b := ORes.ofP (guardV (decide (2 ≤ ((s.flatMap api_Pix.c).drop (x_1.toNat * 2)).length)) (.agg (((s.flatMap api_Pix.c).drop (x_1.toNat * 2)).take 2)))) (by kernel_rfl) (flat_load api_Pix.len (inR_lt hg9) (by decide) (by omega : x_1.toNat * 2 = x_1.toNat * 2 + 0) (by kernel_rfl))) (.ca cf0 (.done (.nh [0, 1, 5, 7, 8, 16] [] ?_))))))
   refine .cd hr (fun hb12 hr => ?_) (fun hb12 hr => ?_)
   ·refine .seq (.ru G (.ret ?_))
    obtain rfl := oi hr
    exact ⟨rfl, FinQ.ret (vs := [aI64 x_1]) (by kernel_rfl) (Sn.pure rfl)⟩
   ·refine .skip (.pop (.ru G ?_))
    exact loopF_back (wrapF .i64 (x_1 + 1)) hr ((Wk.gc [0, 1, 7, 8] [] rfl pK0).to)
  ·refine .leave rfl ?_
   obtain rfl := oi hr
   exact ⟨rfl, ((Wk.gc [] [] rfl pK0).to)⟩
 ·rcases o13 with ⟨⟩ | r0
  ·rintro x st' hq15
   clear hL14
   obtain ⟨rfl, hq15⟩ := hq15
   refine CQ_exit _ rfl (.wk hq15 (.seq (.ru G (.ret ?_))))
   obtain rfl := oi hr
   exact FinQ.r1 [aI64 (-1)]
  ·rintro x st' hq15
   clear hL14
   obtain ⟨rfl, hq15⟩ := hq15
   obtain rfl := oi hr
   exact CQ_ret _ hq15

theorem slices_ContainsFunc_fiducial_api_Pix_fiducial_api_Pix_of_fiduciallaw55_PlanControls_1_ok (n : Nat) (s : List api_Pix) (r : Bool) (hr : slices_ContainsFunc_fiducial_api_Pix_fiducial_api_Pix_of_fiduciallaw55_PlanControls_1 n s = some r) : FnOk Tryz.prog 8 [slT api_Pix.c s, .fn 9 [] []] (aB r) := by
 unfold slices_ContainsFunc_fiducial_api_Pix_fiducial_api_Pix_of_fiduciallaw55_PlanControls_1 at hr
 refine FnOk.bd G Tryz.func8 [.tmp 4] ?_
 unfold Tryz.f8
 simp only [Option.getD_some]
 refine .seq (.r4 G [0, 1] [] (.seq ?_))
 obtain ⟨v1, hc2, hr⟩ := bd hr
 refine .g1 G (ok0 (slices_IndexFunc_fiducial_api_Pix_fiducial_api_Pix_of_fiduciallaw55_PlanControls_1_ok n s v1 hc2)) (.mu 2 (.ca cf0 (.mu 2 (.done (.ret ?_)))))
 obtain rfl := oi hr
 exact FinQ.r1 [aB (decide (v1 ≥ 0))]

theorem cmp_Compare_int_ok (n : Nat) (x' : Int) (y : Int) (r : Int) (hr : cmp_Compare_int n x' y = some r) : FnOk Tryz.prog 49 [aI64 x', aI64 y] (aI64 r) := by
 unfold cmp_Compare_int at hr
 refine FnOk.bd G Tryz.func49 [.tmp 4] ?_
 unfold Tryz.f49
 simp only [Option.getD_some]
 refine .seq (.r4 G [0, 1] [] (.seq ?_))
 obtain ⟨v1, hc2, hr⟩ := bd hr
 refine .g1 G (ok0 (cmp_isNaN_int_ok n x' v1 hc2)) (.mu 1 (.ca cf0 (.mu 1 (.done (.nh [0, 1, 5] [] (.seq ?_))))))
 obtain ⟨v3, hc4, hr⟩ := bd hr
 refine .g1 G (ok0 (cmp_isNaN_int_ok n y v3 hc4)) (.mu 1 (.ca cf0 (.mu 1 (.done (.nh [0, 1, 5, 6] [] (.seq (.seq (.r4 G [0, 1, 6] [(11, aB v1)] ?_))))))))
 refine .cd hr (fun hb5 hr => ?_) (fun hb5 hr => ?_)
 ·refine .seq (.seq (.r3 G 20 [(12, aB v3)] ?_))
  refine .cd hr (fun hb6 hr => ?_) (fun hb6 hr => ?_)
  ·refine .seq (.ru G (.ret ?_))
   obtain rfl := oi hr
   exact FinQ.r1 [aI64 0]
  ·refine .skip (.seq (.ru G (.ret ?_)))
   obtain rfl := oi hr
   exact FinQ.r1 [aI64 (-1)]
 ·refine .skip (.seq (.seq (.r4 G [0, 1] [(13, aB v3)] ?_)))
  refine .cd hr (fun hb7 hr => ?_) (fun hb7 hr => ?_)
  ·refine .seq (.ru G (.ret ?_))
   obtain rfl := oi hr
   exact FinQ.r1 [aI64 1]
  ·refine .skip (.seq (.seq (.r4 G [0, 1] [(16, aB (decide (x' < y)))] ?_)))
   refine .cd hr (fun hb8 hr => ?_) (fun hb8 hr => ?_)
   ·refine .seq (.ru G (.ret ?_))
    obtain rfl := oi hr
    exact FinQ.r1 [aI64 (-1)]
   ·refine .skip (.seq (.seq (.r3 G 20 [(19, aB (decide (x' > y)))] ?_)))
    refine .cd hr (fun hb9 hr => ?_) (fun hb9 hr => ?_)
    ·refine .seq (.ru G (.ret ?_))
     obtain rfl := oi hr
     exact FinQ.r1 [aI64 1]
    ·refine .skip (.seq (.ru G (.ret ?_)))
     obtain rfl := oi hr
     exact FinQ.r1 [aI64 0]

theorem slices_Compare_int_int_ok (n : Nat) (s1 : List Int) (s2 : List Int) (r : Int) (hr : slices_Compare_int_int n s1 s2 = some r) : FnOk Tryz.prog 31 [sI64 s1, sI64 s2] (aI64 r) := by
 unfold slices_Compare_int_int at hr
 refine FnOk.bd G Tryz.func31 [.tmp 4] ?_
 unfold Tryz.f31
 simp only [Option.getD_some]
 refine .seq (.r4 G [0, 1] [] (.seq (.seq (.r4 G [0, 1] [(9, sI64 s1), (10, aI64 (s1.length : Int)), (11, aI64 0)] (.block ?_)))))
 replace hr := bd hr; obtain ⟨o17, hL18, hr⟩ := hr
 refine .loopO (σ := fun z0 => match z0 with | x_1 => ⟨mkS 36 0 [(0, sI64 s1), (1, sI64 s2), (9, sI64 s1), (10, aI64 (s1.length : Int)), (11, aI64 x_1)], []⟩) (Q := fun x st' => match (generalizing := false) o17 with | .inl _ => x = .exit 0 ∧ Wk 0 st' ⟨mkS 36 0 [(0, sI64 s1), (1, sI64 s2)], []⟩ | .inr (r0) => x = .ret ∧ FinQ Tryz.prog [.tmp 4] (aI64 r0) .ret st') hL18 ((Wk.gc [0, 1, 9, 10, 11] [] rfl pK0).to) ?_ ?_
 ·clear hr
  rintro m x_1 hr
  show CQ _ _ _ _ _ ⟨_, _⟩
  refine .seq (.r4 G [0, 1, 9, 10, 11] [(12, aB (decide (x_1 < (s1.length : Int))))] (.seq ?_))
  refine .cd hr (fun hb10 hr => ?_) (fun hb10 hr => ?_)
  ·refine .skip (.seq (.block (.seq ?_)))
   obtain ⟨hg11, hr⟩ := gd hr
   refine .r0 G (.mu 1 (.p0 (v := .pp (s1.flatMap (iC .i64)) (x_1.toNat * 1)) (tr (ofP_guard hg11)) (.p0 (v := aI64 (gt s1 x_1)) (tr (ofP_some (flat_get (iC_len .i64) (inR_lt hg11) (by decide : 0 < 1) (by omega : x_1.toNat * 1 = x_1.toNat * 1 + 0) (by kernel_rfl)))) (.mu 2 (.done (.nh [0, 1, 5, 6, 9, 10, 11] [] (.seq (.seq (.r4 G [0, 1, 5, 6, 9, 10, 11] [(19, aB (decide (x_1 ≥ (s2.length : Int))))] ?_)))))))))
   refine .cd hr (fun hb12 hr => ?_) (fun hb12 hr => ?_)
   ·refine .seq (.ru G (.ret ?_))
    obtain rfl := oi hr
    exact ⟨rfl, FinQ.ret (vs := [aI64 1]) (by kernel_rfl) (Sn.pure rfl)⟩
   ·refine .skip (.seq ?_)
    obtain ⟨hg13, hr⟩ := gd hr
    refine .r0 G (.mu 2 (.p0 (v := .pp (s2.flatMap (iC .i64)) (x_1.toNat * 1)) (tr (ofP_guard hg13)) (.p0 (v := aI64 (gt s2 x_1)) (tr (ofP_some (flat_get (iC_len .i64) (inR_lt hg13) (by decide : 0 < 1) (by omega : x_1.toNat * 1 = x_1.toNat * 1 + 0) (by kernel_rfl)))) (.mu 1 (.done (.nh [0, 1, 6, 7, 9, 10, 11] [] (.seq ?_)))))))
    obtain ⟨v14, hc15, hr⟩ := bd hr
    refine .g1 G (ok0 (cmp_Compare_int_ok n (gt s1 x_1) (gt s2 x_1) v14 hc15)) (.mu 2 (.ca cf0 (.mu 1 (.done (.nh [0, 1, 8, 9, 10, 11] [] (.seq (.r4 G [0, 1, 8, 9, 10, 11] [(28, aB ((v14 : Int) != 0))] ?_)))))))
    refine .cd hr (fun hb16 hr => ?_) (fun hb16 hr => ?_)
    ·refine .seq (.ru G (.ret ?_))
     obtain rfl := oi hr
     exact ⟨rfl, FinQ.ret (vs := [aI64 v14]) (by kernel_rfl) (Sn.pure rfl)⟩
    ·refine .skip (.pop (.ru G ?_))
     exact loopF_back (wrapF .i64 (x_1 + 1)) hr ((Wk.gc [0, 1, 9, 10, 11] [] rfl pK0).to)
  ·refine .leave rfl ?_
   obtain rfl := oi hr
   exact ⟨rfl, ((Wk.gc [0, 1] [] rfl pK0).to)⟩
 ·rcases o17 with ⟨⟩ | r0
  ·rintro x st' hq19
   clear hL18
   obtain ⟨rfl, hq19⟩ := hq19
   refine CQ_exit _ rfl (.wk hq19 (.seq (.seq (.r3 G 36 [(35, aB (decide ((s1.length : Int) < (s2.length : Int))))] ?_))))
   refine .cd hr (fun hb20 hr => ?_) (fun hb20 hr => ?_)
   ·refine .seq (.ru G (.ret ?_))
    obtain rfl := oi hr
    exact FinQ.r1 [aI64 (-1)]
   ·refine .skip (.seq (.ru G (.ret ?_)))
    obtain rfl := oi hr
    exact FinQ.r1 [aI64 0]
  ·rintro x st' hq19
   clear hL18
   obtain ⟨rfl, hq19⟩ := hq19
   obtain rfl := oi hr
   exact CQ_ret _ hq19

theorem fiducialref01_Mul_inj {x' : api_Int} {y : api_Int} {x'_ : api_Int} {y_ : api_Int} (h : ([.agg [.at (.bool x'.Negative), slT (iC .u32) x'.Groups], .agg [.at (.bool y.Negative), slT (iC .u32) y.Groups]] : List AV) = [.agg [.at (.bool x'_.Negative), slT (iC .u32) x'_.Groups], .agg [.at (.bool y_.Negative), slT (iC .u32) y_.Groups]]) : x' = x'_ ∧ y = y_ := by
 obtain ⟨_, _⟩ := x'
 obtain ⟨_, _⟩ := x'_
 obtain ⟨_, _⟩ := y
 obtain ⟨_, _⟩ := y_
 simp only [List.cons.injEq, AV.agg.injEq, AV.at.injEq, Value.int.injEq, Value.bool.injEq, AV.fn.injEq, AV.pp.injEq, true_and, and_true, slT_inj_int] at h
 simp_all
theorem fiducialref01_Mul_cg (n : Nat) {x' : api_Int} {y : api_Int} {x'_ : api_Int} {y_ : api_Int} (h : ([.agg [.at (.bool x'.Negative), slT (iC .u32) x'.Groups], .agg [.at (.bool y.Negative), slT (iC .u32) y.Groups]] : List AV) = [.agg [.at (.bool x'_.Negative), slT (iC .u32) x'_.Groups], .agg [.at (.bool y_.Negative), slT (iC .u32) y_.Groups]]) : fiducialref01_Mul n x' y = fiducialref01_Mul n x'_ y_ := by
 obtain ⟨rfl, rfl⟩ := fiducialref01_Mul_inj h
 rfl
theorem fiducialref01_Mul_ok (n : Nat) (x' : api_Int) (y : api_Int) (r : api_Int) (hr : fiducialref01_Mul n x' y = some r) : FnOk Tryz.prog 87 [.agg (api_Int.c x'), .agg (api_Int.c y)] (.agg (api_Int.c r)) := by
 unfold fiducialref01_Mul at hr
 refine FnOk.bd G Tryz.func87 [.cell 4 50] ?_
 unfold Tryz.f87
 simp only [Option.getD_some]
 refine .seq (.r2 G 85 [(2, .hp 0 0), (3, .hp 1 0), (4, .hp 2 0)] [.own (api_Int.c x'), .own (api_Int.c y), .own [aB false, nS]] (.seq ?_))
 obtain ⟨v1, hc2, v3, hc4, hr⟩ := bd2 hr
 refine .tn G (ca1 (ok0 (fiducialref01_Value_ok n x' v1 hc2)) (ca3 (ok0 (fiducialref01_Value_ok n y v3 hc4)))) (.mu 1 (.ca cf0 (.mu 1 (.ca (cfA (fun h => by rw [sv hc4 hc2 (fiducialref01_Value_cg n h)]) cf0) (.mu 2 ?_)))))
 refine .done ⟨by kernel_rfl, ?_⟩
 refine .nh [2, 3, 4] [.own (api_Int.c v1), .own (api_Int.c v3), .own [aB false, nS]] (.seq ?_)
 obtain ⟨hg5, hg6, hg7, hr⟩ := gd3 hr
 refine .r0 G (.mu 7 (.e0 (v := .hs 3 0 (List.replicate (wrapF .i64 ((v1.Groups.length : Int) + (v3.Groups.length : Int))).toNat ((0 : Int) : Int)).length 1) (ws := [(3, .own ((List.replicate (wrapF .i64 ((v1.Groups.length : Int) + (v3.Groups.length : Int))).toNat ((0 : Int) : Int)).flatMap (iC .u32)))]) (tr (make_own (c := (iC .u32)) (z := (0 : Int)) (n := wrapF .i64 ((v1.Groups.length : Int) + (v3.Groups.length : Int))) (by_ := 4) rfl hg5 hg6 hg7)) (.mu 1 (.done (.nh [2, 3, 4, 5] [.own (api_Int.c v1), .own (api_Int.c v3), .own [aB false, nS], .own ((List.replicate (wrapF .i64 ((v1.Groups.length : Int) + (v3.Groups.length : Int))).toNat ((0 : Int) : Int)).flatMap (iC .u32))] (.seq (.seq (.r4 G [2, 3, 4, 5] [(6, aI64 0)] (.block ?_)))))))))
 replace hr := bd hr; obtain ⟨out_29, hL51, hr⟩ := hr
 refine .loopO (σ := fun z0 => match z0 with | (out_8, i_9) => ⟨mkS 85 0 [(2, .hp 0 0), (3, .hp 1 0), (4, .hp 2 0), (5, .hs 3 0 out_8.length 1), (6, aI64 i_9)], [.own (api_Int.c v1), .own (api_Int.c v3), .own [aB false, nS], .own (out_8.flatMap (iC .u32))]⟩) (Q := fun x st' => x = .exit 0 ∧ Wk 0 st' ⟨mkS 85 0 [(2, .hp 0 0), (3, .hp 1 0), (4, .hp 2 0), (5, .hs 3 0 out_29.length 1)], [.own (api_Int.c v1), .own (api_Int.c v3), .own [aB false, nS], .own (out_29.flatMap (iC .u32))]⟩) hL51 ((Wk.gc [2, 3, 4, 5, 6] [(0, true), (1, true), (2, true), (3, false)] rfl (pKt (pKt (pKt (pKo (iC .u32) (iC_pure _) (List.replicate (wrapF .i64 ((v1.Groups.length : Int) + (v3.Groups.length : Int))).toNat ((0 : Int) : Int)) trivial))))).to) ?_ ?_
 ·clear hr
  rintro m ⟨out_8, i_9⟩ hr
  show CQ _ _ _ _ _ ⟨_, _⟩
  refine .seq (.seq (.r4 G [2, 3, 4, 5, 6] [(26, aB (decide (i_9 < (v1.Groups.length : Int))))] ?_))
  refine .cd hr (fun hb31 hr => ?_) (fun hb31 hr => ?_)
  ·refine .skip (.seq (.block (.seq (.r4 G [2, 3, 4, 5, 6] [(7, aU64 0)] (.seq (.seq (.r4 G [2, 3, 4, 5, 6, 7] [(8, aI64 0)] (.block ?_))))))))
   replace hr := bd hr; obtain ⟨o46, hL47, hr⟩ := hr
   refine .loopO (σ := fun z0 => match z0 with | (out_32, carry_33, j_34) => ⟨mkS 85 0 [(2, .hp 0 0), (3, .hp 1 0), (4, .hp 2 0), (5, .hs 3 0 out_32.length 1), (6, aI64 i_9), (7, aU64 carry_33), (8, aI64 j_34)], [.own (api_Int.c v1), .own (api_Int.c v3), .own [aB false, nS], .own (out_32.flatMap (iC .u32))]⟩) (Q := fun x st' => match (generalizing := false) o46 with | (out_39, carry_40) => x = .exit 2 ∧ Wk 0 st' ⟨mkS 85 0 [(2, .hp 0 0), (3, .hp 1 0), (4, .hp 2 0), (5, .hs 3 0 out_39.length 1), (6, aI64 i_9), (7, aU64 carry_40)], [.own (api_Int.c v1), .own (api_Int.c v3), .own [aB false, nS], .own (out_39.flatMap (iC .u32))]⟩) hL47 ((Wk.gc [2, 3, 4, 5, 6, 7, 8] [(0, true), (1, true), (2, true), (3, false)] rfl (pKt (pKt (pKt (pKo (iC .u32) (iC_pure _) out_8 trivial))))).to) ?_ ?_
   ·clear hr
    rintro m ⟨out_32, carry_33, j_34⟩ hr
    show CQ _ _ _ _ _ ⟨_, _⟩
    refine .seq (.seq (.r4 G [2, 3, 4, 5, 6, 7, 8] [(33, aB (decide (j_34 < (v3.Groups.length : Int))))] ?_))
    refine .cd hr (fun hb42 hr => ?_) (fun hb42 hr => ?_)
    ·refine .skip (.seq (.block (.seq ?_)))
     obtain ⟨hg43, hg44, hg45, hr⟩ := gd3 hr
     refine .regionT G callOf_nil (.mu 4 (.pure (v := .hp 3 (0 + (wrapF .i64 (i_9 + j_34)).toNat * 1)) (by kernel_rfl) (tr (ofP_guard hg43)) (by kernel_rfl) (.pure (v := aU32 (gt out_32 (wrapF .i64 (i_9 + j_34)))) (by kernel_rfl) (tr (ofP_some (flat_get (iC_len .u32) (inR_lt hg43) (by decide : 0 < 1) (by omega : 0 + (wrapF .i64 (i_9 + j_34)).toNat * 1 = (wrapF .i64 (i_9 + j_34)).toNat * 1 + 0) (by kernel_rfl)))) (by kernel_rfl) (.mu 4 (.pure (v := .pp (v1.Groups.flatMap (iC .u32)) (i_9.toNat * 1)) (by kernel_rfl) (tr (ofP_guard hg44)) (by kernel_rfl) (.pure (v := aU32 (gt v1.Groups i_9)) (by kernel_rfl) (tr (ofP_some (flat_get (iC_len .u32) (inR_lt hg44) (by decide : 0 < 1) (by omega : i_9.toNat * 1 = i_9.toNat * 1 + 0) (by kernel_rfl)))) (by kernel_rfl) (.mu 4 (.pure (v := .pp (v3.Groups.flatMap (iC .u32)) (j_34.toNat * 1)) (by kernel_rfl) (tr (ofP_guard hg45)) (by kernel_rfl) (.pure (v := aU32 (gt v3.Groups j_34)) (by kernel_rfl) (tr (ofP_some (flat_get (iC_len .u32) (inR_lt hg45) (by decide : 0 < 1) (by omega : j_34.toNat * 1 = j_34.toNat * 1 + 0) (by kernel_rfl)))) (by kernel_rfl) (.mu 6 ?_))))))))))
     refine .done ⟨by kernel_rfl, ?_⟩
     refine .nh [2, 3, 4, 5, 6, 8, 9] [.own (api_Int.c v1), .own (api_Int.c v3), .own [aB false, nS], .own (out_32.flatMap (iC .u32))] (.seq (.r0 G (.mu 7 (.p0 (v := .hp 3 (0 + (wrapF .i64 (i_9 + j_34)).toNat * 1)) (tr (ofP_guard hg43)) (.e0 (v := .unk) (ws := [(3, .own ((out_32.set (wrapF .i64 (i_9 + j_34)).toNat (wrapF .u32 ((wrapF .u64 ((wrapF .u64 ((wrapF .u64 (gt out_32 (wrapF .i64 (i_9 + j_34)))) + (wrapF .u64 ((wrapF .u64 (gt v1.Groups i_9)) * (wrapF .u64 (gt v3.Groups j_34)))))) + carry_33)).tmod 1000000000))).flatMap (iC .u32)))]) (tr (stO_t (and_t (flat_fits (n := 1) (iC_len .u32) (inR_lt hg43) (Nat.le_of_ble_eq_true rfl) (by omega : 0 + (wrapF .i64 (i_9 + j_34)).toNat * 1 = (wrapF .i64 (i_9 + j_34)).toNat * 1 + 0))) (congrArg Blk.own (flat_set (xs := [aU32 (wrapF .u32 ((wrapF .u64 ((wrapF .u64 ((wrapF .u64 (gt out_32 (wrapF .i64 (i_9 + j_34)))) + (wrapF .u64 ((wrapF .u64 (gt v1.Groups i_9)) * (wrapF .u64 (gt v3.Groups j_34)))))) + carry_33)).tmod 1000000000))]) (iC_len .u32) (inR_lt hg43) (Nat.le_of_ble_eq_true rfl) (by omega : 0 + (wrapF .i64 (i_9 + j_34)).toNat * 1 = (wrapF .i64 (i_9 + j_34)).toNat * 1 + 0) (by kernel_rfl))))) (.done (.nh [2, 3, 4, 5, 6, 8, 9] [.own (api_Int.c v1), .own (api_Int.c v3), .own [aB false, nS], .own ((out_32.set (wrapF .i64 (i_9 + j_34)).toNat (wrapF .u32 ((wrapF .u64 ((wrapF .u64 ((wrapF .u64 (gt out_32 (wrapF .i64 (i_9 + j_34)))) + (wrapF .u64 ((wrapF .u64 (gt v1.Groups i_9)) * (wrapF .u64 (gt v3.Groups j_34)))))) + carry_33)).tmod 1000000000))).flatMap (iC .u32))] (.ru G (.pop (.ru G ?_))))))))))
     exact loopF_back (out_32.set (wrapF .i64 (i_9 + j_34)).toNat (wrapF .u32 ((wrapF .u64 ((wrapF .u64 ((wrapF .u64 (gt out_32 (wrapF .i64 (i_9 + j_34)))) + (wrapF .u64 ((wrapF .u64 (gt v1.Groups i_9)) * (wrapF .u64 (gt v3.Groups j_34)))))) + carry_33)).tmod 1000000000)), wrapF .u64 ((wrapF .u64 ((wrapF .u64 ((wrapF .u64 (gt out_32 (wrapF .i64 (i_9 + j_34)))) + (wrapF .u64 ((wrapF .u64 (gt v1.Groups i_9)) * (wrapF .u64 (gt v3.Groups j_34)))))) + carry_33)).tdiv 1000000000), wrapF .i64 (j_34 + 1)) hr ((Wk.relen 5 (b := 3) (es := 1) (len := out_32.length) (out_32.set (wrapF .i64 (i_9 + j_34)).toNat (wrapF .u32 ((wrapF .u64 ((wrapF .u64 ((wrapF .u64 (gt out_32 (wrapF .i64 (i_9 + j_34)))) + (wrapF .u64 ((wrapF .u64 (gt v1.Groups i_9)) * (wrapF .u64 (gt v3.Groups j_34)))))) + carry_33)).tmod 1000000000))).length (by kernel_rfl) (Eq.symm (List.length_set.trans rfl))).trans ((Wk.gc [2, 3, 4, 5, 6, 7, 8] [(0, true), (1, true), (2, true), (3, false)] rfl (pKt (pKt (pKt (pKo (iC .u32) (iC_pure _) (out_32.set (wrapF .i64 (i_9 + j_34)).toNat (wrapF .u32 ((wrapF .u64 ((wrapF .u64 ((wrapF .u64 (gt out_32 (wrapF .i64 (i_9 + j_34)))) + (wrapF .u64 ((wrapF .u64 (gt v1.Groups i_9)) * (wrapF .u64 (gt v3.Groups j_34)))))) + carry_33)).tmod 1000000000))) trivial))))).to))
    ·refine .leave rfl ?_
     obtain rfl := oi hr
     exact ⟨rfl, ((Wk.gc [2, 3, 4, 5, 6, 7] [(0, true), (1, true), (2, true), (3, false)] rfl (pKt (pKt (pKt (pKo (iC .u32) (iC_pure _) out_32 trivial))))).to)⟩
   ·rcases o46 with ⟨out_39, carry_40⟩
    rintro x st' hq48
    clear hL47
    obtain ⟨rfl, hq48⟩ := hq48
    refine CQ_exit _ rfl (.wk hq48 ?_)
    obtain ⟨hg49, hr⟩ := gd hr
    refine .r0 G (.mu 8 (.p0 (v := .hp 3 (0 + (wrapF .i64 (i_9 + (v3.Groups.length : Int))).toNat * 1)) (tr (ofP_guard hg49)) (.e0 (v := .unk) (ws := [(3, .own ((out_39.set (wrapF .i64 (i_9 + (v3.Groups.length : Int))).toNat (wrapF .u32 carry_40)).flatMap (iC .u32)))]) (tr (stO_t (and_t (flat_fits (n := 1) (iC_len .u32) (inR_lt hg49) (Nat.le_of_ble_eq_true rfl) (by omega : 0 + (wrapF .i64 (i_9 + (v3.Groups.length : Int))).toNat * 1 = (wrapF .i64 (i_9 + (v3.Groups.length : Int))).toNat * 1 + 0))) (congrArg Blk.own (flat_set (xs := [aU32 (wrapF .u32 carry_40)]) (iC_len .u32) (inR_lt hg49) (Nat.le_of_ble_eq_true rfl) (by omega : 0 + (wrapF .i64 (i_9 + (v3.Groups.length : Int))).toNat * 1 = (wrapF .i64 (i_9 + (v3.Groups.length : Int))).toNat * 1 + 0) (by kernel_rfl))))) (.done (.pop (.ru G ?_))))))
    exact loopF_back (out_39.set (wrapF .i64 (i_9 + (v3.Groups.length : Int))).toNat (wrapF .u32 carry_40), wrapF .i64 (i_9 + 1)) hr ((Wk.relen 5 (b := 3) (es := 1) (len := out_39.length) (out_39.set (wrapF .i64 (i_9 + (v3.Groups.length : Int))).toNat (wrapF .u32 carry_40)).length (by kernel_rfl) (Eq.symm (List.length_set.trans rfl))).trans ((Wk.gc [2, 3, 4, 5, 6] [(0, true), (1, true), (2, true), (3, false)] rfl (pKt (pKt (pKt (pKo (iC .u32) (iC_pure _) (out_39.set (wrapF .i64 (i_9 + (v3.Groups.length : Int))).toNat (wrapF .u32 carry_40)) trivial))))).to))
  ·refine .leave rfl ?_
   obtain rfl := oi hr
   exact ⟨rfl, ((Wk.gc [2, 3, 4, 5] [(0, true), (1, true), (2, true), (3, false)] rfl (pKt (pKt (pKt (pKo (iC .u32) (iC_pure _) out_8 trivial))))).to)⟩
 ·rintro x st' hq52
  clear hL51
  obtain ⟨rfl, hq52⟩ := hq52
  refine CQ_exit _ rfl (.wk hq52 (.seq ?_))
  obtain ⟨v53, hc54, hr⟩ := bd hr
  refine .g1 G (callOk_ref (args := [aB (v1.Negative != v3.Negative), .hs 3 0 out_29.length 1]) (l := [3]) (SnL.cons (Sn.pure rfl) (SnL.cons (Sn.hs rfl (.inl rfl) (SnC.pure (ids_flat (iC_pure _) _)) (fun h => flat_nil0 h)) SnL.nil)) (fiducialref01_made_ok n (v1.Negative != v3.Negative) out_29 v53 hc54)) (.mu 6 (.ca cf0 (.mu 1 (.done (.nh [4] [.own (api_Int.c v1), .own (api_Int.c v3), .own (api_Int.c v53), .fix (out_29.flatMap (iC .u32))] (.ret ?_))))))
  obtain rfl := oi hr
  exact FinQ.r1 [.agg (api_Int.c v53)]

theorem fiducialref01_Divide_ok (n : Nat) (x' : api_Int) (y : api_Int) (r : api_Int × api_Int × Int) (hr : fiducialref01_Divide n x' y = some r) : FnOk Tryz.prog 96 [.agg (api_Int.c x'), .agg (api_Int.c y)] (.tup [.agg (api_Int.c r.1), .agg (api_Int.c r.2.1), aI64 r.2.2]) := by
 unfold fiducialref01_Divide at hr
 refine FnOk.bd G Tryz.func96 [.cell 4 50, .cell 5 50, .tmp 6] ?_
 unfold Tryz.f96
 simp only [Option.getD_some]
 refine .seq (.r2 G 54 [(2, .hp 0 0), (3, .hp 1 0), (4, .hp 2 0), (5, .hp 3 0)] [.own (api_Int.c x'), .own (api_Int.c y), .own [aB false, nS], .own [aB false, nS]] (.seq ?_))
 obtain ⟨v1, hc2, v3, hc4, hr⟩ := bd2 hr
 refine .tn G (ca1 (ok0 (fiducialref01_Value_ok n x' v1 hc2)) (ca3 (ok0 (fiducialref01_Value_ok n y v3 hc4)))) (.mu 1 (.ca cf0 (.mu 1 (.ca (cfA (fun h => by rw [sv hc4 hc2 (fiducialref01_Value_cg n h)]) cf0) (.mu 2 ?_)))))
 refine .done ⟨by kernel_rfl, ?_⟩
 refine .nh [2, 3, 4, 5] [.own (api_Int.c v1), .own (api_Int.c v3), .own [aB false, nS], .own [aB false, nS]] (.seq (.seq (.r4 G [2, 3, 4, 5] [(17, aB (((v3.Groups.length : Int) : Int) == 0))] ?_)))
 refine .cd hr (fun hb5 hr => ?_) (fun hb5 hr => ?_)
 ·refine .seq (.r4 G [4, 5] [(6, aI64 14)] (.ret ?_))
  obtain rfl := oi hr
  exact FinQ.ret (vs := [.agg [aB false, nS], .agg [aB false, nS], aI64 14]) (by kernel_rfl) (Sn.tup (SnL.cons (Sn.agg (SnL.cons (Sn.pure rfl) (SnL.cons Sn.nilsl SnL.nil))) (SnL.cons (Sn.agg (SnL.cons (Sn.pure rfl) (SnL.cons Sn.nilsl SnL.nil))) (SnL.cons (Sn.pure rfl) SnL.nil))))
 ·refine .skip (.seq ?_)
  obtain ⟨v6, hc7, hr⟩ := bd hr
  refine .g1 G (ok0 (fiducialref01_parts_ok n v1.Groups v3.Groups v6 hc7)) (.mu 4 (.ca cf0 (.mu 5 (.done (.nh [2, 3, 4, 5, 7, 8] [.own (api_Int.c v1), .own (api_Int.c v3), .own [aB false, nS], .own [aB false, nS]] (.seq ?_))))))
  obtain ⟨v8, hc9, hr⟩ := bd hr
  refine .g1 G (ok0 (fiducialref01_made_ok n (v1.Negative != v3.Negative) v6.1 v8 hc9)) (.mu 6 (.ca cf0 (.mu 2 (.done (.nh [2, 3, 4, 5, 8, 9] [.own (api_Int.c v1), .own (api_Int.c v3), .own [aB false, nS], .own [aB false, nS], .own (api_Int.c v8)] (.seq (.seq ?_)))))))
  rcases Bool.eq_false_or_eq_true (v1.Negative != v3.Negative) with hb10 | hb10
  ·replace hr := cd_t hb10 hr
   refine .r0 G (.mu 4 (.p0 (v := aB true) (eB hb10) (.mu 5 (.done (.nh [2, 3, 4, 5, 9, 44] [.own (api_Int.c v1), .own (api_Int.c v3), .own [aB false, nS], .own [aB false, nS], .own (api_Int.c v8)] ?_)))))
   refine .cd hr (fun hb11 hr => ?_) (fun hb11 hr => ?_)
   ·obtain ⟨v12, hc13, v14, hc15, hr⟩ := bd2 hr
    refine .tn G (ca1 (ok0 (fiducialref01_Of_ok n 1 v12 hc13)) (ca3 (ok0 (fiducialref01_Sub_ok n v8 v12 v14 hc15)))) (.mu 1 (.ca cf0 (.ca (cfF cf0) (.mu 1 ?_))))
    refine .done ⟨by kernel_rfl, ?_⟩
    refine .nh [2, 3, 4, 5, 9] [.own (api_Int.c v1), .own (api_Int.c v3), .own [aB false, nS], .own [aB false, nS], .own (api_Int.c v14)] (.seq ?_)
    obtain ⟨v16, hc17, v18, hc19, hr⟩ := bd2 hr
    refine .tn G (ca1 (ok0 (fiducialref01_Mul_ok n v14 v3 v16 hc17)) (ca3 (ok0 (fiducialref01_Sub_ok n v1 v16 v18 hc19)))) (.mu 4 (.ca cf0 (.ca (cfF cf0) (.mu 3 ?_))))
    refine .done ⟨by kernel_rfl, ?_⟩
    refine .nh [4, 5, 6] [.own (api_Int.c v1), .own (api_Int.c v3), .own (api_Int.c v14), .own (api_Int.c v18), .own (api_Int.c v14)] (.ret ?_)
    obtain rfl := oi hr
    exact FinQ.ret (vs := [.agg (api_Int.c v14), .agg (api_Int.c v18), aI64 0]) (by kernel_rfl) (Sn.tup (SnL.cons (Sn.pure rfl) (SnL.cons (Sn.pure rfl) (SnL.cons (Sn.pure rfl) SnL.nil))))
   ·refine .skip (.seq ?_)
    obtain ⟨v20, hc21, v22, hc23, hr⟩ := bd2 hr
    refine .tn G (ca1 (ok0 (fiducialref01_Mul_ok n v8 v3 v20 hc21)) (ca3 (ok0 (fiducialref01_Sub_ok n v1 v20 v22 hc23)))) (.mu 4 (.ca cf0 (.ca (cfF cf0) (.mu 3 ?_))))
    refine .done ⟨by kernel_rfl, ?_⟩
    refine .nh [4, 5, 6] [.own (api_Int.c v1), .own (api_Int.c v3), .own (api_Int.c v8), .own (api_Int.c v22), .own (api_Int.c v8)] (.ret ?_)
    obtain rfl := oi hr
    exact FinQ.ret (vs := [.agg (api_Int.c v8), .agg (api_Int.c v22), aI64 0]) (by kernel_rfl) (Sn.tup (SnL.cons (Sn.pure rfl) (SnL.cons (Sn.pure rfl) (SnL.cons (Sn.pure rfl) SnL.nil))))
  ·replace hr := cd_f hb10 hr
   refine .r0 G (.mu 4 (.p0 (v := aB false) (eB hb10) (.mu 5 (.done (.nh [2, 3, 4, 5, 9, 44] [.own (api_Int.c v1), .own (api_Int.c v3), .own [aB false, nS], .own [aB false, nS], .own (api_Int.c v8)] (.cF (by kernel_rfl) (.skip (.seq ?_))))))))
   obtain ⟨v24, hc25, v26, hc27, hr⟩ := bd2 hr
   refine .tn G (ca1 (ok0 (fiducialref01_Mul_ok n v8 v3 v24 hc25)) (ca3 (ok0 (fiducialref01_Sub_ok n v1 v24 v26 hc27)))) (.mu 4 (.ca cf0 (.ca (cfF cf0) (.mu 3 ?_))))
   refine .done ⟨by kernel_rfl, ?_⟩
   refine .nh [4, 5, 6] [.own (api_Int.c v1), .own (api_Int.c v3), .own (api_Int.c v8), .own (api_Int.c v26), .own (api_Int.c v8)] (.ret ?_)
   obtain rfl := oi hr
   exact FinQ.ret (vs := [.agg (api_Int.c v8), .agg (api_Int.c v26), aI64 0]) (by kernel_rfl) (Sn.tup (SnL.cons (Sn.pure rfl) (SnL.cons (Sn.pure rfl) (SnL.cons (Sn.pure rfl) SnL.nil))))

theorem fiducialref02_reduced_ok (n : Nat) (num : api_Int) (den : api_Int) (r : api_Rat) (hr : fiducialref02_reduced n num den = some r) : FnOk Tryz.prog 86 [.agg (api_Int.c num), .agg (api_Int.c den)] (.agg (api_Rat.c r)) := by
 unfold fiducialref02_reduced at hr
 refine FnOk.bd G Tryz.func86 [.cell 4 52] ?_
 unfold Tryz.f86
 simp only [Option.getD_some]
 refine .seq (.r2 G 37 [(2, .hp 0 0), (3, .hp 1 0), (4, .hp 2 0)] [.own (api_Int.c num), .own (api_Int.c den), .own [aB false, nS, aB false, nS]] (.seq ?_))
 obtain ⟨v1, hc2, hr⟩ := bd hr
 refine .g1 G (ok0 (fiducialref01_Gcd_ok n num den v1 hc2)) (.mu 2 (.ca cf0 (.mu 2 (.done (.nh [2, 3, 4, 5] [.own (api_Int.c num), .own (api_Int.c den), .own [aB false, nS, aB false, nS], .own (api_Int.c v1)] (.seq (.seq ?_)))))))
 obtain ⟨v3, hc4, hr⟩ := bd hr
 refine .g1 G (ok0 (fiducialref01_Sign_ok n den v3 hc4)) (.mu 1 (.ca cf0 (.mu 1 (.done (.nh [2, 3, 4, 5, 17] [.own (api_Int.c num), .own (api_Int.c den), .own [aB false, nS, aB false, nS], .own (api_Int.c v1)] ?_)))))
 refine .cd hr (fun hb5 hr => ?_) (fun hb5 hr => ?_)
 ·obtain ⟨v6, hc7, hr⟩ := bd hr
  refine .g1 G (ok0 (fiducialref01_Neg_ok n v1 v6 hc7)) (.mu 1 (.ca cf0 (.mu 1 (.done (.nh [2, 3, 4, 5] [.own (api_Int.c num), .own (api_Int.c den), .own [aB false, nS, aB false, nS], .own (api_Int.c v6)] (.seq ?_))))))
  obtain ⟨v8, hc9, hr⟩ := bd hr
  refine .g1 G (ok0 (fiducialref01_Divide_ok n num v6 v8 hc9)) (.mu 2 (.ca cf0 (.mu 9 (.done (.nh [3, 4, 5, 6] [.own (api_Int.c num), .own (api_Int.c den), .own [aB false, nS, aB false, nS], .own (api_Int.c v6), .own (api_Int.c v8.1), .own (api_Int.c v8.2.1)] (.seq ?_))))))
  obtain ⟨v10, hc11, hr⟩ := bd hr
  refine .g1 G (ok0 (fiducialref01_Divide_ok n den v6 v10 hc11)) (.mu 2 (.ca cf0 (.mu 9 (.done (.nh [4, 6, 9] [.own (api_Int.c num), .own (api_Int.c den), .own [aB false, nS, aB false, nS], .own (api_Int.c v6), .own (api_Int.c v8.1), .own (api_Int.c v8.2.1), .own (api_Int.c v10.1), .own (api_Int.c v10.2.1)] (.seq (.r5 G [4] [] [.own (api_Int.c num), .own (api_Int.c den), .own [aB v8.1.Negative, sU32 v8.1.Groups, aB v10.1.Negative, sU32 v10.1.Groups], .own (api_Int.c v6), .own (api_Int.c v8.1), .own (api_Int.c v8.2.1), .own (api_Int.c v10.1), .own (api_Int.c v10.2.1)] (.ret ?_))))))))
  obtain rfl := oi hr
  exact FinQ.r1 [.agg [aB v8.1.Negative, sU32 v8.1.Groups, aB v10.1.Negative, sU32 v10.1.Groups]]
 ·refine .skip (.seq ?_)
  obtain ⟨v12, hc13, hr⟩ := bd hr
  refine .g1 G (ok0 (fiducialref01_Divide_ok n num v1 v12 hc13)) (.mu 2 (.ca cf0 (.mu 9 (.done (.nh [3, 4, 5, 6] [.own (api_Int.c num), .own (api_Int.c den), .own [aB false, nS, aB false, nS], .own (api_Int.c v1), .own (api_Int.c v12.1), .own (api_Int.c v12.2.1)] (.seq ?_))))))
  obtain ⟨v14, hc15, hr⟩ := bd hr
  refine .g1 G (ok0 (fiducialref01_Divide_ok n den v1 v14 hc15)) (.mu 2 (.ca cf0 (.mu 9 (.done (.nh [4, 6, 9] [.own (api_Int.c num), .own (api_Int.c den), .own [aB false, nS, aB false, nS], .own (api_Int.c v1), .own (api_Int.c v12.1), .own (api_Int.c v12.2.1), .own (api_Int.c v14.1), .own (api_Int.c v14.2.1)] (.seq (.r5 G [4] [] [.own (api_Int.c num), .own (api_Int.c den), .own [aB v12.1.Negative, sU32 v12.1.Groups, aB v14.1.Negative, sU32 v14.1.Groups], .own (api_Int.c v1), .own (api_Int.c v12.1), .own (api_Int.c v12.2.1), .own (api_Int.c v14.1), .own (api_Int.c v14.2.1)] (.ret ?_))))))))
  obtain rfl := oi hr
  exact FinQ.r1 [.agg [aB v12.1.Negative, sU32 v12.1.Groups, aB v14.1.Negative, sU32 v14.1.Groups]]

theorem fiducialref02_New_ok (n : Nat) (num : api_Int) (den : api_Int) (r : api_Rat × Int) (hr : fiducialref02_New n num den = some r) : FnOk Tryz.prog 84 [.agg (api_Int.c num), .agg (api_Int.c den)] (.tup [.agg (api_Rat.c r.1), aI64 r.2]) := by
 unfold fiducialref02_New at hr
 refine FnOk.bd G Tryz.func84 [.cell 4 52, .tmp 5] ?_
 unfold Tryz.f84
 simp only [Option.getD_some]
 refine .seq (.r2 G 13 [(2, .hp 0 0), (3, .hp 1 0), (4, .hp 2 0)] [.own (api_Int.c num), .own (api_Int.c den), .own [aB false, nS, aB false, nS]] (.seq (.seq ?_)))
 obtain ⟨v1, hc2, hr⟩ := bd hr
 refine .g1 G (ok0 (fiducialref01_Sign_ok n den v1 hc2)) (.mu 1 (.ca cf0 (.mu 1 (.done (.nh [2, 3, 4, 8] [.own (api_Int.c num), .own (api_Int.c den), .own [aB false, nS, aB false, nS]] ?_)))))
 refine .cd hr (fun hb3 hr => ?_) (fun hb3 hr => ?_)
 ·refine .seq (.r4 G [4] [(5, aI64 14)] (.ret ?_))
  obtain rfl := oi hr
  exact FinQ.ret (vs := [.agg [aB false, nS, aB false, nS], aI64 14]) (by kernel_rfl) (Sn.tup (SnL.cons (Sn.agg (SnL.cons (Sn.pure rfl) (SnL.cons Sn.nilsl (SnL.cons (Sn.pure rfl) (SnL.cons Sn.nilsl SnL.nil))))) (SnL.cons (Sn.pure rfl) SnL.nil)))
 ·refine .skip (.seq ?_)
  obtain ⟨v4, hc5, hr⟩ := bd hr
  refine .g1 G (ok0 (fiducialref02_reduced_ok n num den v4 hc5)) (.mu 2 (.ca cf0 (.mu 2 (.done (.nh [4, 5] [.own (api_Int.c num), .own (api_Int.c den), .own (api_Rat.c v4)] (.ret ?_))))))
  obtain rfl := oi hr
  exact FinQ.ret (vs := [.agg (api_Rat.c v4), aI64 0]) (by kernel_rfl) (Sn.tup (SnL.cons (Sn.pure rfl) (SnL.cons (Sn.pure rfl) SnL.nil)))

theorem fiducialref02_Of_ok (n : Nat) (n' : Int) (d : Int) (r : api_Rat × Int) (hr : fiducialref02_Of n n' d = some r) : FnOk Tryz.prog 66 [aI64 n', aI64 d] (.tup [.agg (api_Rat.c r.1), aI64 r.2]) := by
 unfold fiducialref02_Of at hr
 refine FnOk.bd G Tryz.func66 [.cell 4 52, .tmp 5] ?_
 unfold Tryz.f66
 simp only [Option.getD_some]
 refine .seq (.r5 G [0, 1] [(4, .hp 0 0)] [.own [aB false, nS, aB false, nS]] (.seq ?_))
 obtain ⟨v1, hc2, v3, hc4, v5, hc6, hr⟩ := bd3 hr
 refine .gn G (ca1 (ok0 (fiducialref02_whole_ok n n' v1 hc2)) (ca1 (ok0 (fiducialref02_whole_ok n d v3 hc4)) (ca3 (ok0 (fiducialref02_New_ok n v1 v3 v5 hc6))))) (.mu 1 (.ca cf0 (.mu 1 (.ca (cfA (fun h => by rw [sv hc4 hc2 (fiducialref02_whole_cg n h)]) cf0) (.ca (cfF (cfF cf0)) (.mu 4 (.done (.nh [4, 5] [.own (api_Rat.c v5.1)] (.ret ?_)))))))))
 obtain rfl := oi hr
 exact FinQ.ret (vs := [.agg (api_Rat.c v5.1), aI64 v5.2]) (by kernel_rfl) (Sn.tup (SnL.cons (Sn.pure rfl) (SnL.cons (Sn.pure rfl) SnL.nil)))

theorem fiduciallaw55_size_ok (n : Nat) (s : api_Survey) (height : Int) (ground : Int) (r : api_Rat × api_Rat) (hr : fiduciallaw55_size n s height ground = some r) : FnOk Tryz.prog 50 [.agg (api_Survey.c s), aI64 height, aI64 ground] (.tup [.agg (api_Rat.c r.1), .agg (api_Rat.c r.2)]) := by
 unfold fiduciallaw55_size at hr
 refine FnOk.bd G Tryz.func50 [.cell 6 52, .cell 7 52] ?_
 unfold Tryz.f50
 simp only [Option.getD_some]
 refine .seq (.r5 G [1, 2] [(3, .hp 0 0), (6, .hp 1 0), (7, .hp 2 0)] [.own (api_Survey.c s), .own [aB false, nS, aB false, nS], .own [aB false, nS, aB false, nS]] (.seq ?_))
 obtain ⟨v1, hc2, hr⟩ := bd hr
 refine .g1 G (ok0 (fiducialref02_Of_ok n (wrapF .i64 (s.Along * (wrapF .i64 (height - ground)))) s.Focal v1 hc2)) (.mu 8 (.ca cf0 (.mu 6 (.done (.nh [1, 2, 3, 6, 7, 8] [.own (api_Survey.c s), .own [aB false, nS, aB false, nS], .own [aB false, nS, aB false, nS], .own (api_Rat.c v1.1)] (.seq ?_))))))
 obtain ⟨v3, hc4, hr⟩ := bd hr
 refine .g1 G (ok0 (fiducialref02_Of_ok n (wrapF .i64 (s.Across * (wrapF .i64 (height - ground)))) s.Focal v3 hc4)) (.mu 8 (.ca cf0 (.mu 6 (.done (.nh [6, 7, 8, 10] [.own (api_Survey.c s), .own [aB false, nS, aB false, nS], .own [aB false, nS, aB false, nS], .own (api_Rat.c v1.1), .own (api_Rat.c v3.1)] (.seq (.regionT G callOf_nil (.mu 4 ?_))))))))
 refine .done ⟨by kernel_rfl, ?_⟩
 refine .nh [6, 7] [.own (api_Survey.c s), .own (api_Rat.c v1.1), .own (api_Rat.c v3.1), .own (api_Rat.c v1.1), .own (api_Rat.c v3.1)] (.ret ?_)
 obtain rfl := oi hr
 exact FinQ.ret (vs := [.agg (api_Rat.c v1.1), .agg (api_Rat.c v3.1)]) (by kernel_rfl) (Sn.tup (SnL.cons (Sn.pure rfl) (SnL.cons (Sn.pure rfl) SnL.nil)))

theorem fiducialref02_Neg_ok (n : Nat) (x' : api_Rat) (r : api_Rat) (hr : fiducialref02_Neg n x' = some r) : FnOk Tryz.prog 85 [.agg (api_Rat.c x')] (.agg (api_Rat.c r)) := by
 unfold fiducialref02_Neg at hr
 refine FnOk.bd G Tryz.func85 [.cell 2 52] ?_
 unfold Tryz.f85
 simp only [Option.getD_some]
 refine .seq (.r2 G 12 [(1, .hp 0 0), (2, .hp 1 0)] [.own (api_Rat.c x'), .own [aB false, nS, aB false, nS]] (.seq ?_))
 obtain ⟨v1, hc2, hr⟩ := bd hr
 refine .g1 G (ok0 (fiducialref02_Value_ok n x' v1 hc2)) (.mu 1 (.ca cf0 (.mu 2 (.done (.nh [2, 3] [.own (api_Rat.c x'), .own [aB false, nS, aB false, nS], .own (api_Rat.c v1)] (.seq ?_))))))
 obtain ⟨v3, hc4, hr⟩ := bd hr
 refine .t1 G (ok0 (fiducialref01_Neg_ok n v1.Num v3 hc4)) (.mu 2 (.ca cf0 (.mu 4 ?_)))
 refine .done ⟨by kernel_rfl, ?_⟩
 refine .nh [2] [.own (api_Rat.c x'), .own [aB v3.Negative, sU32 v3.Groups, aB v1.Den.Negative, sU32 v1.Den.Groups], .own (api_Rat.c v1)] (.ret ?_)
 obtain rfl := oi hr
 exact FinQ.r1 [.agg [aB v3.Negative, sU32 v3.Groups, aB v1.Den.Negative, sU32 v1.Den.Groups]]

theorem fiducialref02_Add_ok (n : Nat) (x' : api_Rat) (y : api_Rat) (r : api_Rat) (hr : fiducialref02_Add n x' y = some r) : FnOk Tryz.prog 70 [.agg (api_Rat.c x'), .agg (api_Rat.c y)] (.agg (api_Rat.c r)) := by
 unfold fiducialref02_Add at hr
 refine FnOk.bd G Tryz.func70 [.cell 4 52] ?_
 unfold Tryz.f70
 simp only [Option.getD_some]
 refine .seq (.r2 G 28 [(2, .hp 0 0), (3, .hp 1 0), (4, .hp 2 0)] [.own (api_Rat.c x'), .own (api_Rat.c y), .own [aB false, nS, aB false, nS]] (.seq ?_))
 obtain ⟨v1, hc2, hr⟩ := bd hr
 refine .g1 G (ok0 (fiducialref02_Value_ok n x' v1 hc2)) (.mu 1 (.ca cf0 (.mu 2 (.done (.nh [3, 4, 5] [.own (api_Rat.c x'), .own (api_Rat.c y), .own [aB false, nS, aB false, nS], .own (api_Rat.c v1)] (.seq ?_))))))
 obtain ⟨v3, hc4, hr⟩ := bd hr
 refine .g1 G (ok0 (fiducialref02_Value_ok n y v3 hc4)) (.mu 1 (.ca cf0 (.mu 2 (.done (.nh [4, 5, 6] [.own (api_Rat.c x'), .own (api_Rat.c y), .own [aB false, nS, aB false, nS], .own (api_Rat.c v1), .own (api_Rat.c v3)] (.seq ?_))))))
 obtain ⟨v5, hc6, v7, hc8, v9, hc10, hr⟩ := bd3 hr
 obtain ⟨v11, hc12, v13, hc14, hr⟩ := bd2 hr
 refine .tn G (ca1 (ok0 (fiducialref01_Mul_ok n v1.Num v3.Den v5 hc6)) (ca1 (ok0 (fiducialref01_Mul_ok n v3.Num v1.Den v7 hc8)) (ca1 (ok0 (fiducialref01_Add_ok n v5 v7 v9 hc10)) (ca1 (ok0 (fiducialref01_Mul_ok n v1.Den v3.Den v11 hc12)) (ca3 (ok0 (fiducialref02_reduced_ok n v9 v11 v13 hc14))))))) (.mu 4 (.ca cf0 (.mu 4 (.ca (cfA (fun h => by rw [sv hc8 hc6 (fiducialref01_Mul_cg n h)]) cf0) (.ca (cfF (cfF cf0)) (.mu 4 (.ca (cfA (fun h => by rw [sv hc12 hc6 (fiducialref01_Mul_cg n h)]) (cfA (fun h => by rw [sv hc12 hc8 (fiducialref01_Mul_cg n h)]) (cfF cf0))) (.ca (cfF (cfF (cfF (cfF cf0)))) (.mu 1 ?_)))))))))
 refine .done ⟨by kernel_rfl, ?_⟩
 refine .nh [4] [.own (api_Rat.c x'), .own (api_Rat.c y), .own (api_Rat.c v13), .own (api_Rat.c v1), .own (api_Rat.c v3)] (.ret ?_)
 obtain rfl := oi hr
 exact FinQ.r1 [.agg (api_Rat.c v13)]

theorem fiducialref02_Sub_ok (n : Nat) (x' : api_Rat) (y : api_Rat) (r : api_Rat) (hr : fiducialref02_Sub n x' y = some r) : FnOk Tryz.prog 68 [.agg (api_Rat.c x'), .agg (api_Rat.c y)] (.agg (api_Rat.c r)) := by
 unfold fiducialref02_Sub at hr
 refine FnOk.bd G Tryz.func68 [.cell 4 52] ?_
 unfold Tryz.f68
 simp only [Option.getD_some]
 refine .seq (.r2 G 9 [(2, .hp 0 0), (3, .hp 1 0), (4, .hp 2 0)] [.own (api_Rat.c x'), .own (api_Rat.c y), .own [aB false, nS, aB false, nS]] (.seq ?_))
 obtain ⟨v1, hc2, v3, hc4, hr⟩ := bd2 hr
 refine .tn G (ca1 (ok0 (fiducialref02_Neg_ok n y v1 hc2)) (ca3 (ok0 (fiducialref02_Add_ok n x' v1 v3 hc4)))) (.mu 2 (.ca cf0 (.ca (cfF cf0) (.mu 1 ?_))))
 refine .done ⟨by kernel_rfl, ?_⟩
 refine .nh [4] [.own (api_Rat.c x'), .own (api_Rat.c y), .own (api_Rat.c v3)] (.ret ?_)
 obtain rfl := oi hr
 exact FinQ.r1 [.agg (api_Rat.c v3)]

theorem fiducialref02_Abs_ok (n : Nat) (x' : api_Rat) (r : api_Rat) (hr : fiducialref02_Abs n x' = some r) : FnOk Tryz.prog 67 [.agg (api_Rat.c x')] (.agg (api_Rat.c r)) := by
 unfold fiducialref02_Abs at hr
 refine FnOk.bd G Tryz.func67 [.cell 2 52] ?_
 unfold Tryz.f67
 simp only [Option.getD_some]
 refine .seq (.r2 G 10 [(1, .hp 0 0), (2, .hp 1 0)] [.own (api_Rat.c x'), .own [aB false, nS, aB false, nS]] (.seq (.seq ?_)))
 obtain ⟨v1, hc2, hr⟩ := bd hr
 refine .g1 G (ok0 (fiducialref02_Sign_ok n x' v1 hc2)) (.mu 1 (.ca cf0 (.mu 1 (.done (.nh [1, 2, 5] [.own (api_Rat.c x'), .own [aB false, nS, aB false, nS]] ?_)))))
 refine .cd hr (fun hb3 hr => ?_) (fun hb3 hr => ?_)
 ·refine .seq ?_
  obtain ⟨v4, hc5, hr⟩ := bd hr
  refine .g1 G (ok0 (fiducialref02_Neg_ok n x' v4 hc5)) (.mu 1 (.ca cf0 (.mu 1 (.done (.nh [2] [.own (api_Rat.c x'), .own (api_Rat.c v4)] (.ret ?_))))))
  obtain rfl := oi hr
  exact FinQ.r1 [.agg (api_Rat.c v4)]
 ·refine .skip (.seq ?_)
  obtain ⟨v6, hc7, hr⟩ := bd hr
  refine .g1 G (ok0 (fiducialref02_Value_ok n x' v6 hc7)) (.mu 1 (.ca cf0 (.mu 1 (.done (.nh [2] [.own (api_Rat.c x'), .own (api_Rat.c v6)] (.ret ?_))))))
  obtain rfl := oi hr
  exact FinQ.r1 [.agg (api_Rat.c v6)]

theorem fiducialref02_Compare_ok (n : Nat) (x' : api_Rat) (y : api_Rat) (r : Int) (hr : fiducialref02_Compare n x' y = some r) : FnOk Tryz.prog 69 [.agg (api_Rat.c x'), .agg (api_Rat.c y)] (aI64 r) := by
 unfold fiducialref02_Compare at hr
 refine FnOk.bd G Tryz.func69 [.tmp 4] ?_
 unfold Tryz.f69
 simp only [Option.getD_some]
 refine .seq (.r2 G 9 [(2, .hp 0 0), (3, .hp 1 0)] [.own (api_Rat.c x'), .own (api_Rat.c y)] (.seq ?_))
 obtain ⟨v1, hc2, v3, hc4, hr⟩ := bd2 hr
 refine .gn G (ca1 (ok0 (fiducialref02_Sub_ok n x' y v1 hc2)) (ca3 (ok0 (fiducialref02_Sign_ok n v1 v3 hc4)))) (.mu 2 (.ca cf0 (.ca (cfF cf0) (.mu 1 (.done (.ret ?_))))))
 obtain rfl := oi hr
 exact FinQ.r1 [aI64 v3]

theorem fiduciallaw55_near_inj {x' : api_Rat} {at' : Int} {length : api_Rat} {x'_ : api_Rat} {at'_ : Int} {length_ : api_Rat} (h : ([.agg [.at (.bool x'.Num.Negative), slT (iC .u32) x'.Num.Groups, .at (.bool x'.Den.Negative), slT (iC .u32) x'.Den.Groups], .at (.int .i64 at'), .agg [.at (.bool length.Num.Negative), slT (iC .u32) length.Num.Groups, .at (.bool length.Den.Negative), slT (iC .u32) length.Den.Groups]] : List AV) = [.agg [.at (.bool x'_.Num.Negative), slT (iC .u32) x'_.Num.Groups, .at (.bool x'_.Den.Negative), slT (iC .u32) x'_.Den.Groups], .at (.int .i64 at'_), .agg [.at (.bool length_.Num.Negative), slT (iC .u32) length_.Num.Groups, .at (.bool length_.Den.Negative), slT (iC .u32) length_.Den.Groups]]) : x' = x'_ ∧ at' = at'_ ∧ length = length_ := by
 obtain ⟨⟨_, _⟩, ⟨_, _⟩⟩ := x'
 obtain ⟨⟨_, _⟩, ⟨_, _⟩⟩ := x'_
 obtain ⟨⟨_, _⟩, ⟨_, _⟩⟩ := length
 obtain ⟨⟨_, _⟩, ⟨_, _⟩⟩ := length_
 simp only [List.cons.injEq, AV.agg.injEq, AV.at.injEq, Value.int.injEq, Value.bool.injEq, AV.fn.injEq, AV.pp.injEq, true_and, and_true, slT_inj_int] at h
 simp_all
theorem fiduciallaw55_near_cg (n : Nat) {x' : api_Rat} {at' : Int} {length : api_Rat} {x'_ : api_Rat} {at'_ : Int} {length_ : api_Rat} (h : ([.agg [.at (.bool x'.Num.Negative), slT (iC .u32) x'.Num.Groups, .at (.bool x'.Den.Negative), slT (iC .u32) x'.Den.Groups], .at (.int .i64 at'), .agg [.at (.bool length.Num.Negative), slT (iC .u32) length.Num.Groups, .at (.bool length.Den.Negative), slT (iC .u32) length.Den.Groups]] : List AV) = [.agg [.at (.bool x'_.Num.Negative), slT (iC .u32) x'_.Num.Groups, .at (.bool x'_.Den.Negative), slT (iC .u32) x'_.Den.Groups], .at (.int .i64 at'_), .agg [.at (.bool length_.Num.Negative), slT (iC .u32) length_.Num.Groups, .at (.bool length_.Den.Negative), slT (iC .u32) length_.Den.Groups]]) : fiduciallaw55_near n x' at' length = fiduciallaw55_near n x'_ at'_ length_ := by
 obtain ⟨rfl, rfl, rfl⟩ := fiduciallaw55_near_inj h
 rfl
theorem fiduciallaw55_near_ok (n : Nat) (x' : api_Rat) (at' : Int) (length : api_Rat) (r : Bool) (hr : fiduciallaw55_near n x' at' length = some r) : FnOk Tryz.prog 51 [.agg (api_Rat.c x'), aI64 at', .agg (api_Rat.c length)] (aB r) := by
 unfold fiduciallaw55_near at hr
 refine FnOk.bd G Tryz.func51 [.tmp 6] ?_
 unfold Tryz.f51
 simp only [Option.getD_some]
 refine .seq (.r5 G [1] [(3, .hp 0 0), (5, .hp 1 0)] [.own (api_Rat.c x'), .own (api_Rat.c length)] (.seq ?_))
 obtain ⟨v1, hc2, v3, hc4, v5, hc6, hr⟩ := bd3 hr
 refine .tn G (ca1 (ok0 (fiducialref02_Whole_ok n at' v1 hc2)) (ca1 (ok0 (fiducialref02_Sub_ok n x' v1 v3 hc4)) (ca3 (ok0 (fiducialref02_Abs_ok n v3 v5 hc6))))) (.mu 2 (.ca cf0 (.ca (cfF cf0) (.ca (cfF (cfF cf0)) (.mu 2 ?_)))))
 refine .done ⟨by kernel_rfl, ?_⟩
 refine .nh [5, 7] [.own (api_Rat.c x'), .own (api_Rat.c length), .own (api_Rat.c v5)] (.seq ?_)
 obtain ⟨v7, hc8, v9, hc10, hr⟩ := bd2 hr
 refine .tn G (ca1 (ok0 (fiducialref02_Add_ok n v5 v5 v7 hc8)) (ca3 (ok0 (fiducialref02_Compare_ok n v7 length v9 hc10)))) (.mu 2 (.ca cf0 (.mu 1 (.ca (cfF cf0) (.mu 2 ?_)))))
 refine .done ⟨by kernel_rfl, ?_⟩
 refine .ret ?_
 obtain rfl := oi hr
 exact FinQ.r1 [aB (decide (v9 ≤ 0))]

theorem fiduciallaw55_serves_ok (n : Nat) (s : api_Survey) (f : api_Flight) (l : List api_Pix) (set : List Int) (r : Bool) (hr : fiduciallaw55_serves n s f l set = some r) : FnOk Tryz.prog 32 [.agg (api_Survey.c s), .agg (api_Flight.c f), slT api_Pix.c l, sI64 set] (aB r) := by
 unfold fiduciallaw55_serves at hr
 refine FnOk.bd G Tryz.func32 [.tmp 8] ?_
 unfold Tryz.f32
 simp only [Option.getD_some]
 refine .seq (.r5 G [2, 3] [(4, .hp 0 0), (5, .hp 1 0)] [.own (api_Survey.c s), .own (api_Flight.c f)] (.seq ?_))
 obtain ⟨v1, hc2, hr⟩ := bd hr
 refine .g1 G (ok0 (fiduciallaw55_size_ok n s f.Height s.High v1 hc2)) (.mu 5 (.ca cf0 (.mu 7 (.done (.nh [2, 3, 5, 9, 10] [.own (api_Survey.c s), .own (api_Flight.c f), .own (api_Rat.c v1.1), .own (api_Rat.c v1.2)] (.seq (.seq ?_)))))))
 obtain ⟨v3, hc4, hr⟩ := bd hr
 refine .g1 G (ok0 (fiduciallaw55_positions_ok n f v3 hc4)) (.mu 1 (.ca cf0 (.mu 2 (.done (.nh [2, 3, 9, 10, 26, 27, 28] [.own (api_Survey.c s), .own (api_Flight.c f), .own (api_Rat.c v1.1), .own (api_Rat.c v1.2)] (.block ?_))))))
 replace hr := bd hr; obtain ⟨o85, hL86, hr⟩ := hr
 refine .loopO (σ := fun z0 => match z0 with | x_5 => ⟨mkS 67 0 [(2, slT api_Pix.c l), (3, sI64 set), (9, .hp 0 0), (10, .hp 1 0), (26, slT api_Pix.c v3), (27, aI64 (v3.length : Int)), (28, aI64 x_5)], [.own (api_Rat.c v1.1), .own (api_Rat.c v1.2)]⟩) (Q := fun x st' => match (generalizing := false) o85 with | .inl _ => x = .exit 0 ∧ Wk 0 st' ⟨mkS 67 0 [], []⟩ | .inr (r0) => x = .ret ∧ FinQ Tryz.prog [.tmp 8] (aB r0) .ret st') hL86 ((Wk.gc [2, 3, 9, 10, 26, 27, 28] [(2, true), (3, true)] rfl trivial).to) ?_ ?_
 ·clear hr
  rintro m x_5 hr
  show CQ _ _ _ _ _ ⟨_, _⟩
  refine .seq (.r4 G [2, 3, 9, 10, 26, 27, 28] [(29, aB (decide (x_5 < (v3.length : Int))))] (.seq ?_))
  refine .cd hr (fun hb47 hr => ?_) (fun hb47 hr => ?_)
  ·refine .skip (.seq (.block (.seq ?_)))
   obtain ⟨hg48, hr⟩ := gd hr
   refine .r0 G (.p0 (v := .pp (v3.flatMap api_Pix.c) (x_5.toNat * 2)) (tr (ofP_guard hg48)) (.p0 (v := .agg (api_Pix.c (gt v3 x_5))) (Eq.trans (b := ORes.ofP (guardV (decide (2 ≤ ((v3.flatMap api_Pix.c).drop (x_5.toNat * 2)).length)) (.agg (((v3.flatMap api_Pix.c).drop (x_5.toNat * 2)).take 2)))) (by kernel_rfl) (flat_load api_Pix.len (inR_lt hg48) (by decide) (by omega : x_5.toNat * 2 = x_5.toNat * 2 + 0) (by kernel_rfl))) (.mu 2 (.done (.nh [2, 3, 9, 10, 12, 26, 27, 28] [.own (api_Rat.c v1.1), .own (api_Rat.c v1.2), .own (api_Pix.c (gt v3 x_5))] (.seq (.r4 G [2, 3, 9, 10, 12, 26, 27, 28] [(13, aB false)] (.seq (.seq (.r4 G [2, 3, 9, 10, 12, 13, 26, 27, 28] [(32, sI64 set), (33, aI64 (set.length : Int)), (34, aI64 0)] (.block ?_)))))))))))
   replace hr := bd hr; obtain ⟨ok_65, hL82, hr⟩ := hr
   refine .loopO (σ := fun z0 => match z0 with | (ok_49, x_50) => ⟨mkS 67 0 [(2, slT api_Pix.c l), (3, sI64 set), (9, .hp 0 0), (10, .hp 1 0), (12, .hp 2 0), (13, aB ok_49), (26, slT api_Pix.c v3), (27, aI64 (v3.length : Int)), (28, aI64 x_5), (32, sI64 set), (33, aI64 (set.length : Int)), (34, aI64 x_50)], [.own (api_Rat.c v1.1), .own (api_Rat.c v1.2), .own (api_Pix.c (gt v3 x_5))]⟩) (Q := fun x st' => x = .exit 2 ∧ Wk 0 st' ⟨mkS 67 0 [(2, slT api_Pix.c l), (3, sI64 set), (9, .hp 0 0), (10, .hp 1 0), (13, aB ok_65), (26, slT api_Pix.c v3), (27, aI64 (v3.length : Int)), (28, aI64 x_5)], [.own (api_Rat.c v1.1), .own (api_Rat.c v1.2)]⟩) hL82 ((Wk.gc [2, 3, 9, 10, 12, 13, 26, 27, 28, 32, 33, 34] [(0, true), (1, true), (2, true)] rfl trivial).to) ?_ ?_
   ·clear hr
    rintro m ⟨ok_49, x_50⟩ hr
    show CQ _ _ _ _ _ ⟨_, _⟩
    refine .seq (.r4 G [2, 3, 9, 10, 12, 13, 26, 27, 28, 32, 33, 34] [(35, aB (decide (x_50 < (set.length : Int))))] (.seq ?_))
    refine .cd hr (fun hb68 hr => ?_) (fun hb68 hr => ?_)
    ·refine .skip (.seq (.block (.seq ?_)))
     obtain ⟨hg69, hr⟩ := gd hr
     refine .r0 G (.p0 (v := .pp (set.flatMap (iC .i64)) (x_50.toNat * 1)) (tr (ofP_guard hg69)) (.p0 (v := aI64 (gt set x_50)) (tr (ofP_some (flat_get (iC_len .i64) (inR_lt hg69) (by decide : 0 < 1) (by omega : x_50.toNat * 1 = x_50.toNat * 1 + 0) (by kernel_rfl)))) (.mu 1 (.done (.nh [2, 3, 9, 10, 12, 13, 15, 26, 27, 28, 32, 33, 34] [.own (api_Rat.c v1.1), .own (api_Rat.c v1.2), .own (api_Pix.c (gt v3 x_5))] ?_)))))
     rcases Bool.eq_false_or_eq_true ok_49 with hb70 | hb70
     ·replace hr := cd_t hb70 hr
      refine .regionT G callOf_nil (.pure (v := aB true) (by kernel_rfl) (eB hb70) (by kernel_rfl) (.mu 25 ?_))
      refine .done ⟨by kernel_rfl, ?_⟩
      refine .pop (.ru G ?_)
      exact loopF_back (true, wrapF .i64 (x_50 + 1)) hr ((Wk.gc [2, 3, 9, 10, 12, 13, 26, 27, 28, 32, 33, 34] [(0, true), (1, true), (2, true)] rfl trivial).to)
     ·replace hr := cd_f hb70 hr
      obtain ⟨hg71, hr⟩ := gd hr
      obtain ⟨v72, hc73, v74, hc75, hr⟩ := bd2 hr
      rcases Bool.eq_false_or_eq_true v74 with hb76 | hb76
      ·subst hb76
       replace hr := cd_t rfl hr
       obtain ⟨v77, hc78, v79, hc80, hr⟩ := bd2 hr
       refine .tn G (ca1 (ok0 (fiducialref02_Whole_ok n (gt l (gt set x_50)).X v72 hc73)) (ca1 (ok0 (fiduciallaw55_near_ok n v72 (gt v3 x_5).X v1.1 true hc75)) (ca1 (ok0 (fiducialref02_Whole_ok n (gt l (gt set x_50)).Y v77 hc78)) (ca3 (ok0 (fiduciallaw55_near_ok n v77 (gt v3 x_5).Y v1.2 v79 hc80)))))) (.pure (v := aB false) (by kernel_rfl) (eB hb70) (by kernel_rfl) (.mu 3 (.pure (v := .pp (l.flatMap api_Pix.c) ((gt set x_50).toNat * 2)) (by kernel_rfl) (tr (ofP_guard hg71)) (by kernel_rfl) (.mu 1 (.pure (v := aI64 (gt l (gt set x_50)).X) (by kernel_rfl) (tr (ofP_some (flat_get api_Pix.len (inR_lt hg71) (by decide : 0 < 2) (by omega : (gt set x_50).toNat * 2 + 0 = (gt set x_50).toNat * 2 + 0) (by kernel_rfl)))) (by kernel_rfl) (.ca cf0 (.mu 3 (.ca (cfF cf0) (.mu 3 (.pure (v := .pp (l.flatMap api_Pix.c) ((gt set x_50).toNat * 2)) (by kernel_rfl) (tr (ofP_guard hg71)) (by kernel_rfl) (.mu 1 (.pure (v := aI64 (gt l (gt set x_50)).Y) (by kernel_rfl) (tr (ofP_some (flat_get api_Pix.len (inR_lt hg71) (by decide : 1 < 2) (by omega : (gt set x_50).toNat * 2 + 1 = (gt set x_50).toNat * 2 + 1) (by kernel_rfl)))) (by kernel_rfl) (.ca (cfA (fun h => by rw [sv hc78 hc73 (fiducialref02_Whole_cg n h)]) (cfF cf0)) (.mu 3 (.ca (cfF (cfA (fun h => by rw [sv hc80 hc75 (fiduciallaw55_near_cg n h)]) (cfF cf0))) (.mu 3 ?_))))))))))))))))
       refine .done ⟨by kernel_rfl, ?_⟩
       refine .pop (.ru G ?_)
       exact loopF_back (v79, wrapF .i64 (x_50 + 1)) hr ((Wk.gc [2, 3, 9, 10, 12, 13, 26, 27, 28, 32, 33, 34] [(0, true), (1, true), (2, true)] rfl trivial).to)
      ·subst hb76
       replace hr := cd_f rfl hr
       refine .tn G (ca1 (ok0 (fiducialref02_Whole_ok n (gt l (gt set x_50)).X v72 hc73)) (ca3 (ok0 (fiduciallaw55_near_ok n v72 (gt v3 x_5).X v1.1 false hc75)))) (.pure (v := aB false) (by kernel_rfl) (eB hb70) (by kernel_rfl) (.mu 3 (.pure (v := .pp (l.flatMap api_Pix.c) ((gt set x_50).toNat * 2)) (by kernel_rfl) (tr (ofP_guard hg71)) (by kernel_rfl) (.mu 1 (.pure (v := aI64 (gt l (gt set x_50)).X) (by kernel_rfl) (tr (ofP_some (flat_get api_Pix.len (inR_lt hg71) (by decide : 0 < 2) (by omega : (gt set x_50).toNat * 2 + 0 = (gt set x_50).toNat * 2 + 0) (by kernel_rfl)))) (by kernel_rfl) (.ca cf0 (.mu 3 (.ca (cfF cf0) (.mu 14 ?_)))))))))
       refine .done ⟨by kernel_rfl, ?_⟩
       refine .pop (.ru G ?_)
       exact loopF_back (false, wrapF .i64 (x_50 + 1)) hr ((Wk.gc [2, 3, 9, 10, 12, 13, 26, 27, 28, 32, 33, 34] [(0, true), (1, true), (2, true)] rfl trivial).to)
    ·refine .leave rfl ?_
     obtain rfl := oi hr
     exact ⟨rfl, ((Wk.gc [2, 3, 9, 10, 13, 26, 27, 28] [(0, true), (1, true)] rfl trivial).to)⟩
   ·rintro x st' hq83
    clear hL82
    obtain ⟨rfl, hq83⟩ := hq83
    refine CQ_exit _ rfl (.wk hq83 (.seq (.r4 G [2, 3, 9, 10, 26, 27, 28] [(65, aB (!ok_65))] ?_)))
    refine .cd hr (fun hb84 hr => ?_) (fun hb84 hr => ?_)
    ·refine .seq (.ru G (.ret ?_))
     obtain rfl := oi hr
     exact ⟨rfl, FinQ.ret (vs := [aB false]) (by kernel_rfl) (Sn.pure rfl)⟩
    ·refine .skip (.pop (.ru G ?_))
     exact loopF_back (wrapF .i64 (x_5 + 1)) hr ((Wk.gc [2, 3, 9, 10, 26, 27, 28] [(0, true), (1, true)] rfl trivial).to)
  ·refine .leave rfl ?_
   obtain rfl := oi hr
   exact ⟨rfl, ((Wk.gc [] [] rfl pK0).to)⟩
 ·rcases o85 with ⟨⟩ | r0
  ·rintro x st' hq87
   clear hL86
   obtain ⟨rfl, hq87⟩ := hq87
   refine CQ_exit _ rfl (.wk hq87 (.seq (.ru G (.ret ?_))))
   obtain rfl := oi hr
   exact FinQ.r1 [aB true]
  ·rintro x st' hq87
   clear hL86
   obtain ⟨rfl, hq87⟩ := hq87
   obtain rfl := oi hr
   exact CQ_ret _ hq87

theorem fiduciallaw55_control_ok (n : Nat) (s : api_Survey) (f : api_Flight) (l : List api_Pix) (r : List Int × Bool) (hr : fiduciallaw55_control n s f l = some r) : FnOk Tryz.prog 11 [.agg (api_Survey.c s), .agg (api_Flight.c f), slT api_Pix.c l] (.tup [sI64 r.1, aB r.2]) := by
 unfold fiduciallaw55_control at hr
 refine FnOk.bd G Tryz.func11 [.tmp 6, .tmp 7] ?_
 unfold Tryz.f11
 simp only [Option.getD_some]
 refine .seq (.r5 G [2] [(3, .hp 0 0), (4, .hp 1 0)] [.own (api_Survey.c s), .own (api_Flight.c f)] (.seq (.r4 G [2, 3, 4] [(8, nS)] (.seq (.r4 G [2, 3, 4, 8] [(9, aB false)] (.seq (.seq ?_)))))))
 obtain ⟨hg1, hr⟩ := gd hr
 refine .r0 G (.mu 2 (.p0 (v := aI64 (shlF .i64 (1 : Int) (l.length : Int))) (op_shl (k := .i64) (k' := .i64) (x := 1) (y := (l.length : Int)) (by kernel_rfl) (by kernel_rfl) hg1) (.mu 1 (.done (.nh [2, 3, 4, 8, 9, 15, 16] [.own (api_Survey.c s), .own (api_Flight.c f)] (.block ?_))))))
 replace hr := bd hr; obtain ⟨o118, hL119, hr⟩ := hr
 refine .loopO (σ := fun z0 => match z0 with | (best_2, found_3, x_4) => ⟨mkS 65 0 [(2, slT api_Pix.c l), (3, .hp 0 0), (4, .hp 1 0), (8, .hs 2 0 best_2.length 1), (9, aB found_3), (15, aI64 (shlF .i64 (1 : Int) (l.length : Int))), (16, aI64 x_4)], [.own (api_Survey.c s), .own (api_Flight.c f), .own (best_2.flatMap (iC .i64))]⟩) (Q := fun x st' => match (generalizing := false) o118 with | (best_60, found_61) => x = .exit 0 ∧ Wk 0 st' ⟨mkS 65 0 [(8, .hs 0 0 best_60.length 1), (9, aB found_61)], [.own (best_60.flatMap (iC .i64))]⟩) hL119 ((Wk.nil 8 1 (by kernel_rfl)).trans ((Wk.gc [2, 3, 4, 8, 9, 15, 16] [(0, true), (1, true), (2, false)] rfl (pKt (pKt (pKc trivial)))).to)) ?_ ?_
 ·clear hr
  rintro m ⟨best_2, found_3, x_4⟩ hr
  show CQ _ _ _ _ _ ⟨_, _⟩
  refine .seq (.r4 G [2, 3, 4, 8, 9, 15, 16] [(17, aB (decide (x_4 < (shlF .i64 (1 : Int) (l.length : Int)))))] (.seq ?_))
  refine .cd hr (fun hb64 hr => ?_) (fun hb64 hr => ?_)
  ·refine .skip (.seq (.block (.seq (.r4 G [2, 3, 4, 8, 9, 15, 16] [(10, aI64 x_4)] (.seq (.r5 G [2, 3, 4, 8, 9, 10, 15, 16] [(11, .hs 3 0 0 1)] [.own (api_Survey.c s), .own (api_Flight.c f), .own (best_2.flatMap (iC .i64)), .own []] (.seq (.seq (.r4 G [2, 3, 4, 8, 9, 10, 11, 15, 16] [(21, aI64 (l.length : Int)), (22, aI64 0)] (.block ?_))))))))))
   replace hr := bd hr; obtain ⟨set_92, hL101, hr⟩ := hr
   refine .loopO (σ := fun z0 => match z0 with | (set_84, x_85) => ⟨mkS 65 0 [(2, slT api_Pix.c l), (3, .hp 0 0), (4, .hp 1 0), (8, .hs 2 0 best_2.length 1), (9, aB found_3), (10, aI64 x_4), (11, .hs 3 0 set_84.length 1), (15, aI64 (shlF .i64 (1 : Int) (l.length : Int))), (16, aI64 x_4), (21, aI64 (l.length : Int)), (22, aI64 x_85)], [.own (api_Survey.c s), .own (api_Flight.c f), .own (best_2.flatMap (iC .i64)), .own (set_84.flatMap (iC .i64))]⟩) (Q := fun x st' => x = .exit 2 ∧ Wk 0 st' ⟨mkS 65 0 [(2, slT api_Pix.c l), (3, .hp 0 0), (4, .hp 1 0), (8, .hs 2 0 best_2.length 1), (9, aB found_3), (11, .hs 3 0 set_92.length 1), (15, aI64 (shlF .i64 (1 : Int) (l.length : Int))), (16, aI64 x_4)], [.own (api_Survey.c s), .own (api_Flight.c f), .own (best_2.flatMap (iC .i64)), .own (set_92.flatMap (iC .i64))]⟩) hL101 ((Wk.gc [2, 3, 4, 8, 9, 10, 11, 15, 16, 21, 22] [(0, true), (1, true), (2, false), (3, false)] rfl (pKt (pKt (pKo (iC .i64) (iC_pure _) best_2 (pKc trivial))))).to) ?_ ?_
   ·clear hr
    rintro m ⟨set_84, x_85⟩ hr
    show CQ _ _ _ _ _ ⟨_, _⟩
    refine .seq (.r4 G [2, 3, 4, 8, 9, 10, 11, 15, 16, 21, 22] [(23, aB (decide (x_85 < (l.length : Int))))] (.seq ?_))
    refine .cd hr (fun hb95 hr => ?_) (fun hb95 hr => ?_)
    ·refine .skip (.seq (.block (.seq (.r4 G [2, 3, 4, 8, 9, 10, 11, 15, 16, 21, 22] [(12, aI64 x_85)] (.seq ?_)))))
     obtain ⟨hg96, hr⟩ := gd hr
     refine .r0 G (.mu 2 (.p0 (v := aI64 (shrF .i64 x_4 x_85)) (op_shr (k := .i64) (k' := .i64) (x := x_4) (y := x_85) (by kernel_rfl) (by kernel_rfl) hg96) (.mu 2 (.done (.nh [2, 3, 4, 8, 9, 10, 11, 12, 15, 16, 21, 22, 29] [.own (api_Survey.c s), .own (api_Flight.c f), .own (best_2.flatMap (iC .i64)), .own (set_84.flatMap (iC .i64))] ?_)))))
     refine .cd hr (fun hb97 hr => ?_) (fun hb97 hr => ?_)
     ·obtain ⟨hg98, hg99, hr⟩ := gd2 hr
      refine .r0 G (.mu 3 (.e0 (v := .hs 5 0 (set_84 ++ [x_85]).length 1) (ws := [(3, .dead), (5, .own ((set_84 ++ [x_85]).flatMap (iC .i64)))]) (tr (app_own (new := [aI64 x_85]) (l := set_84) (xs := [x_85]) (iC_len .i64) rfl rfl (by kernel_rfl) hg98 hg99)) (.mu 1 (.done (.pop (.ru G ?_))))))
      exact loopF_back (set_84 ++ [x_85], wrapF .i64 (x_85 + 1)) hr ((Wk.gc [2, 3, 4, 8, 9, 10, 11, 15, 16, 21, 22] [(0, true), (1, true), (2, false), (5, false)] rfl (pKt (pKt (pKo (iC .i64) (iC_pure _) best_2 (pKo (iC .i64) (iC_pure _) (set_84 ++ [x_85]) trivial))))).to)
     ·refine .skip (.pop (.ru G ?_))
      exact loopF_back (set_84, wrapF .i64 (x_85 + 1)) hr ((Wk.gc [2, 3, 4, 8, 9, 10, 11, 15, 16, 21, 22] [(0, true), (1, true), (2, false), (3, false)] rfl (pKt (pKt (pKo (iC .i64) (iC_pure _) best_2 (pKo (iC .i64) (iC_pure _) set_84 trivial))))).to)
    ·refine .leave rfl ?_
     obtain rfl := oi hr
     exact ⟨rfl, ((Wk.gc [2, 3, 4, 8, 9, 11, 15, 16] [(0, true), (1, true), (2, false), (3, false)] rfl (pKt (pKt (pKo (iC .i64) (iC_pure _) best_2 (pKo (iC .i64) (iC_pure _) set_84 trivial))))).to)⟩
   ·rintro x st' hq102
    clear hL101
    obtain ⟨rfl, hq102⟩ := hq102
    refine CQ_exit _ rfl (.wk hq102 (.seq (.seq ?_)))
    rcases Bool.eq_false_or_eq_true found_3 with hb103 | hb103
    ·replace hr := cd_t hb103 hr
     rcases Bool.eq_false_or_eq_true (decide ((set_92.length : Int) > (best_2.length : Int))) with hb104 | hb104
     ·replace hr := cd_t hb104 hr
      refine .r0 G (.p0 (v := aB true) (eB hb103) (.mu 5 (.pure (v := aB true) (by kernel_rfl) (eB hb104) (.mu 14 (.done (.nh [2, 3, 4, 8, 9, 11, 15, 16, 55] [.own (api_Survey.c s), .own (api_Flight.c f), .own (best_2.flatMap (iC .i64)), .own (set_92.flatMap (iC .i64))] (.cT (by kernel_rfl) (.exit rfl (.ru G ?_)))))))))
      exact loopF_back (best_2, found_3, wrapF .i64 (x_4 + 1)) hr ((Wk.gc [2, 3, 4, 8, 9, 15, 16] [(0, true), (1, true), (2, false)] rfl (pKt (pKt (pKo (iC .i64) (iC_pure _) best_2 trivial)))).to)
     ·replace hr := cd_f hb104 hr
      rcases Bool.eq_false_or_eq_true (((set_92.length : Int) : Int) == (best_2.length : Int)) with hb105 | hb105
      ·replace hr := cd_t hb105 hr
       obtain ⟨v106, hc107, hr⟩ := bd hr
       refine .g1 G (callOk_val (args := [.hs 3 0 set_92.length 1, .hs 2 0 best_2.length 1]) (l := [2, 3]) rfl (SnL.cons (Sn.hs rfl (.inl rfl) (SnC.pure (ids_flat (iC_pure _) _)) (fun h => flat_nil0 h)) (SnL.cons (Sn.hs rfl (.inl rfl) (SnC.pure (ids_flat (iC_pure _) _)) (fun h => flat_nil0 h)) SnL.nil)) (slices_Compare_int_int_ok n set_92 best_2 v106 hc107)) (.p0 (v := aB true) (eB hb103) (.mu 5 (.pure (v := aB false) (by kernel_rfl) (eB hb104) (.mu 5 (.pure (v := aB true) (by kernel_rfl) (eB hb105) (.mu 3 (.ca cf0 (.mu 4 (.done (.nh [2, 3, 4, 8, 9, 11, 15, 16, 55] [.own (api_Survey.c s), .own (api_Flight.c f), .own (best_2.flatMap (iC .i64)), .own (set_92.flatMap (iC .i64))] ?_))))))))))
       refine .cd hr (fun hb108 hr => ?_) (fun hb108 hr => ?_)
       ·refine .exit rfl (.ru G ?_)
        exact loopF_back (best_2, found_3, wrapF .i64 (x_4 + 1)) hr ((Wk.gc [2, 3, 4, 8, 9, 15, 16] [(0, true), (1, true), (2, false)] rfl (pKt (pKt (pKo (iC .i64) (iC_pure _) best_2 trivial)))).to)
       ·refine .skip (.seq ?_)
        obtain ⟨v109, hc110, hr⟩ := bd hr
        refine .g1 G (callOk_val (args := [.agg (api_Survey.c s), .agg (api_Flight.c f), slT api_Pix.c l, .hs 3 0 set_92.length 1]) (l := [3]) rfl (SnL.cons (Sn.pure rfl) (SnL.cons (Sn.pure rfl) (SnL.cons (Sn.pure rfl) (SnL.cons (Sn.hs rfl (.inl rfl) (SnC.pure (ids_flat (iC_pure _) _)) (fun h => flat_nil0 h)) SnL.nil)))) (fiduciallaw55_serves_ok n s f l set_92 v109 hc110)) (.mu 4 (.ca cf0 (.done (.nh [2, 3, 4, 8, 9, 11, 15, 16, 60] [.own (api_Survey.c s), .own (api_Flight.c f), .own (best_2.flatMap (iC .i64)), .own (set_92.flatMap (iC .i64))] ?_))))
        refine .cd hr (fun hb111 hr => ?_) (fun hb111 hr => ?_)
        ·refine .ru G (.pop (.ru G ?_))
         exact loopF_back (set_92, true, wrapF .i64 (x_4 + 1)) hr ((Wk.gc [2, 3, 4, 8, 9, 15, 16] [(0, true), (1, true), (3, false)] rfl (pKt (pKt (pKo (iC .i64) (iC_pure _) set_92 trivial)))).to)
        ·refine .skip (.pop (.ru G ?_))
         exact loopF_back (best_2, found_3, wrapF .i64 (x_4 + 1)) hr ((Wk.gc [2, 3, 4, 8, 9, 15, 16] [(0, true), (1, true), (2, false)] rfl (pKt (pKt (pKo (iC .i64) (iC_pure _) best_2 trivial)))).to)
      ·replace hr := cd_f hb105 hr
       refine .r0 G (.p0 (v := aB true) (eB hb103) (.mu 5 (.pure (v := aB false) (by kernel_rfl) (eB hb104) (.mu 5 (.pure (v := aB false) (by kernel_rfl) (eB hb105) (.mu 8 (.done (.nh [2, 3, 4, 8, 9, 11, 15, 16, 55] [.own (api_Survey.c s), .own (api_Flight.c f), .own (best_2.flatMap (iC .i64)), .own (set_92.flatMap (iC .i64))] (.cF (by kernel_rfl) (.skip (.seq ?_)))))))))))
       obtain ⟨v112, hc113, hr⟩ := bd hr
       refine .g1 G (callOk_val (args := [.agg (api_Survey.c s), .agg (api_Flight.c f), slT api_Pix.c l, .hs 3 0 set_92.length 1]) (l := [3]) rfl (SnL.cons (Sn.pure rfl) (SnL.cons (Sn.pure rfl) (SnL.cons (Sn.pure rfl) (SnL.cons (Sn.hs rfl (.inl rfl) (SnC.pure (ids_flat (iC_pure _) _)) (fun h => flat_nil0 h)) SnL.nil)))) (fiduciallaw55_serves_ok n s f l set_92 v112 hc113)) (.mu 4 (.ca cf0 (.done (.nh [2, 3, 4, 8, 9, 11, 15, 16, 60] [.own (api_Survey.c s), .own (api_Flight.c f), .own (best_2.flatMap (iC .i64)), .own (set_92.flatMap (iC .i64))] ?_))))
       refine .cd hr (fun hb114 hr => ?_) (fun hb114 hr => ?_)
       ·refine .ru G (.pop (.ru G ?_))
        exact loopF_back (set_92, true, wrapF .i64 (x_4 + 1)) hr ((Wk.gc [2, 3, 4, 8, 9, 15, 16] [(0, true), (1, true), (3, false)] rfl (pKt (pKt (pKo (iC .i64) (iC_pure _) set_92 trivial)))).to)
       ·refine .skip (.pop (.ru G ?_))
        exact loopF_back (best_2, found_3, wrapF .i64 (x_4 + 1)) hr ((Wk.gc [2, 3, 4, 8, 9, 15, 16] [(0, true), (1, true), (2, false)] rfl (pKt (pKt (pKo (iC .i64) (iC_pure _) best_2 trivial)))).to)
    ·replace hr := cd_f hb103 hr
     refine .r0 G (.p0 (v := aB false) (eB hb103) (.mu 20 (.done (.nh [2, 3, 4, 8, 9, 11, 15, 16, 55] [.own (api_Survey.c s), .own (api_Flight.c f), .own (best_2.flatMap (iC .i64)), .own (set_92.flatMap (iC .i64))] (.cF (by kernel_rfl) (.skip (.seq ?_)))))))
     obtain ⟨v115, hc116, hr⟩ := bd hr
     refine .g1 G (callOk_val (args := [.agg (api_Survey.c s), .agg (api_Flight.c f), slT api_Pix.c l, .hs 3 0 set_92.length 1]) (l := [3]) rfl (SnL.cons (Sn.pure rfl) (SnL.cons (Sn.pure rfl) (SnL.cons (Sn.pure rfl) (SnL.cons (Sn.hs rfl (.inl rfl) (SnC.pure (ids_flat (iC_pure _) _)) (fun h => flat_nil0 h)) SnL.nil)))) (fiduciallaw55_serves_ok n s f l set_92 v115 hc116)) (.mu 4 (.ca cf0 (.done (.nh [2, 3, 4, 8, 9, 11, 15, 16, 60] [.own (api_Survey.c s), .own (api_Flight.c f), .own (best_2.flatMap (iC .i64)), .own (set_92.flatMap (iC .i64))] ?_))))
     refine .cd hr (fun hb117 hr => ?_) (fun hb117 hr => ?_)
     ·refine .ru G (.pop (.ru G ?_))
      exact loopF_back (set_92, true, wrapF .i64 (x_4 + 1)) hr ((Wk.gc [2, 3, 4, 8, 9, 15, 16] [(0, true), (1, true), (3, false)] rfl (pKt (pKt (pKo (iC .i64) (iC_pure _) set_92 trivial)))).to)
     ·refine .skip (.pop (.ru G ?_))
      exact loopF_back (best_2, found_3, wrapF .i64 (x_4 + 1)) hr ((Wk.gc [2, 3, 4, 8, 9, 15, 16] [(0, true), (1, true), (2, false)] rfl (pKt (pKt (pKo (iC .i64) (iC_pure _) best_2 trivial)))).to)
  ·refine .leave rfl ?_
   obtain rfl := oi hr
   exact ⟨rfl, ((Wk.gc [8, 9] [(2, false)] rfl (pKo (iC .i64) (iC_pure _) best_2 trivial)).to)⟩
 ·rcases o118 with ⟨best_60, found_61⟩
  rintro x st' hq120
  clear hL119
  obtain ⟨rfl, hq120⟩ := hq120
  refine CQ_exit _ rfl (.wk hq120 (.seq (.r3 G 65 [(6, .hs 0 0 best_60.length 1), (7, aB found_61)] (.ret ?_))))
  obtain rfl := oi hr
  exact FinQ.ret (vs := [.hs 0 0 best_60.length 1, aB found_61]) (by kernel_rfl) (Sn.tup (SnL.cons (Sn.hs rfl (.inl rfl) (SnC.pure (ids_flat (iC_pure _) _)) (fun h => flat_nil0 h)) (SnL.cons (Sn.pure rfl) SnL.nil)))

theorem slices_Equal_int_int_ok (n : Nat) (s1 : List Int) (s2 : List Int) (r : Bool) (hr : slices_Equal_int_int n s1 s2 = some r) : FnOk Tryz.prog 12 [sI64 s1, sI64 s2] (aB r) := by
 unfold slices_Equal_int_int at hr
 refine FnOk.bd G Tryz.func12 [.tmp 4] ?_
 unfold Tryz.f12
 simp only [Option.getD_some]
 refine .seq (.r4 G [0, 1] [] (.seq (.seq (.r4 G [0, 1] [(10, aB (((s1.length : Int) : Int) != (s2.length : Int)))] ?_))))
 refine .cd hr (fun hb1 hr => ?_) (fun hb1 hr => ?_)
 ·refine .seq (.ru G (.ret ?_))
  obtain rfl := oi hr
  exact FinQ.r1 [aB false]
 ·refine .skip (.seq (.seq (.r4 G [0, 1] [(12, aI64 (s1.length : Int)), (13, aI64 0)] (.block ?_))))
  replace hr := bd hr; obtain ⟨o12, hL13, hr⟩ := hr
  refine .loopO (σ := fun z0 => match z0 with | x_2 => ⟨mkS 26 0 [(0, sI64 s1), (1, sI64 s2), (12, aI64 (s1.length : Int)), (13, aI64 x_2)], []⟩) (Q := fun x st' => match (generalizing := false) o12 with | .inl _ => x = .exit 0 ∧ Wk 0 st' ⟨mkS 26 0 [], []⟩ | .inr (r0) => x = .ret ∧ FinQ Tryz.prog [.tmp 4] (aB r0) .ret st') hL13 ((Wk.gc [0, 1, 12, 13] [] rfl pK0).to) ?_ ?_
  ·clear hr
   rintro m x_2 hr
   show CQ _ _ _ _ _ ⟨_, _⟩
   refine .seq (.r4 G [0, 1, 12, 13] [(14, aB (decide (x_2 < (s1.length : Int))))] (.seq ?_))
   refine .cd hr (fun hb8 hr => ?_) (fun hb8 hr => ?_)
   ·refine .skip (.seq (.block (.seq (.r4 G [0, 1, 12, 13] [(5, aI64 x_2)] (.seq ?_)))))
    obtain ⟨hg9, hg10, hr⟩ := gd2 hr
    refine .regionT G callOf_nil (.mu 2 (.pure (v := .pp (s1.flatMap (iC .i64)) (x_2.toNat * 1)) (by kernel_rfl) (tr (ofP_guard hg9)) (by kernel_rfl) (.pure (v := aI64 (gt s1 x_2)) (by kernel_rfl) (tr (ofP_some (flat_get (iC_len .i64) (inR_lt hg9) (by decide : 0 < 1) (by omega : x_2.toNat * 1 = x_2.toNat * 1 + 0) (by kernel_rfl)))) (by kernel_rfl) (.mu 2 (.pure (v := .pp (s2.flatMap (iC .i64)) (x_2.toNat * 1)) (by kernel_rfl) (tr (ofP_guard hg10)) (by kernel_rfl) (.pure (v := aI64 (gt s2 x_2)) (by kernel_rfl) (tr (ofP_some (flat_get (iC_len .i64) (inR_lt hg10) (by decide : 0 < 1) (by omega : x_2.toNat * 1 = x_2.toNat * 1 + 0) (by kernel_rfl)))) (by kernel_rfl) (.mu 1 ?_)))))))
    refine .done ⟨by kernel_rfl, ?_⟩
    refine .nh [0, 1, 12, 13, 24] [] ?_
    refine .cd hr (fun hb11 hr => ?_) (fun hb11 hr => ?_)
    ·refine .seq (.ru G (.ret ?_))
     obtain rfl := oi hr
     exact ⟨rfl, FinQ.ret (vs := [aB false]) (by kernel_rfl) (Sn.pure rfl)⟩
    ·refine .skip (.pop (.ru G ?_))
     exact loopF_back (wrapF .i64 (x_2 + 1)) hr ((Wk.gc [0, 1, 12, 13] [] rfl pK0).to)
   ·refine .leave rfl ?_
    obtain rfl := oi hr
    exact ⟨rfl, ((Wk.gc [] [] rfl pK0).to)⟩
  ·rcases o12 with ⟨⟩ | r0
   ·rintro x st' hq14
    clear hL13
    obtain ⟨rfl, hq14⟩ := hq14
    refine CQ_exit _ rfl (.wk hq14 (.seq (.ru G (.ret ?_))))
    obtain rfl := oi hr
    exact FinQ.r1 [aB true]
   ·rintro x st' hq14
    clear hL13
    obtain ⟨rfl, hq14⟩ := hq14
    obtain rfl := oi hr
    exact CQ_ret _ hq14

theorem fiduciallaw55_PlanControls_ok (n : Nat) (s : api_Survey) (f : api_Flight) (l : List api_Pix) (r : Bool) (hr : fiduciallaw55_PlanControls n s f l = some r) : FnOk Tryz.prog 3 [.agg (api_Survey.c s), .agg (api_Flight.c f), slT api_Pix.c l] (aB r) := by
 unfold fiduciallaw55_PlanControls at hr
 refine FnOk.bd G Tryz.func3 [.tmp 6] ?_
 unfold Tryz.f3
 simp only [Option.getD_some]
 refine .seq (.r5 G [2] [(3, .hp 0 0), (4, .hp 1 0)] [.own (api_Survey.c s), .own (api_Flight.c f)] (.seq (.seq ?_)))
 obtain ⟨v1, hc2, hr⟩ := bd hr
 refine .g1 G (ok0 (fiduciallaw55_known_ok n v1 hc2)) (.ca cf0 (.mu 1 (.done (.nh [2, 3, 4, 14] [.own (api_Survey.c s), .own (api_Flight.c f)] ?_))))
 refine .cd hr (fun hb4 hr => ?_) (fun hb4 hr => ?_)
 ·refine .seq (.ru G (.ret ?_))
  obtain rfl := oi hr
  exact FinQ.r1 [aB false]
 ·refine .skip (.seq (.seq ?_))
  replace hr := bd hr; obtain ⟨o14, hL15, hr⟩ := hr
  refine .app2 (Q := fun x st' => match (generalizing := false) o14 with | .inl _ => x = .normal ∧ Wk 0 st' ⟨mkS 88 0 [(2, slT api_Pix.c l), (3, .hp 0 0), (4, .hp 1 0)], [.own (api_Survey.c s), .own (api_Flight.c f)]⟩ | .inr (r0) => x = .ret ∧ FinQ Tryz.prog [.tmp 6] (aB r0) .ret st') ?_ ?_
  ·clear hr
   have hr := hL15
   clear hL15
   obtain ⟨v7, hc8, hr⟩ := bd hr
   rcases Bool.eq_false_or_eq_true (!v7) with hb9 | hb9
   ·replace hr := cd_t hb9 hr
    refine .g1 G (ok0 (fiduciallaw55_few_ok n f 8 v7 hc8)) (.mu 1 (.ca cf0 (.p0 (v := aB true) (eB hb9) (.mu 15 (.done (.nh [2, 3, 4, 32] [.own (api_Survey.c s), .own (api_Flight.c f)] (.cT (by kernel_rfl) (.seq (.ru G (.ret ?_))))))))))
    obtain rfl := oi hr
    exact ⟨rfl, FinQ.ret (vs := [aB true]) (by kernel_rfl) (Sn.pure rfl)⟩
   ·replace hr := cd_f hb9 hr
    rcases Bool.eq_false_or_eq_true (decide ((l.length : Int) > 8)) with hb10 | hb10
    ·replace hr := cd_t hb10 hr
     rcases Bool.eq_false_or_eq_true (decide ((l.length : Int) ≤ 16)) with hb11 | hb11
     ·replace hr := cd_t hb11 hr
      refine .g1 G (ok0 (fiduciallaw55_few_ok n f 8 v7 hc8)) (.mu 1 (.ca cf0 (.p0 (v := aB false) (eB hb9) (.mu 3 (.pure (v := aB true) (by kernel_rfl) (eB hb10) (.mu 3 (.pure (v := aB true) (by kernel_rfl) (eB hb11) (.mu 7 (.done (.nh [2, 3, 4, 32] [.own (api_Survey.c s), .own (api_Flight.c f)] (.cT (by kernel_rfl) (.seq (.ru G (.ret ?_))))))))))))))
      obtain rfl := oi hr
      exact ⟨rfl, FinQ.ret (vs := [aB true]) (by kernel_rfl) (Sn.pure rfl)⟩
     ·replace hr := cd_f hb11 hr
      refine .g1 G (ok0 (fiduciallaw55_few_ok n f 8 v7 hc8)) (.mu 1 (.ca cf0 (.p0 (v := aB false) (eB hb9) (.mu 3 (.pure (v := aB true) (by kernel_rfl) (eB hb10) (.mu 3 (.pure (v := aB false) (by kernel_rfl) (eB hb11) (.mu 7 (.done (.nh [2, 3, 4, 32] [.own (api_Survey.c s), .own (api_Flight.c f)] ?_))))))))))
      refine .cd hr (fun hb12 hr => ?_) (fun hb12 hr => ?_)
      ·refine .seq (.ru G (.ret ?_))
       obtain rfl := oi hr
       exact ⟨rfl, FinQ.ret (vs := [aB true]) (by kernel_rfl) (Sn.pure rfl)⟩
      ·refine .skip ?_
       obtain rfl := oi hr
       exact ⟨rfl, ((Wk.gc [2, 3, 4] [(0, true), (1, true)] rfl trivial).to)⟩
    ·replace hr := cd_f hb10 hr
     refine .g1 G (ok0 (fiduciallaw55_few_ok n f 8 v7 hc8)) (.mu 1 (.ca cf0 (.p0 (v := aB false) (eB hb9) (.mu 3 (.pure (v := aB false) (by kernel_rfl) (eB hb10) (.mu 11 (.done (.nh [2, 3, 4, 32] [.own (api_Survey.c s), .own (api_Flight.c f)] ?_))))))))
     refine .cd hr (fun hb13 hr => ?_) (fun hb13 hr => ?_)
     ·refine .seq (.ru G (.ret ?_))
      obtain rfl := oi hr
      exact ⟨rfl, FinQ.ret (vs := [aB true]) (by kernel_rfl) (Sn.pure rfl)⟩
     ·refine .skip ?_
      obtain rfl := oi hr
      exact ⟨rfl, ((Wk.gc [2, 3, 4] [(0, true), (1, true)] rfl trivial).to)⟩
  ·rcases o14 with ⟨⟩ | r0
   ·rintro x st' hq16
    clear hL15
    obtain ⟨rfl, hq16⟩ := hq16
    refine .wk hq16 (.seq ?_)
    obtain ⟨v17, hc18, hr⟩ := bd hr
    refine .g1 G (ok0 (plan_Control_ok n s f l v17 hc18)) (.mu 3 (.ca cf0 (.mu 5 (.done (.nh [2, 3, 4, 7, 8] [.own (api_Survey.c s), .own (api_Flight.c f)] (.seq ?_))))))
    obtain ⟨v19, hc20, hr⟩ := bd hr
    refine .g1 G (ok0 (fiduciallaw55_asked_ok n s f s.High v19 hc20)) (.mu 4 (.ca cf0 (.mu 1 (.done (.nh [2, 3, 4, 7, 8, 9] [.own (api_Survey.c s), .own (api_Flight.c f)] (.seq (.seq ?_)))))))
    replace hr := bd hr; obtain ⟨c_21, hL27, hr⟩ := hr
    refine .app2 (Q := fun x st' => x = .normal ∧ Wk 0 st' ⟨mkS 88 0 [(2, slT api_Pix.c l), (3, .hp 0 0), (4, .hp 1 0), (7, sI64 v17.1), (8, aI64 v17.2), (9, aI64 c_21)], [.own (api_Survey.c s), .own (api_Flight.c f)]⟩) ?_ ?_
    ·clear hr
     have hr := hL27
     clear hL27
     rcases Bool.eq_false_or_eq_true ((v19 : Int) == 0) with hb22 | hb22
     ·replace hr := cd_t hb22 hr
      obtain ⟨v23, hc24, hr⟩ := bd hr
      refine .g1 G (ok0 (slices_ContainsFunc_fiducial_api_Pix_fiducial_api_Pix_of_fiduciallaw55_PlanControls_1_ok n l v23 hc24)) (.mu 1 (.p0 (v := aB true) (eB hb22) (.mu 2 (.ca cf0 (.mu 1 (.done (.nh [2, 3, 4, 7, 8, 9, 50] [.own (api_Survey.c s), .own (api_Flight.c f)] ?_)))))))
      refine .cd hr (fun hb25 hr => ?_) (fun hb25 hr => ?_)
      ·refine .ru G ?_
       obtain rfl := oi hr
       exact ⟨rfl, ((Wk.gc [2, 3, 4, 7, 8, 9] [(0, true), (1, true)] rfl trivial).to)⟩
      ·refine .skip ?_
       obtain rfl := oi hr
       exact ⟨rfl, ((Wk.gc [2, 3, 4, 7, 8, 9] [(0, true), (1, true)] rfl trivial).to)⟩
     ·replace hr := cd_f hb22 hr
      refine .r0 G (.mu 1 (.p0 (v := aB false) (eB hb22) (.mu 4 (.done (.nh [2, 3, 4, 7, 8, 9, 50] [.own (api_Survey.c s), .own (api_Flight.c f)] (.cF (by kernel_rfl) (.skip ?_)))))))
      obtain rfl := oi hr
      exact ⟨rfl, ((Wk.gc [2, 3, 4, 7, 8, 9] [(0, true), (1, true)] rfl trivial).to)⟩
    ·rintro x st' hq28
     clear hL27
     obtain ⟨rfl, hq28⟩ := hq28
     refine .wk hq28 (.seq (.seq ?_))
     replace hr := bd hr; obtain ⟨c_29, hL33, hr⟩ := hr
     refine .app2 (Q := fun x st' => x = .normal ∧ Wk 0 st' ⟨mkS 88 0 [(2, slT api_Pix.c l), (3, .hp 0 0), (4, .hp 1 0), (7, sI64 v17.1), (8, aI64 v17.2), (9, aI64 c_29)], [.own (api_Survey.c s), .own (api_Flight.c f)]⟩) ?_ ?_
     ·clear hr
      have hr := hL33
      clear hL33
      rcases Bool.eq_false_or_eq_true ((c_21 : Int) == 0) with hb30 | hb30
      ·replace hr := cd_t hb30 hr
       refine .r0 G (.mu 1 (.p0 (v := aB true) (eB hb30) (.mu 5 (.done (.nh [2, 3, 4, 7, 8, 9, 57] [.own (api_Survey.c s), .own (api_Flight.c f)] ?_)))))
       refine .cd hr (fun hb31 hr => ?_) (fun hb31 hr => ?_)
       ·refine .ru G ?_
        obtain rfl := oi hr
        exact ⟨rfl, ((Wk.gc [2, 3, 4, 7, 8, 9] [(0, true), (1, true)] rfl trivial).to)⟩
       ·refine .skip ?_
        obtain rfl := oi hr
        exact ⟨rfl, ((Wk.gc [2, 3, 4, 7, 8, 9] [(0, true), (1, true)] rfl trivial).to)⟩
      ·replace hr := cd_f hb30 hr
       refine .r0 G (.mu 1 (.p0 (v := aB false) (eB hb30) (.mu 5 (.done (.nh [2, 3, 4, 7, 8, 9, 57] [.own (api_Survey.c s), .own (api_Flight.c f)] (.cF (by kernel_rfl) (.skip ?_)))))))
       obtain rfl := oi hr
       exact ⟨rfl, ((Wk.gc [2, 3, 4, 7, 8, 9] [(0, true), (1, true)] rfl trivial).to)⟩
     ·rintro x st' hq34
      clear hL33
      obtain ⟨rfl, hq34⟩ := hq34
      refine .wk hq34 (.seq (.r5 G [2, 3, 4, 7, 8, 9] [(10, .hs 2 0 0 1)] [.own (api_Survey.c s), .own (api_Flight.c f), .own []] (.seq (.seq (.r4 G [2, 3, 4, 7, 8, 9, 10] [(60, aB ((c_29 : Int) == 0))] ?_)))))
      refine .cd hr (fun hb35 hr => ?_) (fun hb35 hr => ?_)
      ·refine .seq ?_
       obtain ⟨v36, hc37, hr⟩ := bd hr
       refine .g1 G (ok0 (fiduciallaw55_control_ok n s f l v36 hc37)) (.mu 3 (.ca cf0 (.mu 5 (.done (.nh [7, 8, 9, 11, 12] [.own (api_Survey.c s), .own (api_Flight.c f), .own []] (.seq (.r4 G [7, 8, 9, 12] [(10, sI64 v36.1)] (.seq (.r4 G [7, 8, 9, 10] [(70, aB (!v36.2))] ?_)))))))))
       replace hr := bd hr; obtain ⟨c_38, hL41, hr⟩ := hr
       refine .app1 (Q := fun x st' => x = .normal ∧ Wk 0 st' ⟨mkS 88 0 [(7, sI64 v17.1), (8, aI64 v17.2), (9, aI64 c_38), (10, sI64 v36.1)], []⟩) ?_ ?_
       ·clear hr
        have hr := hL41
        clear hL41
        refine .cd hr (fun hb39 hr => ?_) (fun hb39 hr => ?_)
        ·refine .ru G ?_
         obtain rfl := oi hr
         exact ⟨rfl, ((Wk.gc [7, 8, 9, 10] [] rfl pK0).to)⟩
        ·refine .skip ?_
         obtain rfl := oi hr
         exact ⟨rfl, ((Wk.gc [7, 8, 9, 10] [] rfl pK0).to)⟩
       ·rintro x st' hq42
        clear hL41
        obtain ⟨rfl, hq42⟩ := hq42
        refine .wk hq42 (.seq (.seq (.r4 G [7, 8, 9, 10] [(72, aB ((c_38 : Int) != 0))] ?_)))
        refine .cd hr (fun hb43 hr => ?_) (fun hb43 hr => ?_)
        ·refine .seq ?_
         rcases Bool.eq_false_or_eq_true ((v17.2 : Int) == c_38) with hb44 | hb44
         ·replace hr := cd_t hb44 hr
          refine .r0 G (.mu 2 (.p0 (v := aB true) (eB hb44) (.mu 6 (.done (.ret ?_)))))
          obtain rfl := oi hr
          exact FinQ.r1 [aB (((v17.1.length : Int) : Int) == 0)]
         ·replace hr := cd_f hb44 hr
          refine .r0 G (.mu 2 (.p0 (v := aB false) (eB hb44) (.mu 6 (.done (.ret ?_)))))
          obtain rfl := oi hr
          exact FinQ.r1 [aB false]
        ·refine .skip (.seq ?_)
         rcases Bool.eq_false_or_eq_true ((v17.2 : Int) == 0) with hb45 | hb45
         ·replace hr := cd_t hb45 hr
          obtain ⟨v46, hc47, hr⟩ := bd hr
          refine .g1 G (ok0 (slices_Equal_int_int_ok n v17.1 v36.1 v46 hc47)) (.mu 1 (.p0 (v := aB true) (eB hb45) (.mu 3 (.ca cf0 (.mu 2 (.done (.ret ?_)))))))
          obtain rfl := oi hr
          exact FinQ.r1 [aB v46]
         ·replace hr := cd_f hb45 hr
          refine .r0 G (.mu 1 (.p0 (v := aB false) (eB hb45) (.mu 6 (.done (.ret ?_)))))
          obtain rfl := oi hr
          exact FinQ.r1 [aB false]
      ·refine .skip (.seq (.seq (.r4 G [7, 8, 9, 10] [(72, aB ((c_29 : Int) != 0))] ?_)))
       refine .cd hr (fun hb48 hr => ?_) (fun hb48 hr => ?_)
       ·refine .seq ?_
        rcases Bool.eq_false_or_eq_true ((v17.2 : Int) == c_29) with hb49 | hb49
        ·replace hr := cd_t hb49 hr
         refine .r0 G (.mu 2 (.p0 (v := aB true) (eB hb49) (.mu 6 (.done (.ret ?_)))))
         obtain rfl := oi hr
         exact FinQ.r1 [aB (((v17.1.length : Int) : Int) == 0)]
        ·replace hr := cd_f hb49 hr
         refine .r0 G (.mu 2 (.p0 (v := aB false) (eB hb49) (.mu 6 (.done (.ret ?_)))))
         obtain rfl := oi hr
         exact FinQ.r1 [aB false]
       ·refine .skip (.seq ?_)
        rcases Bool.eq_false_or_eq_true ((v17.2 : Int) == 0) with hb50 | hb50
        ·replace hr := cd_t hb50 hr
         obtain ⟨v51, hc52, hr⟩ := bd hr
         refine .g1 G (callOk_val (args := [sI64 v17.1, .hs 2 0 0 1]) (l := [2]) rfl (SnL.cons (Sn.pure rfl) (SnL.cons (Sn.hs rfl (.inl rfl) SnC.nil (fun _ => rfl)) SnL.nil)) (slices_Equal_int_int_ok n v17.1 [] v51 hc52)) (.mu 1 (.p0 (v := aB true) (eB hb50) (.mu 3 (.ca cf0 (.mu 2 (.done (.ret ?_)))))))
         obtain rfl := oi hr
         exact FinQ.r1 [aB v51]
        ·replace hr := cd_f hb50 hr
         refine .r0 G (.mu 1 (.p0 (v := aB false) (eB hb50) (.mu 6 (.done (.ret ?_)))))
         obtain rfl := oi hr
         exact FinQ.r1 [aB false]
   ·rintro x st' hq16
    clear hL15
    obtain ⟨rfl, hq16⟩ := hq16
    obtain rfl := oi hr
    exact CQ_ret _ hq16
end Go.L
