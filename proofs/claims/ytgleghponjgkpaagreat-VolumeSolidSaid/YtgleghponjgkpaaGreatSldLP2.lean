/- The program's functions compute what the plain Lean programs compute, part 2; printed by a program. -/
import Derived.Test.YtgleghponjgkpaaGreatSldLP1
import Derived.Test.YtgleghponjgkpaaGreatL0aioapeic
import Derived.Test.YtgleghponjgkpaaGreatChecked
import Derived.KernelRfl
set_option linter.all false
set_option maxRecDepth 100000
set_option maxHeartbeats 4000000
namespace Go.L
open Go Go.Eng Go.Proofs
theorem fraction_Add_inj {x' : api_Rat} {y : api_Rat} {x'_ : api_Rat} {y_ : api_Rat} (h : ([.agg [.at (.bool x'.Num.Negative), slT (iC .u32) x'.Num.Groups, .at (.bool x'.Den.Negative), slT (iC .u32) x'.Den.Groups], .agg [.at (.bool y.Num.Negative), slT (iC .u32) y.Num.Groups, .at (.bool y.Den.Negative), slT (iC .u32) y.Den.Groups]] : List AV) = [.agg [.at (.bool x'_.Num.Negative), slT (iC .u32) x'_.Num.Groups, .at (.bool x'_.Den.Negative), slT (iC .u32) x'_.Den.Groups], .agg [.at (.bool y_.Num.Negative), slT (iC .u32) y_.Num.Groups, .at (.bool y_.Den.Negative), slT (iC .u32) y_.Den.Groups]]) : x' = x'_ ∧ y = y_ := by
 obtain ⟨⟨_, _⟩, ⟨_, _⟩⟩ := x'
 obtain ⟨⟨_, _⟩, ⟨_, _⟩⟩ := x'_
 obtain ⟨⟨_, _⟩, ⟨_, _⟩⟩ := y
 obtain ⟨⟨_, _⟩, ⟨_, _⟩⟩ := y_
 simp only [List.cons.injEq, AV.agg.injEq, AV.at.injEq, Value.int.injEq, Value.bool.injEq, AV.fn.injEq, AV.pp.injEq, true_and, and_true, slT_inj_int] at h
 simp_all
theorem fraction_Add_cg (n : Nat) {x' : api_Rat} {y : api_Rat} {x'_ : api_Rat} {y_ : api_Rat} (h : ([.agg [.at (.bool x'.Num.Negative), slT (iC .u32) x'.Num.Groups, .at (.bool x'.Den.Negative), slT (iC .u32) x'.Den.Groups], .agg [.at (.bool y.Num.Negative), slT (iC .u32) y.Num.Groups, .at (.bool y.Den.Negative), slT (iC .u32) y.Den.Groups]] : List AV) = [.agg [.at (.bool x'_.Num.Negative), slT (iC .u32) x'_.Num.Groups, .at (.bool x'_.Den.Negative), slT (iC .u32) x'_.Den.Groups], .agg [.at (.bool y_.Num.Negative), slT (iC .u32) y_.Num.Groups, .at (.bool y_.Den.Negative), slT (iC .u32) y_.Den.Groups]]) : fraction_Add n x' y = fraction_Add n x'_ y_ := by
 obtain ⟨rfl, rfl⟩ := fraction_Add_inj h
 rfl
theorem fraction_Add_ok (n : Nat) (x' : api_Rat) (y : api_Rat) (r : api_Rat) (hr : fraction_Add n x' y = some r) : FnOk Tryz.prog 47 [.agg (api_Rat.c x'), .agg (api_Rat.c y)] (.agg (api_Rat.c r)) := by
 unfold fraction_Add at hr
 refine FnOk.bd G Tryz.func47 [.cell 4 33] ?_
 unfold Tryz.f47
 simp only [gS]
 refine .seq (.r2 G 26 [(2, .hp 0 0), (3, .hp 1 0), (4, .hp 2 0)] [.own (api_Rat.c x'), .own (api_Rat.c y), .own [aB false, nS, aB false, nS]] (.seq ?_))
 obtain ⟨v1, hc2, v3, hc4, hr⟩ := bd2 hr
 refine .tn G (ca1 (ok0 (fraction_Value_ok n x' v1 hc2)) (ca3 (ok0 (fraction_Value_ok n y v3 hc4)))) (.mu 1 (.ca cf0 (.mu 1 (.ca (cfA (fun h => by rw [sv hc4 hc2 (fraction_Value_cg n h)]) cf0) (.mu 2 ?_)))))
 refine .done ⟨by kernel_rfl, ?_⟩
 refine .nh [2, 3, 4] [.own (api_Rat.c v1), .own (api_Rat.c v3), .own [aB false, nS, aB false, nS]] (.seq ?_)
 obtain ⟨v5, hc6, v7, hc8, v9, hc10, hr⟩ := bd3 hr
 obtain ⟨v11, hc12, v13, hc14, hr⟩ := bd2 hr
 refine .tn G (ca1 (ok0 (integer_Mul_ok n v1.Num v3.Den v5 hc6)) (ca1 (ok0 (integer_Mul_ok n v3.Num v1.Den v7 hc8)) (ca1 (ok0 (integer_Add_ok n v5 v7 v9 hc10)) (ca1 (ok0 (integer_Mul_ok n v1.Den v3.Den v11 hc12)) (ca3 (ok0 (fraction_reduced_ok n v9 v11 v13 hc14))))))) (.mu 4 (.ca cf0 (.mu 4 (.ca (cfA (fun h => by rw [sv hc8 hc6 (integer_Mul_cg n h)]) cf0) (.ca (cfF (cfF cf0)) (.mu 4 (.ca (cfA (fun h => by rw [sv hc12 hc6 (integer_Mul_cg n h)]) (cfA (fun h => by rw [sv hc12 hc8 (integer_Mul_cg n h)]) (cfF cf0))) (.ca (cfF (cfF (cfF (cfF cf0)))) (.mu 1 ?_)))))))))
 refine .done ⟨by kernel_rfl, ?_⟩
 refine .nh [4] [.own (api_Rat.c v1), .own (api_Rat.c v3), .own (api_Rat.c v13)] (.ret ?_)
 obtain rfl := oi hr
 exact FinQ.r1 [.agg (api_Rat.c v13)]

theorem fraction_Sum_ok (n : Nat) (l : List api_Rat) (r : api_Rat) (hr : fraction_Sum n l = some r) : FnOk Tryz.prog 125 [slT api_Rat.c l] (.agg (api_Rat.c r)) := by
 unfold fraction_Sum at hr
 refine FnOk.bd G Tryz.func125 [.cell 2 33] ?_
 unfold Tryz.f125
 simp only [gS]
 refine .seq (.r5 G [0] [(2, .hp 0 0)] [.own [aB false, nS, aB false, nS]] (.seq ?_))
 obtain ⟨v1, hc2, hr⟩ := bd hr
 refine .g1 G (ok0 (fraction_Whole_ok n 0 v1 hc2)) (.ca cf0 (.mu 2 (.done (.nh [0, 2, 3] [.own [aB false, nS, aB false, nS], .own (api_Rat.c v1)] (.seq (.seq (.r4 G [2, 3] [(7, slT api_Rat.c l), (8, aI64 (l.length : Int)), (9, aI64 0)] (.block ?_))))))))
 replace hr := bd hr; obtain ⟨o21, hL22, hr⟩ := hr
 refine .loopO (σ := fun z0 => match z0 with | (s_3, s_4, s_5, s_6, x_7) => ⟨mkS 18 0 [(2, .hp 0 0), (3, .hp 1 0), (7, slT api_Rat.c l), (8, aI64 (l.length : Int)), (9, aI64 x_7)], [.own [aB false, nS, aB false, nS], .own [aB s_3, sU32 s_4, aB s_5, sU32 s_6]]⟩) (Q := fun x st' => match (generalizing := false) o21 with | (s_12, s_13, s_14, s_15) => x = .exit 0 ∧ Wk 0 st' ⟨mkS 18 0 [(2, .hp 0 0), (3, .hp 1 0)], [.own [aB false, nS, aB false, nS], .own [aB s_12, sU32 s_13, aB s_14, sU32 s_15]]⟩) hL22 ((Wk.gc [2, 3, 7, 8, 9] [(0, true), (1, true)] rfl trivial).to) ?_ ?_
 ·clear hr
  rintro m ⟨s_3, s_4, s_5, s_6, x_7⟩ hr
  show CQ _ _ _ _ _ ⟨_, _⟩
  refine .seq (.r4 G [2, 3, 7, 8, 9] [(10, aB (decide (x_7 < (l.length : Int))))] (.seq ?_))
  refine .cd hr ?_ ?_ <;> intro hb17 hr
  ·refine .skip (.seq (.block (.seq ?_)))
   obtain ⟨hg18, hr⟩ := gd hr
   refine .r0 G (.p0 (v := .pp (l.flatMap api_Rat.c) (x_7.toNat * 4)) (tr (ofP_guard hg18)) (.p0 (v := .agg (api_Rat.c (gt l x_7))) (Eq.trans (b := ORes.ofP (guardV (decide (4 ≤ ((l.flatMap api_Rat.c).drop (x_7.toNat * 4)).length)) (.agg (((l.flatMap api_Rat.c).drop (x_7.toNat * 4)).take 4)))) (by kernel_rfl) (flat_load api_Rat.len (inR_lt hg18) (by decide) (by omega : x_7.toNat * 4 = x_7.toNat * 4 + 0) (by kernel_rfl))) (.mu 2 (.done (.nh [2, 3, 5, 7, 8, 9] [.own [aB false, nS, aB false, nS], .own [aB s_3, sU32 s_4, aB s_5, sU32 s_6], .own (api_Rat.c (gt l x_7))] ?_)))))
   obtain ⟨v19, hc20, hr⟩ := bd hr
   refine .g1 G (ok0 (fraction_Add_ok n (api_Rat.mk (api_Int.mk s_3 s_4) (api_Int.mk s_5 s_6)) (gt l x_7) v19 hc20)) (.mu 2 (.ca cf0 (.mu 1 (.done (.pop (.ru G ?_))))))
   exact loopF_back (v19.Num.Negative, v19.Num.Groups, v19.Den.Negative, v19.Den.Groups, wrapF .i64 (x_7 + 1)) hr ((Wk.gc [2, 3, 7, 8, 9] [(0, true), (1, true)] rfl trivial).to)
  ·refine .leave rfl ?_
   obtain rfl := oi hr
   exact ⟨rfl, ((Wk.gc [2, 3] [(0, true), (1, true)] rfl trivial).to)⟩
 ·rcases o21 with ⟨s_12, s_13, s_14, s_15⟩
  rintro x st' hq23
  clear hL22
  obtain ⟨rfl, hq23⟩ := hq23
  refine CQ_exit _ rfl (.wk hq23 (.seq (.r5 G [2] [] [.own [aB s_12, sU32 s_13, aB s_14, sU32 s_15], .own [aB s_12, sU32 s_13, aB s_14, sU32 s_15]] (.ret ?_))))
  obtain rfl := oi hr
  exact FinQ.r1 [.agg [aB s_12, sU32 s_13, aB s_14, sU32 s_15]]

theorem fraction_Mul_inj {x' : api_Rat} {y : api_Rat} {x'_ : api_Rat} {y_ : api_Rat} (h : ([.agg [.at (.bool x'.Num.Negative), slT (iC .u32) x'.Num.Groups, .at (.bool x'.Den.Negative), slT (iC .u32) x'.Den.Groups], .agg [.at (.bool y.Num.Negative), slT (iC .u32) y.Num.Groups, .at (.bool y.Den.Negative), slT (iC .u32) y.Den.Groups]] : List AV) = [.agg [.at (.bool x'_.Num.Negative), slT (iC .u32) x'_.Num.Groups, .at (.bool x'_.Den.Negative), slT (iC .u32) x'_.Den.Groups], .agg [.at (.bool y_.Num.Negative), slT (iC .u32) y_.Num.Groups, .at (.bool y_.Den.Negative), slT (iC .u32) y_.Den.Groups]]) : x' = x'_ ∧ y = y_ := by
 obtain ⟨⟨_, _⟩, ⟨_, _⟩⟩ := x'
 obtain ⟨⟨_, _⟩, ⟨_, _⟩⟩ := x'_
 obtain ⟨⟨_, _⟩, ⟨_, _⟩⟩ := y
 obtain ⟨⟨_, _⟩, ⟨_, _⟩⟩ := y_
 simp only [List.cons.injEq, AV.agg.injEq, AV.at.injEq, Value.int.injEq, Value.bool.injEq, AV.fn.injEq, AV.pp.injEq, true_and, and_true, slT_inj_int] at h
 simp_all
theorem fraction_Mul_cg (n : Nat) {x' : api_Rat} {y : api_Rat} {x'_ : api_Rat} {y_ : api_Rat} (h : ([.agg [.at (.bool x'.Num.Negative), slT (iC .u32) x'.Num.Groups, .at (.bool x'.Den.Negative), slT (iC .u32) x'.Den.Groups], .agg [.at (.bool y.Num.Negative), slT (iC .u32) y.Num.Groups, .at (.bool y.Den.Negative), slT (iC .u32) y.Den.Groups]] : List AV) = [.agg [.at (.bool x'_.Num.Negative), slT (iC .u32) x'_.Num.Groups, .at (.bool x'_.Den.Negative), slT (iC .u32) x'_.Den.Groups], .agg [.at (.bool y_.Num.Negative), slT (iC .u32) y_.Num.Groups, .at (.bool y_.Den.Negative), slT (iC .u32) y_.Den.Groups]]) : fraction_Mul n x' y = fraction_Mul n x'_ y_ := by
 obtain ⟨rfl, rfl⟩ := fraction_Mul_inj h
 rfl
theorem fraction_Mul_ok (n : Nat) (x' : api_Rat) (y : api_Rat) (r : api_Rat) (hr : fraction_Mul n x' y = some r) : FnOk Tryz.prog 43 [.agg (api_Rat.c x'), .agg (api_Rat.c y)] (.agg (api_Rat.c r)) := by
 unfold fraction_Mul at hr
 refine FnOk.bd G Tryz.func43 [.cell 4 33] ?_
 unfold Tryz.f43
 simp only [gS]
 refine .seq (.r2 G 20 [(2, .hp 0 0), (3, .hp 1 0), (4, .hp 2 0)] [.own (api_Rat.c x'), .own (api_Rat.c y), .own [aB false, nS, aB false, nS]] (.seq ?_))
 obtain ⟨v1, hc2, v3, hc4, hr⟩ := bd2 hr
 refine .tn G (ca1 (ok0 (fraction_Value_ok n x' v1 hc2)) (ca3 (ok0 (fraction_Value_ok n y v3 hc4)))) (.mu 1 (.ca cf0 (.mu 1 (.ca (cfA (fun h => by rw [sv hc4 hc2 (fraction_Value_cg n h)]) cf0) (.mu 2 ?_)))))
 refine .done ⟨by kernel_rfl, ?_⟩
 refine .nh [2, 3, 4] [.own (api_Rat.c v1), .own (api_Rat.c v3), .own [aB false, nS, aB false, nS]] (.seq ?_)
 obtain ⟨v5, hc6, v7, hc8, v9, hc10, hr⟩ := bd3 hr
 refine .tn G (ca1 (ok0 (integer_Mul_ok n v1.Num v3.Num v5 hc6)) (ca1 (ok0 (integer_Mul_ok n v1.Den v3.Den v7 hc8)) (ca3 (ok0 (fraction_reduced_ok n v5 v7 v9 hc10))))) (.mu 4 (.ca cf0 (.mu 4 (.ca (cfA (fun h => by rw [sv hc8 hc6 (integer_Mul_cg n h)]) cf0) (.ca (cfF (cfF cf0)) (.mu 1 ?_))))))
 refine .done ⟨by kernel_rfl, ?_⟩
 refine .nh [4] [.own (api_Rat.c v1), .own (api_Rat.c v3), .own (api_Rat.c v9)] (.ret ?_)
 obtain rfl := oi hr
 exact FinQ.r1 [.agg (api_Rat.c v9)]

theorem fraction_Sign_ok (n : Nat) (x' : api_Rat) (r : Int) (hr : fraction_Sign n x' = some r) : FnOk Tryz.prog 88 [.agg (api_Rat.c x')] (aI64 r) := by
 unfold fraction_Sign at hr
 refine FnOk.bd G Tryz.func88 [.tmp 2] ?_
 unfold Tryz.f88
 simp only [gS]
 refine .seq (.r2 G 7 [(1, .hp 0 0)] [.own (api_Rat.c x')] (.seq ?_))
 obtain ⟨v1, hc2, v3, hc4, hr⟩ := bd2 hr
 refine .gn G (ca1 (ok0 (fraction_Value_ok n x' v1 hc2)) (ca3 (ok0 (integer_Sign_ok n v1.Num v3 hc4)))) (.mu 1 (.ca cf0 (.mu 1 (.ca (cfF cf0) (.mu 1 (.done (.ret ?_)))))))
 obtain rfl := oi hr
 exact FinQ.r1 [aI64 v3]

theorem fraction_Neg_inj {x' : api_Rat} {x'_ : api_Rat} (h : ([.agg [.at (.bool x'.Num.Negative), slT (iC .u32) x'.Num.Groups, .at (.bool x'.Den.Negative), slT (iC .u32) x'.Den.Groups]] : List AV) = [.agg [.at (.bool x'_.Num.Negative), slT (iC .u32) x'_.Num.Groups, .at (.bool x'_.Den.Negative), slT (iC .u32) x'_.Den.Groups]]) : x' = x'_ := by
 obtain ⟨⟨_, _⟩, ⟨_, _⟩⟩ := x'
 obtain ⟨⟨_, _⟩, ⟨_, _⟩⟩ := x'_
 simp only [List.cons.injEq, AV.agg.injEq, AV.at.injEq, Value.int.injEq, Value.bool.injEq, AV.fn.injEq, AV.pp.injEq, true_and, and_true, slT_inj_int] at h
 simp_all
theorem fraction_Neg_cg (n : Nat) {x' : api_Rat} {x'_ : api_Rat} (h : ([.agg [.at (.bool x'.Num.Negative), slT (iC .u32) x'.Num.Groups, .at (.bool x'.Den.Negative), slT (iC .u32) x'.Den.Groups]] : List AV) = [.agg [.at (.bool x'_.Num.Negative), slT (iC .u32) x'_.Num.Groups, .at (.bool x'_.Den.Negative), slT (iC .u32) x'_.Den.Groups]]) : fraction_Neg n x' = fraction_Neg n x'_ := by
 obtain rfl := fraction_Neg_inj h
 rfl
theorem fraction_Neg_ok (n : Nat) (x' : api_Rat) (r : api_Rat) (hr : fraction_Neg n x' = some r) : FnOk Tryz.prog 84 [.agg (api_Rat.c x')] (.agg (api_Rat.c r)) := by
 unfold fraction_Neg at hr
 refine FnOk.bd G Tryz.func84 [.cell 2 33] ?_
 unfold Tryz.f84
 simp only [gS]
 refine .seq (.r2 G 11 [(1, .hp 0 0), (2, .hp 1 0)] [.own (api_Rat.c x'), .own [aB false, nS, aB false, nS]] (.seq ?_))
 obtain ⟨v1, hc2, hr⟩ := bd hr
 refine .g1 G (ok0 (fraction_Value_ok n x' v1 hc2)) (.mu 1 (.ca cf0 (.mu 1 (.done (.nh [1, 2] [.own (api_Rat.c v1), .own [aB false, nS, aB false, nS]] (.seq ?_))))))
 obtain ⟨v3, hc4, hr⟩ := bd hr
 refine .t1 G (ok0 (integer_Neg_ok n v1.Num v3 hc4)) (.mu 2 (.ca cf0 (.mu 4 ?_)))
 refine .done ⟨by kernel_rfl, ?_⟩
 refine .nh [2] [.own (api_Rat.c v1), .own [aB v3.Negative, sU32 v3.Groups, aB v1.Den.Negative, sU32 v1.Den.Groups]] (.ret ?_)
 obtain rfl := oi hr
 exact FinQ.r1 [.agg [aB v3.Negative, sU32 v3.Groups, aB v1.Den.Negative, sU32 v1.Den.Groups]]

theorem fraction_Sub_inj {x' : api_Rat} {y : api_Rat} {x'_ : api_Rat} {y_ : api_Rat} (h : ([.agg [.at (.bool x'.Num.Negative), slT (iC .u32) x'.Num.Groups, .at (.bool x'.Den.Negative), slT (iC .u32) x'.Den.Groups], .agg [.at (.bool y.Num.Negative), slT (iC .u32) y.Num.Groups, .at (.bool y.Den.Negative), slT (iC .u32) y.Den.Groups]] : List AV) = [.agg [.at (.bool x'_.Num.Negative), slT (iC .u32) x'_.Num.Groups, .at (.bool x'_.Den.Negative), slT (iC .u32) x'_.Den.Groups], .agg [.at (.bool y_.Num.Negative), slT (iC .u32) y_.Num.Groups, .at (.bool y_.Den.Negative), slT (iC .u32) y_.Den.Groups]]) : x' = x'_ ∧ y = y_ := by
 obtain ⟨⟨_, _⟩, ⟨_, _⟩⟩ := x'
 obtain ⟨⟨_, _⟩, ⟨_, _⟩⟩ := x'_
 obtain ⟨⟨_, _⟩, ⟨_, _⟩⟩ := y
 obtain ⟨⟨_, _⟩, ⟨_, _⟩⟩ := y_
 simp only [List.cons.injEq, AV.agg.injEq, AV.at.injEq, Value.int.injEq, Value.bool.injEq, AV.fn.injEq, AV.pp.injEq, true_and, and_true, slT_inj_int] at h
 simp_all
theorem fraction_Sub_cg (n : Nat) {x' : api_Rat} {y : api_Rat} {x'_ : api_Rat} {y_ : api_Rat} (h : ([.agg [.at (.bool x'.Num.Negative), slT (iC .u32) x'.Num.Groups, .at (.bool x'.Den.Negative), slT (iC .u32) x'.Den.Groups], .agg [.at (.bool y.Num.Negative), slT (iC .u32) y.Num.Groups, .at (.bool y.Den.Negative), slT (iC .u32) y.Den.Groups]] : List AV) = [.agg [.at (.bool x'_.Num.Negative), slT (iC .u32) x'_.Num.Groups, .at (.bool x'_.Den.Negative), slT (iC .u32) x'_.Den.Groups], .agg [.at (.bool y_.Num.Negative), slT (iC .u32) y_.Num.Groups, .at (.bool y_.Den.Negative), slT (iC .u32) y_.Den.Groups]]) : fraction_Sub n x' y = fraction_Sub n x'_ y_ := by
 obtain ⟨rfl, rfl⟩ := fraction_Sub_inj h
 rfl
theorem fraction_Sub_ok (n : Nat) (x' : api_Rat) (y : api_Rat) (r : api_Rat) (hr : fraction_Sub n x' y = some r) : FnOk Tryz.prog 46 [.agg (api_Rat.c x'), .agg (api_Rat.c y)] (.agg (api_Rat.c r)) := by
 unfold fraction_Sub at hr
 refine FnOk.bd G Tryz.func46 [.cell 4 33] ?_
 unfold Tryz.f46
 simp only [gS]
 refine .seq (.r2 G 9 [(2, .hp 0 0), (3, .hp 1 0), (4, .hp 2 0)] [.own (api_Rat.c x'), .own (api_Rat.c y), .own [aB false, nS, aB false, nS]] (.seq ?_))
 obtain ⟨v1, hc2, v3, hc4, hr⟩ := bd2 hr
 refine .tn G (ca1 (ok0 (fraction_Neg_ok n y v1 hc2)) (ca3 (ok0 (fraction_Add_ok n x' v1 v3 hc4)))) (.mu 2 (.ca cf0 (.ca (cfF cf0) (.mu 1 ?_))))
 refine .done ⟨by kernel_rfl, ?_⟩
 refine .nh [4] [.own (api_Rat.c x'), .own (api_Rat.c y), .own (api_Rat.c v3)] (.ret ?_)
 obtain rfl := oi hr
 exact FinQ.r1 [.agg (api_Rat.c v3)]

theorem fraction_Divide_ok (n : Nat) (x' : api_Rat) (y : api_Rat) (r : api_Rat × Int) (hr : fraction_Divide n x' y = some r) : FnOk Tryz.prog 80 [.agg (api_Rat.c x'), .agg (api_Rat.c y)] (.tup [.agg (api_Rat.c r.1), aI64 r.2]) := by
 unfold fraction_Divide at hr
 refine FnOk.bd G Tryz.func80 [.cell 4 33, .tmp 5] ?_
 unfold Tryz.f80
 simp only [gS]
 refine .seq (.r2 G 26 [(2, .hp 0 0), (3, .hp 1 0), (4, .hp 2 0)] [.own (api_Rat.c x'), .own (api_Rat.c y), .own [aB false, nS, aB false, nS]] (.seq ?_))
 obtain ⟨v1, hc2, v3, hc4, hr⟩ := bd2 hr
 refine .tn G (ca1 (ok0 (fraction_Value_ok n x' v1 hc2)) (ca3 (ok0 (fraction_Value_ok n y v3 hc4)))) (.mu 1 (.ca cf0 (.mu 1 (.ca (cfA (fun h => by rw [sv hc4 hc2 (fraction_Value_cg n h)]) cf0) (.mu 2 ?_)))))
 refine .done ⟨by kernel_rfl, ?_⟩
 refine .nh [2, 3, 4] [.own (api_Rat.c v1), .own (api_Rat.c v3), .own [aB false, nS, aB false, nS]] (.seq (.seq ?_))
 obtain ⟨v5, hc6, hr⟩ := bd hr
 refine .g1 G (ok0 (integer_Sign_ok n v3.Num v5 hc6)) (.mu 2 (.ca cf0 (.mu 1 (.done (.nh [2, 3, 4, 13] [.own (api_Rat.c v1), .own (api_Rat.c v3), .own [aB false, nS, aB false, nS]] ?_)))))
 refine .cd hr ?_ ?_ <;> intro hb7 hr
 ·refine .seq (.r4 G [4] [(5, aI64 14)] (.ret ?_))
  obtain rfl := oi hr
  exact FinQ.ret (vs := [.agg [aB false, nS, aB false, nS], aI64 14]) (by kernel_rfl) (Sn.tup (SnL.cons (Sn.agg (Sp (SnL.cons Sn.nilsl (Sp (SnL.cons Sn.nilsl SnL.nil))))) (Sp SnL.nil)))
 ·refine .skip (.seq ?_)
  obtain ⟨v8, hc9, v10, hc11, v12, hc13, hr⟩ := bd3 hr
  refine .tn G (ca1 (ok0 (integer_Mul_ok n v1.Num v3.Den v8 hc9)) (ca1 (ok0 (integer_Mul_ok n v1.Den v3.Num v10 hc11)) (ca3 (ok0 (fraction_reduced_ok n v8 v10 v12 hc13))))) (.mu 4 (.ca cf0 (.mu 4 (.ca (cfA (fun h => by rw [sv hc11 hc9 (integer_Mul_cg n h)]) cf0) (.ca (cfF (cfF cf0)) (.mu 2 ?_))))))
  refine .done ⟨by kernel_rfl, ?_⟩
  refine .nh [4, 5] [.own (api_Rat.c v1), .own (api_Rat.c v3), .own (api_Rat.c v12)] (.ret ?_)
  obtain rfl := oi hr
  exact FinQ.ret (vs := [.agg (api_Rat.c v12), aI64 0]) (by kernel_rfl) (Sn.tup (Sp (Sp SnL.nil)))

theorem volume_peak_ok (n : Nat) (a : api_Rat) (b : api_Rat) (c : api_Rat) (r : api_Rat) (hr : volume_peak n a b c = some r) : FnOk Tryz.prog 126 [.agg (api_Rat.c a), .agg (api_Rat.c b), .agg (api_Rat.c c)] (.agg (api_Rat.c r)) := by
 unfold volume_peak at hr
 refine FnOk.bd G Tryz.func126 [.cell 6 33] ?_
 unfold Tryz.f126
 simp only [gS]
 refine .seq (.r2 G 30 [(3, .hp 0 0), (4, .hp 1 0), (5, .hp 2 0), (6, .hp 3 0)] [.own (api_Rat.c a), .own (api_Rat.c b), .own (api_Rat.c c), .own [aB false, nS, aB false, nS]] (.seq ?_))
 obtain ⟨v1, hc2, v3, hc4, v5, hc6, hr⟩ := bd3 hr
 obtain ⟨v7, hc8, v9, hc10, hr⟩ := bd2 hr
 refine .tn G (ca1 (ok0 (fraction_Whole_ok n 3 v1 hc2)) (ca1 (ok0 (fraction_Sub_ok n a b v3 hc4)) (ca1 (ok0 (fraction_Sub_ok n a c v5 hc6)) (ca1 (ok0 (fraction_Mul_ok n v3 v5 v7 hc8)) (ca3 (ok0 (fraction_Mul_ok n v1 v7 v9 hc10))))))) (.ca cf0 (.mu 2 (.ca (cfF cf0) (.mu 2 (.ca (cfF (cfA (fun h => by rw [sv hc6 hc4 (fraction_Sub_cg n h)]) cf0)) (.ca (cfF (cfF (cfF cf0))) (.ca (cfF (cfF (cfF (cfA (fun h => by rw [sv hc10 hc8 (fraction_Mul_cg n h)]) cf0)))) (.mu 2 ?_))))))))
 refine .done ⟨by kernel_rfl, ?_⟩
 refine .nh [3, 6, 7] [.own (api_Rat.c a), .own (api_Rat.c b), .own (api_Rat.c c), .own [aB false, nS, aB false, nS], .own (api_Rat.c v9)] (.seq ?_)
 obtain ⟨v11, hc12, v13, hc14, v15, hc16, hr⟩ := bd3 hr
 refine .tn G (ca1 (ok0 (fraction_Mul_ok n a a v11 hc12)) (ca1 (ok0 (fraction_Mul_ok n a v11 v13 hc14)) (ca3 (ok0 (fraction_Divide_ok n v13 v9 v15 hc16))))) (.mu 3 (.ca cf0 (.ca (cfA (fun h => by rw [sv hc14 hc12 (fraction_Mul_cg n h)]) cf0) (.mu 1 (.ca (cfF (cfF cf0)) (.mu 6 ?_))))))
 refine .done ⟨by kernel_rfl, ?_⟩
 refine .nh [6, 8] [.own (api_Rat.c a), .own (api_Rat.c b), .own (api_Rat.c c), .own [aB false, nS, aB false, nS], .own (api_Rat.c v9), .own (api_Rat.c v15.1)] (.seq (.r5 G [6] [] [.own (api_Rat.c a), .own (api_Rat.c b), .own (api_Rat.c c), .own (api_Rat.c v15.1), .own (api_Rat.c v9), .own (api_Rat.c v15.1)] (.ret ?_)))
 obtain rfl := oi hr
 exact FinQ.r1 [.agg (api_Rat.c v15.1)]

theorem volume_Triangle_ok (n : Nat) (a : api_Rat) (b : api_Rat) (c : api_Rat) (r : api_Rat × api_Rat) (hr : volume_Triangle n a b c = some r) : FnOk Tryz.prog 77 [.agg (api_Rat.c a), .agg (api_Rat.c b), .agg (api_Rat.c c)] (.tup [.agg (api_Rat.c r.1), .agg (api_Rat.c r.2)]) := by
 unfold volume_Triangle at hr
 refine FnOk.bd G Tryz.func77 [.cell 6 33, .cell 7 33] ?_
 unfold Tryz.f77
 simp only [gS]
 refine .seq (.r2 G 87 [(3, .hp 0 0), (4, .hp 1 0), (5, .hp 2 0), (6, .hp 3 0), (7, .hp 4 0)] [.own (api_Rat.c a), .own (api_Rat.c b), .own (api_Rat.c c), .own [aB false, nS, aB false, nS], .own [aB false, nS, aB false, nS]] (.seq ?_))
 obtain ⟨v1, hc2, v3, hc4, v5, hc6, hr⟩ := bd3 hr
 refine .tn G (ca1 (ok0 (fraction_Value_ok n a v1 hc2)) (ca1 (ok0 (fraction_Value_ok n b v3 hc4)) (ca3 (ok0 (fraction_Value_ok n c v5 hc6))))) (.mu 1 (.ca cf0 (.mu 1 (.ca (cfA (fun h => by rw [sv hc4 hc2 (fraction_Value_cg n h)]) cf0) (.mu 1 (.ca (cfA (fun h => by rw [sv hc6 hc2 (fraction_Value_cg n h)]) (cfA (fun h => by rw [sv hc6 hc4 (fraction_Value_cg n h)]) cf0)) (.mu 2 ?_)))))))
 refine .done ⟨by kernel_rfl, ?_⟩
 refine .nh [6, 7, 8] [.own (api_Rat.c a), .own (api_Rat.c b), .own (api_Rat.c c), .own [aB false, nS, aB false, nS], .own [aB false, nS, aB false, nS], .own [aB v1.Num.Negative, sU32 v1.Num.Groups, aB v1.Den.Negative, sU32 v1.Den.Groups, aB v3.Num.Negative, sU32 v3.Num.Groups, aB v3.Den.Negative, sU32 v3.Den.Groups, aB v5.Num.Negative, sU32 v5.Num.Groups, aB v5.Den.Negative, sU32 v5.Den.Groups]] (.seq ?_)
 obtain ⟨v7, hc8, hr⟩ := bd hr
 obtain ⟨hg9, hr⟩ := gd hr
 refine .g1 G (callOk_mutU (args := [.hs 5 0 3 4, .fn 124 [] []]) 1 0 [(5, false)] [false] (slices_SortFunc_fiducial_api_Rat_fiducial_api_Rat_w_of_fraction_Compare_ok n [v1, v3, v5] v7 hc8) (by exact ⟨rfl, trivial⟩) (by exact ⟨ids_flat api_Rat.pure _, trivial⟩) rfl rfl (by kernel_rfl) (by kernel_rfl)) (.mu 1 (.ca cf0 (.done (.nh [6, 7, 8] [.own (api_Rat.c a), .own (api_Rat.c b), .own (api_Rat.c c), .own [aB false, nS, aB false, nS], .own [aB false, nS, aB false, nS], .own (v7.flatMap api_Rat.c)] (.seq ?_)))))
 obtain ⟨v10, hc11, hr⟩ := bd hr
 refine .g1 G (ok0 (fraction_Of_ok n 1 3 v10 hc11)) (.ca cf0 (.mu 6 (.done (.nh [6, 7, 8, 9] [.own (api_Rat.c a), .own (api_Rat.c b), .own (api_Rat.c c), .own [aB false, nS, aB false, nS], .own [aB false, nS, aB false, nS], .own (v7.flatMap api_Rat.c), .own (api_Rat.c v10.1)] (.seq (.wk ((Wk.fix 5 (cs := (v7.flatMap api_Rat.c)) (by kernel_rfl)).to (c := ⟨mkS 87 0 [(6, .hp 3 0), (7, .hp 4 0), (8, .hs 5 0 3 4), (9, .hp 6 0)], [.own (api_Rat.c a), .own (api_Rat.c b), .own (api_Rat.c c), .own [aB false, nS, aB false, nS], .own [aB false, nS, aB false, nS], .fix (v7.flatMap api_Rat.c), .own (api_Rat.c v10.1)]⟩) (by kernel_rfl)) ?_))))))
 obtain ⟨v12, hc13, v14, hc15, hr⟩ := bd2 hr
 refine .tn G (ca1 (callOk_ref (args := [.hs 5 0 3 4]) (l := [5]) (SnL.cons (Sn.hse (of_decide_eq_true hg9) rfl (.inr rfl) (SnC.pure (ids_flat api_Rat.pure _)) (fun h => flat_nil0 h)) SnL.nil) (fraction_Sum_ok n v7 v12 hc13)) (ca3 (ok0 (fraction_Mul_ok n v10.1 v12 v14 hc15)))) (.mu 2 (.ca cf0 (.ca (cfF cf0) (.mu 2 ?_))))
 refine .done ⟨by kernel_rfl, ?_⟩
 refine .nh [6, 7, 8, 11] [.own (api_Rat.c a), .own (api_Rat.c b), .own (api_Rat.c c), .own [aB false, nS, aB false, nS], .own [aB false, nS, aB false, nS], .fix (v7.flatMap api_Rat.c), .own (api_Rat.c v10.1), .own (api_Rat.c v14)] (.seq ?_)
 obtain ⟨v16, hc17, hr⟩ := bd hr
 refine .g1 G (ok0 (fraction_Whole_ok n 0 v16 hc17)) (.ca cf0 (.mu 2 (.done (.nh [6, 7, 8, 11, 12] [.own (api_Rat.c a), .own (api_Rat.c b), .own (api_Rat.c c), .own [aB false, nS, aB false, nS], .own [aB false, nS, aB false, nS], .fix (v7.flatMap api_Rat.c), .own (api_Rat.c v10.1), .own (api_Rat.c v14), .own (api_Rat.c v16)] (.seq (.block (.seq ?_)))))))
 obtain ⟨hg36, hr⟩ := gd hr
 obtain ⟨v37, hc38, hr⟩ := bd hr
 refine .g1 G (ok0 (fraction_Sign_ok n (gt v7 0) v37 hc38)) (.mu 1 (.p0 (v := .hp 5 (0 + (0 : Int).toNat * 4)) (tr (ofP_guard hg36)) (.p0 (v := .agg (api_Rat.c (gt v7 0))) (Eq.trans (b := ORes.ofP (guardV (decide (4 ≤ ((v7.flatMap api_Rat.c).drop (0 + (0 : Int).toNat * 4)).length)) (.agg (((v7.flatMap api_Rat.c).drop (0 + (0 : Int).toNat * 4)).take 4)))) (by kernel_rfl) (flat_load api_Rat.len (inR_lt (inR_eq hg9 hg36)) (by decide) (by omega : 0 + (0 : Int).toNat * 4 = (0 : Int).toNat * 4 + 0) (by kernel_rfl))) (.ca cf0 (.mu 2 (.done (.nh [6, 7, 8, 11, 12, 33] [.own (api_Rat.c a), .own (api_Rat.c b), .own (api_Rat.c c), .own [aB false, nS, aB false, nS], .own [aB false, nS, aB false, nS], .fix (v7.flatMap api_Rat.c), .own (api_Rat.c v10.1), .own (api_Rat.c v14), .own (api_Rat.c v16)] ?_)))))))
 refine .cd hr ?_ ?_ <;> intro hb54 hr
 ·refine .seq (.regionT G callOf_nil (.mu 4 ?_))
  refine .done ⟨by kernel_rfl, ?_⟩
  refine .nh [6, 7] [.own (api_Rat.c a), .own (api_Rat.c b), .own (api_Rat.c c), .own (api_Rat.c v14), .own (api_Rat.c v16), .fix (v7.flatMap api_Rat.c), .own (api_Rat.c v10.1), .own (api_Rat.c v14), .own (api_Rat.c v16)] (.ret ?_)
  obtain rfl := oi hr
  exact FinQ.ret (vs := [.agg (api_Rat.c v14), .agg (api_Rat.c v16)]) (by kernel_rfl) (Sn.tup (Sp (Sp SnL.nil)))
 ·refine .seq ?_
  obtain ⟨hg55, hr⟩ := gd hr
  obtain ⟨v56, hc57, hr⟩ := bd hr
  refine .g1 G (ok0 (fraction_Sign_ok n (gt v7 2) v56 hc57)) (.mu 1 (.p0 (v := .hp 5 (0 + (2 : Int).toNat * 4)) (tr (ofP_guard hg55)) (.p0 (v := .agg (api_Rat.c (gt v7 2))) (Eq.trans (b := ORes.ofP (guardV (decide (4 ≤ ((v7.flatMap api_Rat.c).drop (0 + (2 : Int).toNat * 4)).length)) (.agg (((v7.flatMap api_Rat.c).drop (0 + (2 : Int).toNat * 4)).take 4)))) (by kernel_rfl) (flat_load api_Rat.len (inR_lt (inR_eq hg9 hg55)) (by decide) (by omega : 0 + (2 : Int).toNat * 4 = (2 : Int).toNat * 4 + 0) (by kernel_rfl))) (.ca cf0 (.mu 2 (.done (.nh [6, 7, 8, 11, 12, 41] [.own (api_Rat.c a), .own (api_Rat.c b), .own (api_Rat.c c), .own [aB false, nS, aB false, nS], .own [aB false, nS, aB false, nS], .fix (v7.flatMap api_Rat.c), .own (api_Rat.c v10.1), .own (api_Rat.c v14), .own (api_Rat.c v16)] ?_)))))))
  refine .cd hr ?_ ?_ <;> intro hb69 hr
  ·refine .seq ?_
   obtain ⟨v70, hc71, hr⟩ := bd hr
   refine .t1 G (ok0 (fraction_Neg_ok n v14 v70 hc71)) (.mu 2 (.ca cf0 (.mu 2 ?_)))
   refine .done ⟨by kernel_rfl, ?_⟩
   refine .nh [6, 7] [.own (api_Rat.c a), .own (api_Rat.c b), .own (api_Rat.c c), .own (api_Rat.c v16), .own (api_Rat.c v70), .fix (v7.flatMap api_Rat.c), .own (api_Rat.c v10.1), .own (api_Rat.c v14), .own (api_Rat.c v16)] (.ret ?_)
   obtain rfl := oi hr
   exact FinQ.ret (vs := [.agg (api_Rat.c v16), .agg (api_Rat.c v70)]) (by kernel_rfl) (Sn.tup (Sp (Sp SnL.nil)))
  ·refine .seq ?_
   obtain ⟨hg72, hr⟩ := gd hr
   obtain ⟨v73, hc74, hr⟩ := bd hr
   refine .g1 G (ok0 (fraction_Sign_ok n (gt v7 1) v73 hc74)) (.mu 1 (.p0 (v := .hp 5 (0 + (1 : Int).toNat * 4)) (tr (ofP_guard hg72)) (.p0 (v := .agg (api_Rat.c (gt v7 1))) (Eq.trans (b := ORes.ofP (guardV (decide (4 ≤ ((v7.flatMap api_Rat.c).drop (0 + (1 : Int).toNat * 4)).length)) (.agg (((v7.flatMap api_Rat.c).drop (0 + (1 : Int).toNat * 4)).take 4)))) (by kernel_rfl) (flat_load api_Rat.len (inR_lt (inR_eq hg9 hg72)) (by decide) (by omega : 0 + (1 : Int).toNat * 4 = (1 : Int).toNat * 4 + 0) (by kernel_rfl))) (.ca cf0 (.mu 2 (.done (.nh [6, 7, 8, 11, 50] [.own (api_Rat.c a), .own (api_Rat.c b), .own (api_Rat.c c), .own [aB false, nS, aB false, nS], .own [aB false, nS, aB false, nS], .fix (v7.flatMap api_Rat.c), .own (api_Rat.c v10.1), .own (api_Rat.c v14), .own (api_Rat.c v16)] ?_)))))))
   refine .cd hr ?_ ?_ <;> intro hb80 hr
   ·refine .seq ?_
    obtain ⟨v81, hc82, hr⟩ := bd hr
    refine .t1 G (ok0 (volume_peak_ok n (gt v7 2) (gt v7 0) (gt v7 1) v81 hc82)) (.mu 1 (.pure (v := .hp 5 (0 + (2 : Int).toNat * 4)) (by kernel_rfl) (tr (ofP_guard hg55)) (by kernel_rfl) (.pure (v := .agg (api_Rat.c (gt v7 2))) (by kernel_rfl) (Eq.trans (b := ORes.ofP (guardV (decide (4 ≤ ((v7.flatMap api_Rat.c).drop (0 + (2 : Int).toNat * 4)).length)) (.agg (((v7.flatMap api_Rat.c).drop (0 + (2 : Int).toNat * 4)).take 4)))) (by kernel_rfl) (flat_load api_Rat.len (inR_lt (inR_eq hg9 hg55)) (by decide) (by omega : 0 + (2 : Int).toNat * 4 = (2 : Int).toNat * 4 + 0) (by kernel_rfl))) (by kernel_rfl) (.mu 1 (.pure (v := .hp 5 (0 + (0 : Int).toNat * 4)) (by kernel_rfl) (tr (ofP_guard hg36)) (by kernel_rfl) (.pure (v := .agg (api_Rat.c (gt v7 0))) (by kernel_rfl) (Eq.trans (b := ORes.ofP (guardV (decide (4 ≤ ((v7.flatMap api_Rat.c).drop (0 + (0 : Int).toNat * 4)).length)) (.agg (((v7.flatMap api_Rat.c).drop (0 + (0 : Int).toNat * 4)).take 4)))) (by kernel_rfl) (flat_load api_Rat.len (inR_lt (inR_eq hg9 hg36)) (by decide) (by omega : 0 + (0 : Int).toNat * 4 = (0 : Int).toNat * 4 + 0) (by kernel_rfl))) (by kernel_rfl) (.mu 1 (.pure (v := .hp 5 (0 + (1 : Int).toNat * 4)) (by kernel_rfl) (tr (ofP_guard hg72)) (by kernel_rfl) (.pure (v := .agg (api_Rat.c (gt v7 1))) (by kernel_rfl) (Eq.trans (b := ORes.ofP (guardV (decide (4 ≤ ((v7.flatMap api_Rat.c).drop (0 + (1 : Int).toNat * 4)).length)) (.agg (((v7.flatMap api_Rat.c).drop (0 + (1 : Int).toNat * 4)).take 4)))) (by kernel_rfl) (flat_load api_Rat.len (inR_lt (inR_eq hg9 hg72)) (by decide) (by omega : 0 + (1 : Int).toNat * 4 = (1 : Int).toNat * 4 + 0) (by kernel_rfl))) (by kernel_rfl) (.ca cf0 (.mu 2 ?_)))))))))))
    refine .done ⟨by kernel_rfl, ?_⟩
    refine .nh [6, 7, 11, 13] [.own (api_Rat.c a), .own (api_Rat.c b), .own (api_Rat.c c), .own [aB false, nS, aB false, nS], .own [aB false, nS, aB false, nS], .fix (v7.flatMap api_Rat.c), .own (api_Rat.c v10.1), .own (api_Rat.c v14), .own (api_Rat.c v16), .own (api_Rat.c v81)] (.seq ?_)
    obtain ⟨v83, hc84, hr⟩ := bd hr
    refine .t1 G (ok0 (fraction_Sub_ok n v81 v14 v83 hc84)) (.mu 3 (.ca cf0 (.mu 2 ?_)))
    refine .done ⟨by kernel_rfl, ?_⟩
    refine .nh [6, 7] [.own (api_Rat.c a), .own (api_Rat.c b), .own (api_Rat.c c), .own (api_Rat.c v81), .own (api_Rat.c v83), .fix (v7.flatMap api_Rat.c), .own (api_Rat.c v10.1), .own (api_Rat.c v14), .own (api_Rat.c v16), .own (api_Rat.c v81)] (.ret ?_)
    obtain rfl := oi hr
    exact FinQ.ret (vs := [.agg (api_Rat.c v81), .agg (api_Rat.c v83)]) (by kernel_rfl) (Sn.tup (Sp (Sp SnL.nil)))
   ·refine .skip (.pop (.seq ?_))
    obtain ⟨v85, hc86, v87, hc88, v89, hc90, hr⟩ := bd3 hr
    obtain ⟨v91, hc92, hr⟩ := bd hr
    refine .tn G (ca1 (ok0 (fraction_Neg_ok n (gt v7 0) v85 hc86)) (ca1 (ok0 (fraction_Neg_ok n (gt v7 1) v87 hc88)) (ca1 (ok0 (fraction_Neg_ok n (gt v7 2) v89 hc90)) (ca3 (ok0 (volume_peak_ok n v85 v87 v89 v91 hc92)))))) (.mu 1 (.pure (v := .hp 5 (0 + (0 : Int).toNat * 4)) (by kernel_rfl) (tr (ofP_guard hg36)) (by kernel_rfl) (.pure (v := .agg (api_Rat.c (gt v7 0))) (by kernel_rfl) (Eq.trans (b := ORes.ofP (guardV (decide (4 ≤ ((v7.flatMap api_Rat.c).drop (0 + (0 : Int).toNat * 4)).length)) (.agg (((v7.flatMap api_Rat.c).drop (0 + (0 : Int).toNat * 4)).take 4)))) (by kernel_rfl) (flat_load api_Rat.len (inR_lt (inR_eq hg9 hg36)) (by decide) (by omega : 0 + (0 : Int).toNat * 4 = (0 : Int).toNat * 4 + 0) (by kernel_rfl))) (by kernel_rfl) (.ca cf0 (.mu 1 (.pure (v := .hp 5 (0 + (1 : Int).toNat * 4)) (by kernel_rfl) (tr (ofP_guard hg72)) (by kernel_rfl) (.pure (v := .agg (api_Rat.c (gt v7 1))) (by kernel_rfl) (Eq.trans (b := ORes.ofP (guardV (decide (4 ≤ ((v7.flatMap api_Rat.c).drop (0 + (1 : Int).toNat * 4)).length)) (.agg (((v7.flatMap api_Rat.c).drop (0 + (1 : Int).toNat * 4)).take 4)))) (by kernel_rfl) (flat_load api_Rat.len (inR_lt (inR_eq hg9 hg72)) (by decide) (by omega : 0 + (1 : Int).toNat * 4 = (1 : Int).toNat * 4 + 0) (by kernel_rfl))) (by kernel_rfl) (.ca (cfA (fun h => by rw [sv hc88 hc86 (fraction_Neg_cg n h)]) cf0) (.mu 1 (.pure (v := .hp 5 (0 + (2 : Int).toNat * 4)) (by kernel_rfl) (tr (ofP_guard hg55)) (by kernel_rfl) (.pure (v := .agg (api_Rat.c (gt v7 2))) (by kernel_rfl) (Eq.trans (b := ORes.ofP (guardV (decide (4 ≤ ((v7.flatMap api_Rat.c).drop (0 + (2 : Int).toNat * 4)).length)) (.agg (((v7.flatMap api_Rat.c).drop (0 + (2 : Int).toNat * 4)).take 4)))) (by kernel_rfl) (flat_load api_Rat.len (inR_lt (inR_eq hg9 hg55)) (by decide) (by omega : 0 + (2 : Int).toNat * 4 = (2 : Int).toNat * 4 + 0) (by kernel_rfl))) (by kernel_rfl) (.ca (cfA (fun h => by rw [sv hc90 hc86 (fraction_Neg_cg n h)]) (cfA (fun h => by rw [sv hc90 hc88 (fraction_Neg_cg n h)]) cf0)) (.ca (cfF (cfF (cfF cf0))) (.mu 2 ?_))))))))))))))
    refine .done ⟨by kernel_rfl, ?_⟩
    refine .nh [6, 7, 11, 14] [.own (api_Rat.c a), .own (api_Rat.c b), .own (api_Rat.c c), .own [aB false, nS, aB false, nS], .own [aB false, nS, aB false, nS], .fix (v7.flatMap api_Rat.c), .own (api_Rat.c v10.1), .own (api_Rat.c v14), .own (api_Rat.c v16), .own (api_Rat.c v91)] (.seq ?_)
    obtain ⟨v93, hc94, hr⟩ := bd hr
    refine .t1 G (ok0 (fraction_Add_ok n v91 v14 v93 hc94)) (.mu 2 (.ca cf0 (.mu 3 ?_)))
    refine .done ⟨by kernel_rfl, ?_⟩
    refine .nh [6, 7] [.own (api_Rat.c a), .own (api_Rat.c b), .own (api_Rat.c c), .own (api_Rat.c v93), .own (api_Rat.c v91), .fix (v7.flatMap api_Rat.c), .own (api_Rat.c v10.1), .own (api_Rat.c v14), .own (api_Rat.c v16), .own (api_Rat.c v91)] (.ret ?_)
    obtain rfl := oi hr
    exact FinQ.ret (vs := [.agg (api_Rat.c v93), .agg (api_Rat.c v91)]) (by kernel_rfl) (Sn.tup (Sp (Sp SnL.nil)))

theorem terrain_Check_1_inj {n' : Int} {n'_ : Int} (h : ([.at (.int .i64 n')] : List AV) = [.at (.int .i64 n'_)]) : n' = n'_ := by
 simp only [List.cons.injEq, AV.agg.injEq, AV.at.injEq, Value.int.injEq, Value.bool.injEq, AV.fn.injEq, AV.pp.injEq, true_and, and_true] at h
 simp_all
theorem terrain_Check_1_cg (n : Nat) {n' : Int} {n'_ : Int} (h : ([.at (.int .i64 n')] : List AV) = [.at (.int .i64 n'_)]) : terrain_Check_1 n n' = terrain_Check_1 n n'_ := by
 obtain rfl := terrain_Check_1_inj h
 rfl
theorem terrain_Check_1_ok (n : Nat) (n' : Int) (r : Bool) (hr : terrain_Check_1 n n' = some r) : FnOk Tryz.prog 32 [aI64 n'] (aB r) := by
 unfold terrain_Check_1 at hr
 refine FnOk.bd G Tryz.func32 [.tmp 2] ?_
 unfold Tryz.f32
 simp only [gS]
 refine .seq (.r4 G [0] [] (.seq ?_))
 rcases bT (decide (n' ≥ 2)) with hb1 | hb1
 ·replace hr := cd_t hb1 hr
  refine .r0 G (.mu 1 (.p0 (v := aB true) (eB hb1) (.mu 5 (.done (.ret ?_)))))
  obtain rfl := oi hr
  exact FinQ.r1 [aB (decide (n' ≤ 64))]
 ·replace hr := cd_f hb1 hr
  refine .r0 G (.mu 1 (.p0 (v := aB false) (eB hb1) (.mu 5 (.done (.ret ?_)))))
  obtain rfl := oi hr
  exact FinQ.r1 [aB false]

theorem terrain_far_inj {n' : Int} {n'_ : Int} (h : ([.at (.int .i64 n')] : List AV) = [.at (.int .i64 n'_)]) : n' = n'_ := by
 simp only [List.cons.injEq, AV.agg.injEq, AV.at.injEq, Value.int.injEq, Value.bool.injEq, AV.fn.injEq, AV.pp.injEq, true_and, and_true] at h
 simp_all
theorem terrain_far_cg (n : Nat) {n' : Int} {n'_ : Int} (h : ([.at (.int .i64 n')] : List AV) = [.at (.int .i64 n'_)]) : terrain_far n n' = terrain_far n n'_ := by
 obtain rfl := terrain_far_inj h
 rfl
theorem terrain_far_ok (n : Nat) (n' : Int) (r : Bool) (hr : terrain_far n n' = some r) : FnOk Tryz.prog 33 [aI64 n'] (aB r) := by
 unfold terrain_far at hr
 refine FnOk.bd G Tryz.func33 [.tmp 2] ?_
 unfold Tryz.f33
 simp only [gS]
 refine .seq (.r4 G [0] [] (.seq ?_))
 rcases bT (decide (n' < (-1048576))) with hb1 | hb1
 ·replace hr := cd_t hb1 hr
  refine .r0 G (.mu 1 (.p0 (v := aB true) (eB hb1) (.mu 5 (.done (.ret ?_)))))
  obtain rfl := oi hr
  exact FinQ.r1 [aB true]
 ·replace hr := cd_f hb1 hr
  refine .r0 G (.mu 1 (.p0 (v := aB false) (eB hb1) (.mu 5 (.done (.ret ?_)))))
  obtain rfl := oi hr
  exact FinQ.r1 [aB (decide (n' > 1048576))]

theorem terrain_Check_2_ok (n : Nat) (z : Int) (r : Bool) (hr : terrain_Check_2 n z = some r) : FnOk Tryz.prog 35 [aI64 z] (aB r) := by
 unfold terrain_Check_2 at hr
 refine FnOk.bd G Tryz.func35 [.tmp 2] ?_
 unfold Tryz.f35
 simp only [gS]
 refine .seq (.r4 G [0] [] (.seq ?_))
 rcases bT ((z : Int) != (-2147483648)) with hb1 | hb1
 ·replace hr := cd_t hb1 hr
  obtain ⟨v2, hc3, hr⟩ := bd hr
  refine .g1 G (ok0 (terrain_far_ok n z v2 hc3)) (.mu 1 (.p0 (v := aB true) (eB hb1) (.mu 2 (.ca cf0 (.mu 2 (.done (.ret ?_)))))))
  obtain rfl := oi hr
  exact FinQ.r1 [aB v2]
 ·replace hr := cd_f hb1 hr
  refine .r0 G (.mu 1 (.p0 (v := aB false) (eB hb1) (.mu 5 (.done (.ret ?_)))))
  obtain rfl := oi hr
  exact FinQ.r1 [aB false]

theorem slices_IndexFunc_int_int_of_terrain_Check_2_ok (n : Nat) (s : List Int) (r : Int) (hr : slices_IndexFunc_int_int_of_terrain_Check_2 n s = some r) : FnOk Tryz.prog 79 [sI64 s, .fn 35 [] []] (aI64 r) := by
 unfold slices_IndexFunc_int_int_of_terrain_Check_2 at hr
 refine FnOk.bd G Tryz.func79 [.tmp 4] ?_
 unfold Tryz.f79
 simp only [gS]
 refine .seq (.r4 G [0, 1] [] (.seq (.seq (.r4 G [0, 1] [(7, aI64 (s.length : Int)), (8, aI64 0)] (.block ?_)))))
 replace hr := bd hr; obtain ⟨o13, hL14, hr⟩ := hr
 refine .loopO (σ := fun z0 => match z0 with | x_1 => ⟨mkS 19 0 [(0, sI64 s), (1, .fn 35 [] []), (7, aI64 (s.length : Int)), (8, aI64 x_1)], []⟩) (Q := fun x st' => match (generalizing := false) o13 with | .inl _ => x = .exit 0 ∧ Wk 0 st' ⟨mkS 19 0 [], []⟩ | .inr (r0) => x = .ret ∧ FinQ Tryz.prog [.tmp 4] (aI64 r0) .ret st') hL14 ((Wk.gc [0, 1, 7, 8] [] rfl pK0).to) ?_ ?_
 ·clear hr
  rintro m x_1 hr
  show CQ _ _ _ _ _ ⟨_, _⟩
  refine .seq (.r4 G [0, 1, 7, 8] [(9, aB (decide (x_1 < (s.length : Int))))] (.seq ?_))
  refine .cd hr ?_ ?_ <;> intro hb8 hr
  ·refine .skip (.seq (.block (.seq (.r4 G [0, 1, 7, 8] [(5, aI64 x_1)] (.seq ?_)))))
   obtain ⟨hg9, hr⟩ := gd hr
   obtain ⟨v10, hc11, hr⟩ := bd hr
   refine .g1 G (ok0 (terrain_Check_2_ok n (gt s x_1) v10 hc11)) (.mu 3 (.p0 (v := .pp (s.flatMap (iC .i64)) (x_1.toNat * 1)) (tr (ofP_guard hg9)) (.p0 (v := aI64 (gt s x_1)) (tr (ofP_some (flat_get (iC_len .i64) (inR_lt hg9) (by decide : 0 < 1) (by omega : x_1.toNat * 1 = x_1.toNat * 1 + 0) (by kernel_rfl)))) (.ca cf0 (.done (.nh [0, 1, 5, 7, 8, 16] [] ?_))))))
   refine .cd hr ?_ ?_ <;> intro hb12 hr
   ·refine .seq (.ru G (.ret ?_))
    obtain rfl := oi hr
    exact ⟨rfl, FinQ.ret (vs := [aI64 x_1]) (by kernel_rfl) (Sn.pure rfl)⟩
   ·refine .skip (.pop (.ru G ?_))
    exact loopF_back (wrapF .i64 (x_1 + 1)) hr ((Wk.gc [0, 1, 7, 8] [] rfl pK0).to)
  ·refine .leave rfl ?_
   obtain rfl := oi hr
   exact ⟨rfl, ((Wk.gc [] [] rfl pK0).to)⟩
 ·rcases o13 with ⟨⟩ | r0
  ·rintro x st' hq15
   clear hL14
   obtain ⟨rfl, hq15⟩ := hq15
   refine CQ_exit _ rfl (.wk hq15 (.seq (.ru G (.ret ?_))))
   obtain rfl := oi hr
   exact FinQ.r1 [aI64 (-1)]
  ·rintro x st' hq15
   clear hL14
   obtain ⟨rfl, hq15⟩ := hq15
   obtain rfl := oi hr
   exact CQ_ret _ hq15

theorem slices_ContainsFunc_int_int_of_terrain_Check_2_ok (n : Nat) (s : List Int) (r : Bool) (hr : slices_ContainsFunc_int_int_of_terrain_Check_2 n s = some r) : FnOk Tryz.prog 34 [sI64 s, .fn 35 [] []] (aB r) := by
 unfold slices_ContainsFunc_int_int_of_terrain_Check_2 at hr
 refine FnOk.bd G Tryz.func34 [.tmp 4] ?_
 unfold Tryz.f34
 simp only [gS]
 refine .seq (.r4 G [0, 1] [] (.seq ?_))
 obtain ⟨v1, hc2, hr⟩ := bd hr
 refine .g1 G (ok0 (slices_IndexFunc_int_int_of_terrain_Check_2_ok n s v1 hc2)) (.mu 2 (.ca cf0 (.mu 2 (.done (.ret ?_)))))
 obtain rfl := oi hr
 exact FinQ.r1 [aB (decide (v1 ≥ 0))]

theorem terrain_Check_ok (n : Nat) (g : api_Grid) (r : Int) (hr : terrain_Check n g = some r) : FnOk Tryz.prog 7 [.agg (api_Grid.c g)] (aI64 r) := by
 unfold terrain_Check at hr
 refine FnOk.bd G Tryz.func7 [.tmp 2] ?_
 unfold Tryz.f7
 simp only [gS]
 refine .seq (.r2 G 54 [(1, .hp 0 0)] [.own (api_Grid.c g)] (.seq (.r4 G [1] [(3, .fn 32 [] [])] (.seq (.seq ?_)))))
 obtain ⟨v1, hc2, hr⟩ := bd hr
 rcases bT (!v1) with hb3 | hb3
 ·replace hr := cd_t hb3 hr
  refine .g1 G (ok0 (terrain_Check_1_ok n g.Width v1 hc2)) (.mu 3 (.ca cf0 (.p0 (v := aB true) (eB hb3) (.mu 33 (.done (.nh [1, 41] [.own (api_Grid.c g)] (.cT (by kernel_rfl) (.seq (.ru G (.ret ?_))))))))))
  obtain rfl := oi hr
  exact FinQ.r1 [aI64 2]
 ·replace hr := cd_f hb3 hr
  obtain ⟨v4, hc5, hr⟩ := bd hr
  rcases bT (!v4) with hb6 | hb6
  ·replace hr := cd_t hb6 hr
   refine .gn G (ca1 (ok0 (terrain_Check_1_ok n g.Width v1 hc2)) (ca3 (ok0 (terrain_Check_1_ok n g.Height v4 hc5)))) (.mu 3 (.ca cf0 (.p0 (v := aB false) (eB hb3) (.mu 4 (.ca (cfA (fun h => by rw [sv hc5 hc2 (terrain_Check_1_cg n h)]) cf0) (.pure (v := aB true) (by kernel_rfl) (eB hb6) (.mu 27 (.done (.nh [1, 41] [.own (api_Grid.c g)] (.cT (by kernel_rfl) (.seq (.ru G (.ret ?_)))))))))))))
   obtain rfl := oi hr
   exact FinQ.r1 [aI64 2]
  ·replace hr := cd_f hb6 hr
   rcases bT (decide (g.Step < 2)) with hb7 | hb7
   ·replace hr := cd_t hb7 hr
    refine .gn G (ca1 (ok0 (terrain_Check_1_ok n g.Width v1 hc2)) (ca3 (ok0 (terrain_Check_1_ok n g.Height v4 hc5)))) (.mu 3 (.ca cf0 (.p0 (v := aB false) (eB hb3) (.mu 4 (.ca (cfA (fun h => by rw [sv hc5 hc2 (terrain_Check_1_cg n h)]) cf0) (.pure (v := aB false) (by kernel_rfl) (eB hb6) (.mu 4 (.pure (v := aB true) (by kernel_rfl) (eB hb7) (.mu 22 (.done (.nh [1, 41] [.own (api_Grid.c g)] (.cT (by kernel_rfl) (.seq (.ru G (.ret ?_)))))))))))))))
    obtain rfl := oi hr
    exact FinQ.r1 [aI64 2]
   ·replace hr := cd_f hb7 hr
    rcases bT (decide (g.Step > 65536)) with hb8 | hb8
    ·replace hr := cd_t hb8 hr
     refine .gn G (ca1 (ok0 (terrain_Check_1_ok n g.Width v1 hc2)) (ca3 (ok0 (terrain_Check_1_ok n g.Height v4 hc5)))) (.mu 3 (.ca cf0 (.p0 (v := aB false) (eB hb3) (.mu 4 (.ca (cfA (fun h => by rw [sv hc5 hc2 (terrain_Check_1_cg n h)]) cf0) (.pure (v := aB false) (by kernel_rfl) (eB hb6) (.mu 4 (.pure (v := aB false) (by kernel_rfl) (eB hb7) (.mu 4 (.pure (v := aB true) (by kernel_rfl) (eB hb8) (.mu 17 (.done (.nh [1, 41] [.own (api_Grid.c g)] (.cT (by kernel_rfl) (.seq (.ru G (.ret ?_)))))))))))))))))
     obtain rfl := oi hr
     exact FinQ.r1 [aI64 2]
    ·replace hr := cd_f hb8 hr
     rcases bT (((g.Step.tmod 2) : Int) != 0) with hb9 | hb9
     ·replace hr := cd_t hb9 hr
      refine .gn G (ca1 (ok0 (terrain_Check_1_ok n g.Width v1 hc2)) (ca3 (ok0 (terrain_Check_1_ok n g.Height v4 hc5)))) (.mu 3 (.ca cf0 (.p0 (v := aB false) (eB hb3) (.mu 4 (.ca (cfA (fun h => by rw [sv hc5 hc2 (terrain_Check_1_cg n h)]) cf0) (.pure (v := aB false) (by kernel_rfl) (eB hb6) (.mu 4 (.pure (v := aB false) (by kernel_rfl) (eB hb7) (.mu 4 (.pure (v := aB false) (by kernel_rfl) (eB hb8) (.mu 5 (.pure (v := aB true) (by kernel_rfl) (eB hb9) (.mu 11 (.done (.nh [1, 41] [.own (api_Grid.c g)] (.cT (by kernel_rfl) (.seq (.ru G (.ret ?_)))))))))))))))))))
      obtain rfl := oi hr
      exact FinQ.r1 [aI64 2]
     ·replace hr := cd_f hb9 hr
      obtain ⟨v10, hc11, hr⟩ := bd hr
      rcases bT v10 with hb12 | hb12
      ·subst hb12
       replace hr := cd_t rfl hr
       refine .gn G (ca1 (ok0 (terrain_Check_1_ok n g.Width v1 hc2)) (ca1 (ok0 (terrain_Check_1_ok n g.Height v4 hc5)) (ca3 (ok0 (terrain_far_ok n g.X0 true hc11))))) (.mu 3 (.ca cf0 (.p0 (v := aB false) (eB hb3) (.mu 4 (.ca (cfA (fun h => by rw [sv hc5 hc2 (terrain_Check_1_cg n h)]) cf0) (.pure (v := aB false) (by kernel_rfl) (eB hb6) (.mu 4 (.pure (v := aB false) (by kernel_rfl) (eB hb7) (.mu 4 (.pure (v := aB false) (by kernel_rfl) (eB hb8) (.mu 5 (.pure (v := aB false) (by kernel_rfl) (eB hb9) (.mu 4 (.ca (cfF (cfF cf0)) (.mu 6 (.done (.nh [1, 41] [.own (api_Grid.c g)] (.cT (by kernel_rfl) (.seq (.ru G (.ret ?_)))))))))))))))))))))
       obtain rfl := oi hr
       exact FinQ.r1 [aI64 2]
      ·subst hb12
       replace hr := cd_f rfl hr
       obtain ⟨v13, hc14, hr⟩ := bd hr
       refine .gn G (ca1 (ok0 (terrain_Check_1_ok n g.Width v1 hc2)) (ca1 (ok0 (terrain_Check_1_ok n g.Height v4 hc5)) (ca1 (ok0 (terrain_far_ok n g.X0 false hc11)) (ca3 (ok0 (terrain_far_ok n g.Y0 v13 hc14)))))) (.mu 3 (.ca cf0 (.p0 (v := aB false) (eB hb3) (.mu 4 (.ca (cfA (fun h => by rw [sv hc5 hc2 (terrain_Check_1_cg n h)]) cf0) (.pure (v := aB false) (by kernel_rfl) (eB hb6) (.mu 4 (.pure (v := aB false) (by kernel_rfl) (eB hb7) (.mu 4 (.pure (v := aB false) (by kernel_rfl) (eB hb8) (.mu 5 (.pure (v := aB false) (by kernel_rfl) (eB hb9) (.mu 4 (.ca (cfF (cfF cf0)) (.mu 4 (.ca (cfF (cfF (cfA (fun h => by rw [sv hc14 hc11 (terrain_far_cg n h)]) cf0))) (.mu 1 (.done (.nh [1, 41] [.own (api_Grid.c g)] ?_)))))))))))))))))))
       refine .cd hr ?_ ?_ <;> intro hb15 hr
       ·refine .seq (.ru G (.ret ?_))
        obtain rfl := oi hr
        exact FinQ.r1 [aI64 2]
       ·refine .skip (.seq (.seq (.r4 G [1] [(50, aB (((g.Z.length : Int) : Int) != (wrapF .i64 (g.Width * g.Height))))] ?_)))
        refine .cd hr ?_ ?_ <;> intro hb16 hr
        ·refine .seq (.ru G (.ret ?_))
         obtain rfl := oi hr
         exact FinQ.r1 [aI64 4]
        ·refine .skip (.seq (.seq ?_))
         obtain ⟨v17, hc18, hr⟩ := bd hr
         refine .g1 G (ok0 (slices_ContainsFunc_int_int_of_terrain_Check_2_ok n g.Z v17 hc18)) (.mu 2 (.ca cf0 (.done (.nh [53] [.own (api_Grid.c g)] ?_))))
         refine .cd hr ?_ ?_ <;> intro hb19 hr
         ·refine .seq (.ru G (.ret ?_))
          obtain rfl := oi hr
          exact FinQ.r1 [aI64 2]
         ·refine .skip (.seq (.ru G (.ret ?_)))
          obtain rfl := oi hr
          exact FinQ.r1 [aI64 0]

theorem volume_far_ok (n : Nat) (z : Int) (r : Bool) (hr : volume_far n z = some r) : FnOk Tryz.prog 36 [aI64 z] (aB r) := by
 unfold volume_far at hr
 refine FnOk.bd G Tryz.func36 [.tmp 2] ?_
 unfold Tryz.f36
 simp only [gS]
 refine .seq (.r4 G [0] [] (.seq ?_))
 rcases bT (decide (z < (-1048576))) with hb1 | hb1
 ·replace hr := cd_t hb1 hr
  refine .r0 G (.mu 1 (.p0 (v := aB true) (eB hb1) (.mu 5 (.done (.ret ?_)))))
  obtain rfl := oi hr
  exact FinQ.r1 [aB true]
 ·replace hr := cd_f hb1 hr
  refine .r0 G (.mu 1 (.p0 (v := aB false) (eB hb1) (.mu 5 (.done (.ret ?_)))))
  obtain rfl := oi hr
  exact FinQ.r1 [aB (decide (z > 1048576))]

theorem volume_triangles_ok (n : Nat) (g : api_Grid) (r : List (A3 Int)) (hr : volume_triangles n g = some r) : FnOk Tryz.prog 38 [.agg (api_Grid.c g)] (slT A3_3_int.c r) := by
 unfold volume_triangles at hr
 refine FnOk.bd G Tryz.func38 [.tmp 2] ?_
 unfold Tryz.f38
 simp only [gS]
 refine .seq (.r2 G 86 [(1, .hp 0 0)] [.own (api_Grid.c g)] (.seq (.r4 G [1] [(3, nS)] (.seq (.seq (.r4 G [1, 3] [(11, aI64 (wrapF .i64 (g.Height - 1))), (12, aI64 0)] (.block ?_)))))))
 replace hr := bd hr; obtain ⟨o_74, hL148, hr⟩ := hr
 refine .loopO (σ := fun z0 => match z0 with | (o_1, x_2) => ⟨mkS 86 0 [(1, .hp 0 0), (3, .hs 1 0 o_1.length 3), (11, aI64 (wrapF .i64 (g.Height - 1))), (12, aI64 x_2)], [.own (api_Grid.c g), .own (o_1.flatMap A3_3_int.c)]⟩) (Q := fun x st' => x = .exit 0 ∧ Wk 0 st' ⟨mkS 86 0 [(3, .hs 0 0 o_74.length 3)], [.own (o_74.flatMap A3_3_int.c)]⟩) hL148 ((Wk.nil 3 3 (by kernel_rfl)).trans ((Wk.gc [1, 3, 11, 12] [(0, true), (1, false)] rfl (pKt (pKc trivial))).to)) ?_ ?_
 ·clear hr
  rintro m ⟨o_1, x_2⟩ hr
  show CQ _ _ _ _ _ ⟨_, _⟩
  refine .seq (.r4 G [1, 3, 11, 12] [(13, aB (decide (x_2 < (wrapF .i64 (g.Height - 1)))))] (.seq ?_))
  refine .cd hr ?_ ?_ <;> intro hb77 hr
  ·refine .skip (.seq (.block (.seq (.r4 G [1, 3, 11, 12] [(4, aI64 x_2)] (.seq (.r4 G [1, 3, 4, 11, 12] [(17, aI64 (wrapF .i64 (g.Width - 1))), (18, aI64 0)] (.block ?_)))))))
   replace hr := bd hr; obtain ⟨o_111, hL145, hr⟩ := hr
   refine .loopO (σ := fun z0 => match z0 with | (o_78, x_79) => ⟨mkS 86 0 [(1, .hp 0 0), (3, .hs 1 0 o_78.length 3), (4, aI64 x_2), (11, aI64 (wrapF .i64 (g.Height - 1))), (12, aI64 x_2), (17, aI64 (wrapF .i64 (g.Width - 1))), (18, aI64 x_79)], [.own (api_Grid.c g), .own (o_78.flatMap A3_3_int.c)]⟩) (Q := fun x st' => x = .exit 2 ∧ Wk 0 st' ⟨mkS 86 0 [(1, .hp 0 0), (3, .hs 1 0 o_111.length 3), (11, aI64 (wrapF .i64 (g.Height - 1))), (12, aI64 x_2)], [.own (api_Grid.c g), .own (o_111.flatMap A3_3_int.c)]⟩) hL145 ((Wk.gc [1, 3, 4, 11, 12, 17, 18] [(0, true), (1, false)] rfl (pKt (pKo A3_3_int.c A3_3_int.pure o_1 trivial))).to) ?_ ?_
   ·clear hr
    rintro m ⟨o_78, x_79⟩ hr
    show CQ _ _ _ _ _ ⟨_, _⟩
    refine .seq (.r4 G [1, 3, 4, 11, 12, 17, 18] [(19, aB (decide (x_79 < (wrapF .i64 (g.Width - 1)))))] (.seq ?_))
    refine .cd hr ?_ ?_ <;> intro hb114 hr
    ·refine .skip (.seq (.block (.seq (.r4 G [1, 3, 4, 11, 12, 17, 18] [(5, aI64 x_79)] (.seq (.r4 G [1, 3, 4, 11, 12, 17, 18] [(6, aI64 (wrapF .i64 ((wrapF .i64 (x_2 * g.Width)) + x_79)))] (.seq (.r5 G [1, 3, 4, 11, 12, 17, 18] [(47, .hs 2 0 2 3), (48, aI64 2), (49, aI64 0)] [.own (api_Grid.c g), .own (o_78.flatMap A3_3_int.c), .own [aI64 (wrapF .i64 ((wrapF .i64 (x_2 * g.Width)) + x_79)), aI64 (wrapF .i64 ((wrapF .i64 ((wrapF .i64 (x_2 * g.Width)) + x_79)) + 1)), aI64 (wrapF .i64 ((wrapF .i64 ((wrapF .i64 ((wrapF .i64 (x_2 * g.Width)) + x_79)) + g.Width)) + 1)), aI64 (wrapF .i64 ((wrapF .i64 (x_2 * g.Width)) + x_79)), aI64 (wrapF .i64 ((wrapF .i64 ((wrapF .i64 ((wrapF .i64 (x_2 * g.Width)) + x_79)) + g.Width)) + 1)), aI64 (wrapF .i64 ((wrapF .i64 ((wrapF .i64 (x_2 * g.Width)) + x_79)) + g.Width))]] (.block ?_)))))))))
     replace hr := bd hr; obtain ⟨o_128, hL142, hr⟩ := hr
     refine .loopO (σ := fun z0 => match z0 with | (o_115, x_116) => ⟨mkS 86 0 [(1, .hp 0 0), (3, .hs 1 0 o_115.length 3), (4, aI64 x_2), (11, aI64 (wrapF .i64 (g.Height - 1))), (12, aI64 x_2), (17, aI64 (wrapF .i64 (g.Width - 1))), (18, aI64 x_79), (47, .hs 2 0 ([A3.mk (wrapF .i64 ((wrapF .i64 (x_2 * g.Width)) + x_79)) (wrapF .i64 ((wrapF .i64 ((wrapF .i64 (x_2 * g.Width)) + x_79)) + 1)) (wrapF .i64 ((wrapF .i64 ((wrapF .i64 ((wrapF .i64 (x_2 * g.Width)) + x_79)) + g.Width)) + 1)), A3.mk (wrapF .i64 ((wrapF .i64 (x_2 * g.Width)) + x_79)) (wrapF .i64 ((wrapF .i64 ((wrapF .i64 ((wrapF .i64 (x_2 * g.Width)) + x_79)) + g.Width)) + 1)) (wrapF .i64 ((wrapF .i64 ((wrapF .i64 (x_2 * g.Width)) + x_79)) + g.Width))].length) 3), (48, aI64 2), (49, aI64 x_116)], [.own (api_Grid.c g), .own (o_115.flatMap A3_3_int.c), .own ([A3.mk (wrapF .i64 ((wrapF .i64 (x_2 * g.Width)) + x_79)) (wrapF .i64 ((wrapF .i64 ((wrapF .i64 (x_2 * g.Width)) + x_79)) + 1)) (wrapF .i64 ((wrapF .i64 ((wrapF .i64 ((wrapF .i64 (x_2 * g.Width)) + x_79)) + g.Width)) + 1)), A3.mk (wrapF .i64 ((wrapF .i64 (x_2 * g.Width)) + x_79)) (wrapF .i64 ((wrapF .i64 ((wrapF .i64 ((wrapF .i64 (x_2 * g.Width)) + x_79)) + g.Width)) + 1)) (wrapF .i64 ((wrapF .i64 ((wrapF .i64 (x_2 * g.Width)) + x_79)) + g.Width))].flatMap A3_3_int.c)]⟩) (Q := fun x st' => x = .exit 4 ∧ Wk 0 st' ⟨mkS 86 0 [(1, .hp 0 0), (3, .hs 1 0 o_128.length 3), (4, aI64 x_2), (11, aI64 (wrapF .i64 (g.Height - 1))), (12, aI64 x_2), (17, aI64 (wrapF .i64 (g.Width - 1))), (18, aI64 x_79)], [.own (api_Grid.c g), .own (o_128.flatMap A3_3_int.c)]⟩) hL142 ((Wk.gc [1, 3, 4, 11, 12, 17, 18, 47, 48, 49] [(0, true), (1, false), (2, false)] rfl (pKt (pKo A3_3_int.c A3_3_int.pure o_78 (pKc trivial)))).to) ?_ ?_
     ·clear hr
      rintro m ⟨o_115, x_116⟩ hr
      show CQ _ _ _ _ _ ⟨_, _⟩
      refine .seq (.r4 G [1, 3, 4, 11, 12, 17, 18, 47, 48, 49] [(50, aB (decide (x_116 < 2)))] (.seq ?_))
      refine .cd hr ?_ ?_ <;> intro hb131 hr
      ·refine .skip (.seq (.block (.seq ?_)))
       obtain ⟨hg132, hr⟩ := gd hr
       refine .r0 G (.p0 (v := .hp 2 (0 + x_116.toNat * 3)) (tr (ofP_guard hg132)) (.p0 (v := .agg [aI64 (gt [A3.mk (wrapF .i64 ((wrapF .i64 (x_2 * g.Width)) + x_79)) (wrapF .i64 ((wrapF .i64 ((wrapF .i64 (x_2 * g.Width)) + x_79)) + 1)) (wrapF .i64 ((wrapF .i64 ((wrapF .i64 ((wrapF .i64 (x_2 * g.Width)) + x_79)) + g.Width)) + 1)), A3.mk (wrapF .i64 ((wrapF .i64 (x_2 * g.Width)) + x_79)) (wrapF .i64 ((wrapF .i64 ((wrapF .i64 ((wrapF .i64 (x_2 * g.Width)) + x_79)) + g.Width)) + 1)) (wrapF .i64 ((wrapF .i64 ((wrapF .i64 (x_2 * g.Width)) + x_79)) + g.Width))] x_116).e0, aI64 (gt [A3.mk (wrapF .i64 ((wrapF .i64 (x_2 * g.Width)) + x_79)) (wrapF .i64 ((wrapF .i64 ((wrapF .i64 (x_2 * g.Width)) + x_79)) + 1)) (wrapF .i64 ((wrapF .i64 ((wrapF .i64 ((wrapF .i64 (x_2 * g.Width)) + x_79)) + g.Width)) + 1)), A3.mk (wrapF .i64 ((wrapF .i64 (x_2 * g.Width)) + x_79)) (wrapF .i64 ((wrapF .i64 ((wrapF .i64 ((wrapF .i64 (x_2 * g.Width)) + x_79)) + g.Width)) + 1)) (wrapF .i64 ((wrapF .i64 ((wrapF .i64 (x_2 * g.Width)) + x_79)) + g.Width))] x_116).e1, aI64 (gt [A3.mk (wrapF .i64 ((wrapF .i64 (x_2 * g.Width)) + x_79)) (wrapF .i64 ((wrapF .i64 ((wrapF .i64 (x_2 * g.Width)) + x_79)) + 1)) (wrapF .i64 ((wrapF .i64 ((wrapF .i64 ((wrapF .i64 (x_2 * g.Width)) + x_79)) + g.Width)) + 1)), A3.mk (wrapF .i64 ((wrapF .i64 (x_2 * g.Width)) + x_79)) (wrapF .i64 ((wrapF .i64 ((wrapF .i64 ((wrapF .i64 (x_2 * g.Width)) + x_79)) + g.Width)) + 1)) (wrapF .i64 ((wrapF .i64 ((wrapF .i64 (x_2 * g.Width)) + x_79)) + g.Width))] x_116).e2]) (Eq.trans (b := ORes.ofP (guardV (decide (3 ≤ (([A3.mk (wrapF .i64 ((wrapF .i64 (x_2 * g.Width)) + x_79)) (wrapF .i64 ((wrapF .i64 ((wrapF .i64 (x_2 * g.Width)) + x_79)) + 1)) (wrapF .i64 ((wrapF .i64 ((wrapF .i64 ((wrapF .i64 (x_2 * g.Width)) + x_79)) + g.Width)) + 1)), A3.mk (wrapF .i64 ((wrapF .i64 (x_2 * g.Width)) + x_79)) (wrapF .i64 ((wrapF .i64 ((wrapF .i64 ((wrapF .i64 (x_2 * g.Width)) + x_79)) + g.Width)) + 1)) (wrapF .i64 ((wrapF .i64 ((wrapF .i64 (x_2 * g.Width)) + x_79)) + g.Width))].flatMap A3_3_int.c).drop (0 + x_116.toNat * 3)).length)) (.agg ((([A3.mk (wrapF .i64 ((wrapF .i64 (x_2 * g.Width)) + x_79)) (wrapF .i64 ((wrapF .i64 ((wrapF .i64 (x_2 * g.Width)) + x_79)) + 1)) (wrapF .i64 ((wrapF .i64 ((wrapF .i64 ((wrapF .i64 (x_2 * g.Width)) + x_79)) + g.Width)) + 1)), A3.mk (wrapF .i64 ((wrapF .i64 (x_2 * g.Width)) + x_79)) (wrapF .i64 ((wrapF .i64 ((wrapF .i64 ((wrapF .i64 (x_2 * g.Width)) + x_79)) + g.Width)) + 1)) (wrapF .i64 ((wrapF .i64 ((wrapF .i64 (x_2 * g.Width)) + x_79)) + g.Width))].flatMap A3_3_int.c).drop (0 + x_116.toNat * 3)).take 3)))) (by kernel_rfl) (flat_load A3_3_int.len (inR_lt hg132) (by decide) (by omega : 0 + x_116.toNat * 3 = x_116.toNat * 3 + 0) (by kernel_rfl))) (.mu 2 (.done ?_))))
       refine .nh [1, 3, 4, 8, 11, 12, 17, 18, 47, 48, 49] [.own (api_Grid.c g), .own (o_115.flatMap A3_3_int.c), .own ([A3.mk (wrapF .i64 ((wrapF .i64 (x_2 * g.Width)) + x_79)) (wrapF .i64 ((wrapF .i64 ((wrapF .i64 (x_2 * g.Width)) + x_79)) + 1)) (wrapF .i64 ((wrapF .i64 ((wrapF .i64 ((wrapF .i64 (x_2 * g.Width)) + x_79)) + g.Width)) + 1)), A3.mk (wrapF .i64 ((wrapF .i64 (x_2 * g.Width)) + x_79)) (wrapF .i64 ((wrapF .i64 ((wrapF .i64 ((wrapF .i64 (x_2 * g.Width)) + x_79)) + g.Width)) + 1)) (wrapF .i64 ((wrapF .i64 ((wrapF .i64 (x_2 * g.Width)) + x_79)) + g.Width))].flatMap A3_3_int.c), .own [aI64 (gt [A3.mk (wrapF .i64 ((wrapF .i64 (x_2 * g.Width)) + x_79)) (wrapF .i64 ((wrapF .i64 ((wrapF .i64 (x_2 * g.Width)) + x_79)) + 1)) (wrapF .i64 ((wrapF .i64 ((wrapF .i64 ((wrapF .i64 (x_2 * g.Width)) + x_79)) + g.Width)) + 1)), A3.mk (wrapF .i64 ((wrapF .i64 (x_2 * g.Width)) + x_79)) (wrapF .i64 ((wrapF .i64 ((wrapF .i64 ((wrapF .i64 (x_2 * g.Width)) + x_79)) + g.Width)) + 1)) (wrapF .i64 ((wrapF .i64 ((wrapF .i64 (x_2 * g.Width)) + x_79)) + g.Width))] x_116).e0, aI64 (gt [A3.mk (wrapF .i64 ((wrapF .i64 (x_2 * g.Width)) + x_79)) (wrapF .i64 ((wrapF .i64 ((wrapF .i64 (x_2 * g.Width)) + x_79)) + 1)) (wrapF .i64 ((wrapF .i64 ((wrapF .i64 ((wrapF .i64 (x_2 * g.Width)) + x_79)) + g.Width)) + 1)), A3.mk (wrapF .i64 ((wrapF .i64 (x_2 * g.Width)) + x_79)) (wrapF .i64 ((wrapF .i64 ((wrapF .i64 ((wrapF .i64 (x_2 * g.Width)) + x_79)) + g.Width)) + 1)) (wrapF .i64 ((wrapF .i64 ((wrapF .i64 (x_2 * g.Width)) + x_79)) + g.Width))] x_116).e1, aI64 (gt [A3.mk (wrapF .i64 ((wrapF .i64 (x_2 * g.Width)) + x_79)) (wrapF .i64 ((wrapF .i64 ((wrapF .i64 (x_2 * g.Width)) + x_79)) + 1)) (wrapF .i64 ((wrapF .i64 ((wrapF .i64 ((wrapF .i64 (x_2 * g.Width)) + x_79)) + g.Width)) + 1)), A3.mk (wrapF .i64 ((wrapF .i64 (x_2 * g.Width)) + x_79)) (wrapF .i64 ((wrapF .i64 ((wrapF .i64 ((wrapF .i64 (x_2 * g.Width)) + x_79)) + g.Width)) + 1)) (wrapF .i64 ((wrapF .i64 ((wrapF .i64 (x_2 * g.Width)) + x_79)) + g.Width))] x_116).e2]] (.seq ?_)
       obtain ⟨hg133, hr⟩ := gd hr
       rcases bT (((gt g.Z (gt [A3.mk (wrapF .i64 ((wrapF .i64 (x_2 * g.Width)) + x_79)) (wrapF .i64 ((wrapF .i64 ((wrapF .i64 (x_2 * g.Width)) + x_79)) + 1)) (wrapF .i64 ((wrapF .i64 ((wrapF .i64 ((wrapF .i64 (x_2 * g.Width)) + x_79)) + g.Width)) + 1)), A3.mk (wrapF .i64 ((wrapF .i64 (x_2 * g.Width)) + x_79)) (wrapF .i64 ((wrapF .i64 ((wrapF .i64 ((wrapF .i64 (x_2 * g.Width)) + x_79)) + g.Width)) + 1)) (wrapF .i64 ((wrapF .i64 ((wrapF .i64 (x_2 * g.Width)) + x_79)) + g.Width))] x_116).e0) : Int) != (-2147483648)) with hb134 | hb134
       ·replace hr := cd_t hb134 hr
        obtain ⟨hg135, hr⟩ := gd hr
        rcases bT (((gt g.Z (gt [A3.mk (wrapF .i64 ((wrapF .i64 (x_2 * g.Width)) + x_79)) (wrapF .i64 ((wrapF .i64 ((wrapF .i64 (x_2 * g.Width)) + x_79)) + 1)) (wrapF .i64 ((wrapF .i64 ((wrapF .i64 ((wrapF .i64 (x_2 * g.Width)) + x_79)) + g.Width)) + 1)), A3.mk (wrapF .i64 ((wrapF .i64 (x_2 * g.Width)) + x_79)) (wrapF .i64 ((wrapF .i64 ((wrapF .i64 ((wrapF .i64 (x_2 * g.Width)) + x_79)) + g.Width)) + 1)) (wrapF .i64 ((wrapF .i64 ((wrapF .i64 (x_2 * g.Width)) + x_79)) + g.Width))] x_116).e1) : Int) != (-2147483648)) with hb136 | hb136
        ·replace hr := cd_t hb136 hr
         obtain ⟨hg137, hr⟩ := gd hr
         refine .r0 G (.mu 4 (.p0 (v := .pp (g.Z.flatMap (iC .i64)) ((gt [A3.mk (wrapF .i64 ((wrapF .i64 (x_2 * g.Width)) + x_79)) (wrapF .i64 ((wrapF .i64 ((wrapF .i64 (x_2 * g.Width)) + x_79)) + 1)) (wrapF .i64 ((wrapF .i64 ((wrapF .i64 ((wrapF .i64 (x_2 * g.Width)) + x_79)) + g.Width)) + 1)), A3.mk (wrapF .i64 ((wrapF .i64 (x_2 * g.Width)) + x_79)) (wrapF .i64 ((wrapF .i64 ((wrapF .i64 ((wrapF .i64 (x_2 * g.Width)) + x_79)) + g.Width)) + 1)) (wrapF .i64 ((wrapF .i64 ((wrapF .i64 (x_2 * g.Width)) + x_79)) + g.Width))] x_116).e0.toNat * 1)) (tr (ofP_guard hg133)) (.p0 (v := aI64 (gt g.Z (gt [A3.mk (wrapF .i64 ((wrapF .i64 (x_2 * g.Width)) + x_79)) (wrapF .i64 ((wrapF .i64 ((wrapF .i64 (x_2 * g.Width)) + x_79)) + 1)) (wrapF .i64 ((wrapF .i64 ((wrapF .i64 ((wrapF .i64 (x_2 * g.Width)) + x_79)) + g.Width)) + 1)), A3.mk (wrapF .i64 ((wrapF .i64 (x_2 * g.Width)) + x_79)) (wrapF .i64 ((wrapF .i64 ((wrapF .i64 ((wrapF .i64 (x_2 * g.Width)) + x_79)) + g.Width)) + 1)) (wrapF .i64 ((wrapF .i64 ((wrapF .i64 (x_2 * g.Width)) + x_79)) + g.Width))] x_116).e0)) (tr (ofP_some (flat_get (iC_len .i64) (inR_lt hg133) (by decide : 0 < 1) (by omega : (gt [A3.mk (wrapF .i64 ((wrapF .i64 (x_2 * g.Width)) + x_79)) (wrapF .i64 ((wrapF .i64 ((wrapF .i64 (x_2 * g.Width)) + x_79)) + 1)) (wrapF .i64 ((wrapF .i64 ((wrapF .i64 ((wrapF .i64 (x_2 * g.Width)) + x_79)) + g.Width)) + 1)), A3.mk (wrapF .i64 ((wrapF .i64 (x_2 * g.Width)) + x_79)) (wrapF .i64 ((wrapF .i64 ((wrapF .i64 ((wrapF .i64 (x_2 * g.Width)) + x_79)) + g.Width)) + 1)) (wrapF .i64 ((wrapF .i64 ((wrapF .i64 (x_2 * g.Width)) + x_79)) + g.Width))] x_116).e0.toNat * 1 = (gt [A3.mk (wrapF .i64 ((wrapF .i64 (x_2 * g.Width)) + x_79)) (wrapF .i64 ((wrapF .i64 ((wrapF .i64 (x_2 * g.Width)) + x_79)) + 1)) (wrapF .i64 ((wrapF .i64 ((wrapF .i64 ((wrapF .i64 (x_2 * g.Width)) + x_79)) + g.Width)) + 1)), A3.mk (wrapF .i64 ((wrapF .i64 (x_2 * g.Width)) + x_79)) (wrapF .i64 ((wrapF .i64 ((wrapF .i64 ((wrapF .i64 (x_2 * g.Width)) + x_79)) + g.Width)) + 1)) (wrapF .i64 ((wrapF .i64 ((wrapF .i64 (x_2 * g.Width)) + x_79)) + g.Width))] x_116).e0.toNat * 1 + 0) (by kernel_rfl)))) (.p0 (v := aB true) (eB hb134) (.mu 5 (.pure (v := .pp (g.Z.flatMap (iC .i64)) ((gt [A3.mk (wrapF .i64 ((wrapF .i64 (x_2 * g.Width)) + x_79)) (wrapF .i64 ((wrapF .i64 ((wrapF .i64 (x_2 * g.Width)) + x_79)) + 1)) (wrapF .i64 ((wrapF .i64 ((wrapF .i64 ((wrapF .i64 (x_2 * g.Width)) + x_79)) + g.Width)) + 1)), A3.mk (wrapF .i64 ((wrapF .i64 (x_2 * g.Width)) + x_79)) (wrapF .i64 ((wrapF .i64 ((wrapF .i64 ((wrapF .i64 (x_2 * g.Width)) + x_79)) + g.Width)) + 1)) (wrapF .i64 ((wrapF .i64 ((wrapF .i64 (x_2 * g.Width)) + x_79)) + g.Width))] x_116).e1.toNat * 1)) (by kernel_rfl) (tr (ofP_guard hg135)) ?_))))))
         refine .pure (v := aI64 (gt g.Z (gt [A3.mk (wrapF .i64 ((wrapF .i64 (x_2 * g.Width)) + x_79)) (wrapF .i64 ((wrapF .i64 ((wrapF .i64 (x_2 * g.Width)) + x_79)) + 1)) (wrapF .i64 ((wrapF .i64 ((wrapF .i64 ((wrapF .i64 (x_2 * g.Width)) + x_79)) + g.Width)) + 1)), A3.mk (wrapF .i64 ((wrapF .i64 (x_2 * g.Width)) + x_79)) (wrapF .i64 ((wrapF .i64 ((wrapF .i64 ((wrapF .i64 (x_2 * g.Width)) + x_79)) + g.Width)) + 1)) (wrapF .i64 ((wrapF .i64 ((wrapF .i64 (x_2 * g.Width)) + x_79)) + g.Width))] x_116).e1)) (by kernel_rfl) (tr (ofP_some (flat_get (iC_len .i64) (inR_lt hg135) (by decide : 0 < 1) (by omega : (gt [A3.mk (wrapF .i64 ((wrapF .i64 (x_2 * g.Width)) + x_79)) (wrapF .i64 ((wrapF .i64 ((wrapF .i64 (x_2 * g.Width)) + x_79)) + 1)) (wrapF .i64 ((wrapF .i64 ((wrapF .i64 ((wrapF .i64 (x_2 * g.Width)) + x_79)) + g.Width)) + 1)), A3.mk (wrapF .i64 ((wrapF .i64 (x_2 * g.Width)) + x_79)) (wrapF .i64 ((wrapF .i64 ((wrapF .i64 ((wrapF .i64 (x_2 * g.Width)) + x_79)) + g.Width)) + 1)) (wrapF .i64 ((wrapF .i64 ((wrapF .i64 (x_2 * g.Width)) + x_79)) + g.Width))] x_116).e1.toNat * 1 = (gt [A3.mk (wrapF .i64 ((wrapF .i64 (x_2 * g.Width)) + x_79)) (wrapF .i64 ((wrapF .i64 ((wrapF .i64 (x_2 * g.Width)) + x_79)) + 1)) (wrapF .i64 ((wrapF .i64 ((wrapF .i64 ((wrapF .i64 (x_2 * g.Width)) + x_79)) + g.Width)) + 1)), A3.mk (wrapF .i64 ((wrapF .i64 (x_2 * g.Width)) + x_79)) (wrapF .i64 ((wrapF .i64 ((wrapF .i64 ((wrapF .i64 (x_2 * g.Width)) + x_79)) + g.Width)) + 1)) (wrapF .i64 ((wrapF .i64 ((wrapF .i64 (x_2 * g.Width)) + x_79)) + g.Width))] x_116).e1.toNat * 1 + 0) (by kernel_rfl)))) (.pure (v := aB true) (by kernel_rfl) (eB hb136) (.mu 6 (.pure (v := .pp (g.Z.flatMap (iC .i64)) ((gt [A3.mk (wrapF .i64 ((wrapF .i64 (x_2 * g.Width)) + x_79)) (wrapF .i64 ((wrapF .i64 ((wrapF .i64 (x_2 * g.Width)) + x_79)) + 1)) (wrapF .i64 ((wrapF .i64 ((wrapF .i64 ((wrapF .i64 (x_2 * g.Width)) + x_79)) + g.Width)) + 1)), A3.mk (wrapF .i64 ((wrapF .i64 (x_2 * g.Width)) + x_79)) (wrapF .i64 ((wrapF .i64 ((wrapF .i64 ((wrapF .i64 (x_2 * g.Width)) + x_79)) + g.Width)) + 1)) (wrapF .i64 ((wrapF .i64 ((wrapF .i64 (x_2 * g.Width)) + x_79)) + g.Width))] x_116).e2.toNat * 1)) (by kernel_rfl) (tr (ofP_guard hg137)) (.pure (v := aI64 (gt g.Z (gt [A3.mk (wrapF .i64 ((wrapF .i64 (x_2 * g.Width)) + x_79)) (wrapF .i64 ((wrapF .i64 ((wrapF .i64 (x_2 * g.Width)) + x_79)) + 1)) (wrapF .i64 ((wrapF .i64 ((wrapF .i64 ((wrapF .i64 (x_2 * g.Width)) + x_79)) + g.Width)) + 1)), A3.mk (wrapF .i64 ((wrapF .i64 (x_2 * g.Width)) + x_79)) (wrapF .i64 ((wrapF .i64 ((wrapF .i64 ((wrapF .i64 (x_2 * g.Width)) + x_79)) + g.Width)) + 1)) (wrapF .i64 ((wrapF .i64 ((wrapF .i64 (x_2 * g.Width)) + x_79)) + g.Width))] x_116).e2)) (by kernel_rfl) (tr (ofP_some (flat_get (iC_len .i64) (inR_lt hg137) (by decide : 0 < 1) (by omega : (gt [A3.mk (wrapF .i64 ((wrapF .i64 (x_2 * g.Width)) + x_79)) (wrapF .i64 ((wrapF .i64 ((wrapF .i64 (x_2 * g.Width)) + x_79)) + 1)) (wrapF .i64 ((wrapF .i64 ((wrapF .i64 ((wrapF .i64 (x_2 * g.Width)) + x_79)) + g.Width)) + 1)), A3.mk (wrapF .i64 ((wrapF .i64 (x_2 * g.Width)) + x_79)) (wrapF .i64 ((wrapF .i64 ((wrapF .i64 ((wrapF .i64 (x_2 * g.Width)) + x_79)) + g.Width)) + 1)) (wrapF .i64 ((wrapF .i64 ((wrapF .i64 (x_2 * g.Width)) + x_79)) + g.Width))] x_116).e2.toNat * 1 = (gt [A3.mk (wrapF .i64 ((wrapF .i64 (x_2 * g.Width)) + x_79)) (wrapF .i64 ((wrapF .i64 ((wrapF .i64 (x_2 * g.Width)) + x_79)) + 1)) (wrapF .i64 ((wrapF .i64 ((wrapF .i64 ((wrapF .i64 (x_2 * g.Width)) + x_79)) + g.Width)) + 1)), A3.mk (wrapF .i64 ((wrapF .i64 (x_2 * g.Width)) + x_79)) (wrapF .i64 ((wrapF .i64 ((wrapF .i64 ((wrapF .i64 (x_2 * g.Width)) + x_79)) + g.Width)) + 1)) (wrapF .i64 ((wrapF .i64 ((wrapF .i64 (x_2 * g.Width)) + x_79)) + g.Width))] x_116).e2.toNat * 1 + 0) (by kernel_rfl)))) (.mu 2 (.done ?_))))))
         refine .nh [1, 3, 4, 8, 11, 12, 17, 18, 47, 48, 49, 77] [.own (api_Grid.c g), .own (o_115.flatMap A3_3_int.c), .own ([A3.mk (wrapF .i64 ((wrapF .i64 (x_2 * g.Width)) + x_79)) (wrapF .i64 ((wrapF .i64 ((wrapF .i64 (x_2 * g.Width)) + x_79)) + 1)) (wrapF .i64 ((wrapF .i64 ((wrapF .i64 ((wrapF .i64 (x_2 * g.Width)) + x_79)) + g.Width)) + 1)), A3.mk (wrapF .i64 ((wrapF .i64 (x_2 * g.Width)) + x_79)) (wrapF .i64 ((wrapF .i64 ((wrapF .i64 ((wrapF .i64 (x_2 * g.Width)) + x_79)) + g.Width)) + 1)) (wrapF .i64 ((wrapF .i64 ((wrapF .i64 (x_2 * g.Width)) + x_79)) + g.Width))].flatMap A3_3_int.c), .own [aI64 (gt [A3.mk (wrapF .i64 ((wrapF .i64 (x_2 * g.Width)) + x_79)) (wrapF .i64 ((wrapF .i64 ((wrapF .i64 (x_2 * g.Width)) + x_79)) + 1)) (wrapF .i64 ((wrapF .i64 ((wrapF .i64 ((wrapF .i64 (x_2 * g.Width)) + x_79)) + g.Width)) + 1)), A3.mk (wrapF .i64 ((wrapF .i64 (x_2 * g.Width)) + x_79)) (wrapF .i64 ((wrapF .i64 ((wrapF .i64 ((wrapF .i64 (x_2 * g.Width)) + x_79)) + g.Width)) + 1)) (wrapF .i64 ((wrapF .i64 ((wrapF .i64 (x_2 * g.Width)) + x_79)) + g.Width))] x_116).e0, aI64 (gt [A3.mk (wrapF .i64 ((wrapF .i64 (x_2 * g.Width)) + x_79)) (wrapF .i64 ((wrapF .i64 ((wrapF .i64 (x_2 * g.Width)) + x_79)) + 1)) (wrapF .i64 ((wrapF .i64 ((wrapF .i64 ((wrapF .i64 (x_2 * g.Width)) + x_79)) + g.Width)) + 1)), A3.mk (wrapF .i64 ((wrapF .i64 (x_2 * g.Width)) + x_79)) (wrapF .i64 ((wrapF .i64 ((wrapF .i64 ((wrapF .i64 (x_2 * g.Width)) + x_79)) + g.Width)) + 1)) (wrapF .i64 ((wrapF .i64 ((wrapF .i64 (x_2 * g.Width)) + x_79)) + g.Width))] x_116).e1, aI64 (gt [A3.mk (wrapF .i64 ((wrapF .i64 (x_2 * g.Width)) + x_79)) (wrapF .i64 ((wrapF .i64 ((wrapF .i64 (x_2 * g.Width)) + x_79)) + 1)) (wrapF .i64 ((wrapF .i64 ((wrapF .i64 ((wrapF .i64 (x_2 * g.Width)) + x_79)) + g.Width)) + 1)), A3.mk (wrapF .i64 ((wrapF .i64 (x_2 * g.Width)) + x_79)) (wrapF .i64 ((wrapF .i64 ((wrapF .i64 ((wrapF .i64 (x_2 * g.Width)) + x_79)) + g.Width)) + 1)) (wrapF .i64 ((wrapF .i64 ((wrapF .i64 (x_2 * g.Width)) + x_79)) + g.Width))] x_116).e2]] ?_
         refine .cd hr ?_ ?_ <;> intro hb138 hr
         ·obtain ⟨hg139, hg140, hr⟩ := gd2 hr
          refine .r0 G (.mu 3 (.e0 (v := .hs 5 0 (o_115 ++ [(gt [A3.mk (wrapF .i64 ((wrapF .i64 (x_2 * g.Width)) + x_79)) (wrapF .i64 ((wrapF .i64 ((wrapF .i64 (x_2 * g.Width)) + x_79)) + 1)) (wrapF .i64 ((wrapF .i64 ((wrapF .i64 ((wrapF .i64 (x_2 * g.Width)) + x_79)) + g.Width)) + 1)), A3.mk (wrapF .i64 ((wrapF .i64 (x_2 * g.Width)) + x_79)) (wrapF .i64 ((wrapF .i64 ((wrapF .i64 ((wrapF .i64 (x_2 * g.Width)) + x_79)) + g.Width)) + 1)) (wrapF .i64 ((wrapF .i64 ((wrapF .i64 (x_2 * g.Width)) + x_79)) + g.Width))] x_116)]).length 3) (ws := [(1, .dead), (5, .own ((o_115 ++ [(gt [A3.mk (wrapF .i64 ((wrapF .i64 (x_2 * g.Width)) + x_79)) (wrapF .i64 ((wrapF .i64 ((wrapF .i64 (x_2 * g.Width)) + x_79)) + 1)) (wrapF .i64 ((wrapF .i64 ((wrapF .i64 ((wrapF .i64 (x_2 * g.Width)) + x_79)) + g.Width)) + 1)), A3.mk (wrapF .i64 ((wrapF .i64 (x_2 * g.Width)) + x_79)) (wrapF .i64 ((wrapF .i64 ((wrapF .i64 ((wrapF .i64 (x_2 * g.Width)) + x_79)) + g.Width)) + 1)) (wrapF .i64 ((wrapF .i64 ((wrapF .i64 (x_2 * g.Width)) + x_79)) + g.Width))] x_116)]).flatMap A3_3_int.c))]) (tr (app_own (new := [aI64 (gt [A3.mk (wrapF .i64 ((wrapF .i64 (x_2 * g.Width)) + x_79)) (wrapF .i64 ((wrapF .i64 ((wrapF .i64 (x_2 * g.Width)) + x_79)) + 1)) (wrapF .i64 ((wrapF .i64 ((wrapF .i64 ((wrapF .i64 (x_2 * g.Width)) + x_79)) + g.Width)) + 1)), A3.mk (wrapF .i64 ((wrapF .i64 (x_2 * g.Width)) + x_79)) (wrapF .i64 ((wrapF .i64 ((wrapF .i64 ((wrapF .i64 (x_2 * g.Width)) + x_79)) + g.Width)) + 1)) (wrapF .i64 ((wrapF .i64 ((wrapF .i64 (x_2 * g.Width)) + x_79)) + g.Width))] x_116).e0, aI64 (gt [A3.mk (wrapF .i64 ((wrapF .i64 (x_2 * g.Width)) + x_79)) (wrapF .i64 ((wrapF .i64 ((wrapF .i64 (x_2 * g.Width)) + x_79)) + 1)) (wrapF .i64 ((wrapF .i64 ((wrapF .i64 ((wrapF .i64 (x_2 * g.Width)) + x_79)) + g.Width)) + 1)), A3.mk (wrapF .i64 ((wrapF .i64 (x_2 * g.Width)) + x_79)) (wrapF .i64 ((wrapF .i64 ((wrapF .i64 ((wrapF .i64 (x_2 * g.Width)) + x_79)) + g.Width)) + 1)) (wrapF .i64 ((wrapF .i64 ((wrapF .i64 (x_2 * g.Width)) + x_79)) + g.Width))] x_116).e1, aI64 (gt [A3.mk (wrapF .i64 ((wrapF .i64 (x_2 * g.Width)) + x_79)) (wrapF .i64 ((wrapF .i64 ((wrapF .i64 (x_2 * g.Width)) + x_79)) + 1)) (wrapF .i64 ((wrapF .i64 ((wrapF .i64 ((wrapF .i64 (x_2 * g.Width)) + x_79)) + g.Width)) + 1)), A3.mk (wrapF .i64 ((wrapF .i64 (x_2 * g.Width)) + x_79)) (wrapF .i64 ((wrapF .i64 ((wrapF .i64 ((wrapF .i64 (x_2 * g.Width)) + x_79)) + g.Width)) + 1)) (wrapF .i64 ((wrapF .i64 ((wrapF .i64 (x_2 * g.Width)) + x_79)) + g.Width))] x_116).e2]) (l := o_115) (xs := [(gt [A3.mk (wrapF .i64 ((wrapF .i64 (x_2 * g.Width)) + x_79)) (wrapF .i64 ((wrapF .i64 ((wrapF .i64 (x_2 * g.Width)) + x_79)) + 1)) (wrapF .i64 ((wrapF .i64 ((wrapF .i64 ((wrapF .i64 (x_2 * g.Width)) + x_79)) + g.Width)) + 1)), A3.mk (wrapF .i64 ((wrapF .i64 (x_2 * g.Width)) + x_79)) (wrapF .i64 ((wrapF .i64 ((wrapF .i64 ((wrapF .i64 (x_2 * g.Width)) + x_79)) + g.Width)) + 1)) (wrapF .i64 ((wrapF .i64 ((wrapF .i64 (x_2 * g.Width)) + x_79)) + g.Width))] x_116)]) A3_3_int.len rfl rfl (by kernel_rfl) hg139 hg140)) (.mu 1 (.done (.pop (.ru G ?_))))))
          exact loopF_back (o_115 ++ [(gt [A3.mk (wrapF .i64 ((wrapF .i64 (x_2 * g.Width)) + x_79)) (wrapF .i64 ((wrapF .i64 ((wrapF .i64 (x_2 * g.Width)) + x_79)) + 1)) (wrapF .i64 ((wrapF .i64 ((wrapF .i64 ((wrapF .i64 (x_2 * g.Width)) + x_79)) + g.Width)) + 1)), A3.mk (wrapF .i64 ((wrapF .i64 (x_2 * g.Width)) + x_79)) (wrapF .i64 ((wrapF .i64 ((wrapF .i64 ((wrapF .i64 (x_2 * g.Width)) + x_79)) + g.Width)) + 1)) (wrapF .i64 ((wrapF .i64 ((wrapF .i64 (x_2 * g.Width)) + x_79)) + g.Width))] x_116)], wrapF .i64 (x_116 + 1)) hr ((Wk.gc [1, 3, 4, 11, 12, 17, 18, 47, 48, 49] [(0, true), (5, false), (2, false)] rfl (pKt (pKo A3_3_int.c A3_3_int.pure (o_115 ++ [(gt [A3.mk (wrapF .i64 ((wrapF .i64 (x_2 * g.Width)) + x_79)) (wrapF .i64 ((wrapF .i64 ((wrapF .i64 (x_2 * g.Width)) + x_79)) + 1)) (wrapF .i64 ((wrapF .i64 ((wrapF .i64 ((wrapF .i64 (x_2 * g.Width)) + x_79)) + g.Width)) + 1)), A3.mk (wrapF .i64 ((wrapF .i64 (x_2 * g.Width)) + x_79)) (wrapF .i64 ((wrapF .i64 ((wrapF .i64 ((wrapF .i64 (x_2 * g.Width)) + x_79)) + g.Width)) + 1)) (wrapF .i64 ((wrapF .i64 ((wrapF .i64 (x_2 * g.Width)) + x_79)) + g.Width))] x_116)]) (pKo A3_3_int.c A3_3_int.pure [A3.mk (wrapF .i64 ((wrapF .i64 (x_2 * g.Width)) + x_79)) (wrapF .i64 ((wrapF .i64 ((wrapF .i64 (x_2 * g.Width)) + x_79)) + 1)) (wrapF .i64 ((wrapF .i64 ((wrapF .i64 ((wrapF .i64 (x_2 * g.Width)) + x_79)) + g.Width)) + 1)), A3.mk (wrapF .i64 ((wrapF .i64 (x_2 * g.Width)) + x_79)) (wrapF .i64 ((wrapF .i64 ((wrapF .i64 ((wrapF .i64 (x_2 * g.Width)) + x_79)) + g.Width)) + 1)) (wrapF .i64 ((wrapF .i64 ((wrapF .i64 (x_2 * g.Width)) + x_79)) + g.Width))] trivial)))).to)
         ·refine .skip (.pop (.ru G ?_))
          exact loopF_back (o_115, wrapF .i64 (x_116 + 1)) hr ((Wk.gc [1, 3, 4, 11, 12, 17, 18, 47, 48, 49] [(0, true), (1, false), (2, false)] rfl (pKt (pKo A3_3_int.c A3_3_int.pure o_115 (pKo A3_3_int.c A3_3_int.pure [A3.mk (wrapF .i64 ((wrapF .i64 (x_2 * g.Width)) + x_79)) (wrapF .i64 ((wrapF .i64 ((wrapF .i64 (x_2 * g.Width)) + x_79)) + 1)) (wrapF .i64 ((wrapF .i64 ((wrapF .i64 ((wrapF .i64 (x_2 * g.Width)) + x_79)) + g.Width)) + 1)), A3.mk (wrapF .i64 ((wrapF .i64 (x_2 * g.Width)) + x_79)) (wrapF .i64 ((wrapF .i64 ((wrapF .i64 ((wrapF .i64 (x_2 * g.Width)) + x_79)) + g.Width)) + 1)) (wrapF .i64 ((wrapF .i64 ((wrapF .i64 (x_2 * g.Width)) + x_79)) + g.Width))] trivial)))).to)
        ·replace hr := cd_f hb136 hr
         refine .r0 G (.mu 4 (.p0 (v := .pp (g.Z.flatMap (iC .i64)) ((gt [A3.mk (wrapF .i64 ((wrapF .i64 (x_2 * g.Width)) + x_79)) (wrapF .i64 ((wrapF .i64 ((wrapF .i64 (x_2 * g.Width)) + x_79)) + 1)) (wrapF .i64 ((wrapF .i64 ((wrapF .i64 ((wrapF .i64 (x_2 * g.Width)) + x_79)) + g.Width)) + 1)), A3.mk (wrapF .i64 ((wrapF .i64 (x_2 * g.Width)) + x_79)) (wrapF .i64 ((wrapF .i64 ((wrapF .i64 ((wrapF .i64 (x_2 * g.Width)) + x_79)) + g.Width)) + 1)) (wrapF .i64 ((wrapF .i64 ((wrapF .i64 (x_2 * g.Width)) + x_79)) + g.Width))] x_116).e0.toNat * 1)) (tr (ofP_guard hg133)) (.p0 (v := aI64 (gt g.Z (gt [A3.mk (wrapF .i64 ((wrapF .i64 (x_2 * g.Width)) + x_79)) (wrapF .i64 ((wrapF .i64 ((wrapF .i64 (x_2 * g.Width)) + x_79)) + 1)) (wrapF .i64 ((wrapF .i64 ((wrapF .i64 ((wrapF .i64 (x_2 * g.Width)) + x_79)) + g.Width)) + 1)), A3.mk (wrapF .i64 ((wrapF .i64 (x_2 * g.Width)) + x_79)) (wrapF .i64 ((wrapF .i64 ((wrapF .i64 ((wrapF .i64 (x_2 * g.Width)) + x_79)) + g.Width)) + 1)) (wrapF .i64 ((wrapF .i64 ((wrapF .i64 (x_2 * g.Width)) + x_79)) + g.Width))] x_116).e0)) (tr (ofP_some (flat_get (iC_len .i64) (inR_lt hg133) (by decide : 0 < 1) (by omega : (gt [A3.mk (wrapF .i64 ((wrapF .i64 (x_2 * g.Width)) + x_79)) (wrapF .i64 ((wrapF .i64 ((wrapF .i64 (x_2 * g.Width)) + x_79)) + 1)) (wrapF .i64 ((wrapF .i64 ((wrapF .i64 ((wrapF .i64 (x_2 * g.Width)) + x_79)) + g.Width)) + 1)), A3.mk (wrapF .i64 ((wrapF .i64 (x_2 * g.Width)) + x_79)) (wrapF .i64 ((wrapF .i64 ((wrapF .i64 ((wrapF .i64 (x_2 * g.Width)) + x_79)) + g.Width)) + 1)) (wrapF .i64 ((wrapF .i64 ((wrapF .i64 (x_2 * g.Width)) + x_79)) + g.Width))] x_116).e0.toNat * 1 = (gt [A3.mk (wrapF .i64 ((wrapF .i64 (x_2 * g.Width)) + x_79)) (wrapF .i64 ((wrapF .i64 ((wrapF .i64 (x_2 * g.Width)) + x_79)) + 1)) (wrapF .i64 ((wrapF .i64 ((wrapF .i64 ((wrapF .i64 (x_2 * g.Width)) + x_79)) + g.Width)) + 1)), A3.mk (wrapF .i64 ((wrapF .i64 (x_2 * g.Width)) + x_79)) (wrapF .i64 ((wrapF .i64 ((wrapF .i64 ((wrapF .i64 (x_2 * g.Width)) + x_79)) + g.Width)) + 1)) (wrapF .i64 ((wrapF .i64 ((wrapF .i64 (x_2 * g.Width)) + x_79)) + g.Width))] x_116).e0.toNat * 1 + 0) (by kernel_rfl)))) (.p0 (v := aB true) (eB hb134) (.mu 5 (.pure (v := .pp (g.Z.flatMap (iC .i64)) ((gt [A3.mk (wrapF .i64 ((wrapF .i64 (x_2 * g.Width)) + x_79)) (wrapF .i64 ((wrapF .i64 ((wrapF .i64 (x_2 * g.Width)) + x_79)) + 1)) (wrapF .i64 ((wrapF .i64 ((wrapF .i64 ((wrapF .i64 (x_2 * g.Width)) + x_79)) + g.Width)) + 1)), A3.mk (wrapF .i64 ((wrapF .i64 (x_2 * g.Width)) + x_79)) (wrapF .i64 ((wrapF .i64 ((wrapF .i64 ((wrapF .i64 (x_2 * g.Width)) + x_79)) + g.Width)) + 1)) (wrapF .i64 ((wrapF .i64 ((wrapF .i64 (x_2 * g.Width)) + x_79)) + g.Width))] x_116).e1.toNat * 1)) (by kernel_rfl) (tr (ofP_guard hg135)) ?_))))))
         refine .pure (v := aI64 (gt g.Z (gt [A3.mk (wrapF .i64 ((wrapF .i64 (x_2 * g.Width)) + x_79)) (wrapF .i64 ((wrapF .i64 ((wrapF .i64 (x_2 * g.Width)) + x_79)) + 1)) (wrapF .i64 ((wrapF .i64 ((wrapF .i64 ((wrapF .i64 (x_2 * g.Width)) + x_79)) + g.Width)) + 1)), A3.mk (wrapF .i64 ((wrapF .i64 (x_2 * g.Width)) + x_79)) (wrapF .i64 ((wrapF .i64 ((wrapF .i64 ((wrapF .i64 (x_2 * g.Width)) + x_79)) + g.Width)) + 1)) (wrapF .i64 ((wrapF .i64 ((wrapF .i64 (x_2 * g.Width)) + x_79)) + g.Width))] x_116).e1)) (by kernel_rfl) (tr (ofP_some (flat_get (iC_len .i64) (inR_lt hg135) (by decide : 0 < 1) (by omega : (gt [A3.mk (wrapF .i64 ((wrapF .i64 (x_2 * g.Width)) + x_79)) (wrapF .i64 ((wrapF .i64 ((wrapF .i64 (x_2 * g.Width)) + x_79)) + 1)) (wrapF .i64 ((wrapF .i64 ((wrapF .i64 ((wrapF .i64 (x_2 * g.Width)) + x_79)) + g.Width)) + 1)), A3.mk (wrapF .i64 ((wrapF .i64 (x_2 * g.Width)) + x_79)) (wrapF .i64 ((wrapF .i64 ((wrapF .i64 ((wrapF .i64 (x_2 * g.Width)) + x_79)) + g.Width)) + 1)) (wrapF .i64 ((wrapF .i64 ((wrapF .i64 (x_2 * g.Width)) + x_79)) + g.Width))] x_116).e1.toNat * 1 = (gt [A3.mk (wrapF .i64 ((wrapF .i64 (x_2 * g.Width)) + x_79)) (wrapF .i64 ((wrapF .i64 ((wrapF .i64 (x_2 * g.Width)) + x_79)) + 1)) (wrapF .i64 ((wrapF .i64 ((wrapF .i64 ((wrapF .i64 (x_2 * g.Width)) + x_79)) + g.Width)) + 1)), A3.mk (wrapF .i64 ((wrapF .i64 (x_2 * g.Width)) + x_79)) (wrapF .i64 ((wrapF .i64 ((wrapF .i64 ((wrapF .i64 (x_2 * g.Width)) + x_79)) + g.Width)) + 1)) (wrapF .i64 ((wrapF .i64 ((wrapF .i64 (x_2 * g.Width)) + x_79)) + g.Width))] x_116).e1.toNat * 1 + 0) (by kernel_rfl)))) (.pure (v := aB false) (by kernel_rfl) (eB hb136) (.mu 10 (.done (.nh [1, 3, 4, 8, 11, 12, 17, 18, 47, 48, 49, 77] [.own (api_Grid.c g), .own (o_115.flatMap A3_3_int.c), .own ([A3.mk (wrapF .i64 ((wrapF .i64 (x_2 * g.Width)) + x_79)) (wrapF .i64 ((wrapF .i64 ((wrapF .i64 (x_2 * g.Width)) + x_79)) + 1)) (wrapF .i64 ((wrapF .i64 ((wrapF .i64 ((wrapF .i64 (x_2 * g.Width)) + x_79)) + g.Width)) + 1)), A3.mk (wrapF .i64 ((wrapF .i64 (x_2 * g.Width)) + x_79)) (wrapF .i64 ((wrapF .i64 ((wrapF .i64 ((wrapF .i64 (x_2 * g.Width)) + x_79)) + g.Width)) + 1)) (wrapF .i64 ((wrapF .i64 ((wrapF .i64 (x_2 * g.Width)) + x_79)) + g.Width))].flatMap A3_3_int.c), .own [aI64 (gt [A3.mk (wrapF .i64 ((wrapF .i64 (x_2 * g.Width)) + x_79)) (wrapF .i64 ((wrapF .i64 ((wrapF .i64 (x_2 * g.Width)) + x_79)) + 1)) (wrapF .i64 ((wrapF .i64 ((wrapF .i64 ((wrapF .i64 (x_2 * g.Width)) + x_79)) + g.Width)) + 1)), A3.mk (wrapF .i64 ((wrapF .i64 (x_2 * g.Width)) + x_79)) (wrapF .i64 ((wrapF .i64 ((wrapF .i64 ((wrapF .i64 (x_2 * g.Width)) + x_79)) + g.Width)) + 1)) (wrapF .i64 ((wrapF .i64 ((wrapF .i64 (x_2 * g.Width)) + x_79)) + g.Width))] x_116).e0, aI64 (gt [A3.mk (wrapF .i64 ((wrapF .i64 (x_2 * g.Width)) + x_79)) (wrapF .i64 ((wrapF .i64 ((wrapF .i64 (x_2 * g.Width)) + x_79)) + 1)) (wrapF .i64 ((wrapF .i64 ((wrapF .i64 ((wrapF .i64 (x_2 * g.Width)) + x_79)) + g.Width)) + 1)), A3.mk (wrapF .i64 ((wrapF .i64 (x_2 * g.Width)) + x_79)) (wrapF .i64 ((wrapF .i64 ((wrapF .i64 ((wrapF .i64 (x_2 * g.Width)) + x_79)) + g.Width)) + 1)) (wrapF .i64 ((wrapF .i64 ((wrapF .i64 (x_2 * g.Width)) + x_79)) + g.Width))] x_116).e1, aI64 (gt [A3.mk (wrapF .i64 ((wrapF .i64 (x_2 * g.Width)) + x_79)) (wrapF .i64 ((wrapF .i64 ((wrapF .i64 (x_2 * g.Width)) + x_79)) + 1)) (wrapF .i64 ((wrapF .i64 ((wrapF .i64 ((wrapF .i64 (x_2 * g.Width)) + x_79)) + g.Width)) + 1)), A3.mk (wrapF .i64 ((wrapF .i64 (x_2 * g.Width)) + x_79)) (wrapF .i64 ((wrapF .i64 ((wrapF .i64 ((wrapF .i64 (x_2 * g.Width)) + x_79)) + g.Width)) + 1)) (wrapF .i64 ((wrapF .i64 ((wrapF .i64 (x_2 * g.Width)) + x_79)) + g.Width))] x_116).e2]] (.cF (by kernel_rfl) (.skip (.pop (.ru G ?_))))))))
         exact loopF_back (o_115, wrapF .i64 (x_116 + 1)) hr ((Wk.gc [1, 3, 4, 11, 12, 17, 18, 47, 48, 49] [(0, true), (1, false), (2, false)] rfl (pKt (pKo A3_3_int.c A3_3_int.pure o_115 (pKo A3_3_int.c A3_3_int.pure [A3.mk (wrapF .i64 ((wrapF .i64 (x_2 * g.Width)) + x_79)) (wrapF .i64 ((wrapF .i64 ((wrapF .i64 (x_2 * g.Width)) + x_79)) + 1)) (wrapF .i64 ((wrapF .i64 ((wrapF .i64 ((wrapF .i64 (x_2 * g.Width)) + x_79)) + g.Width)) + 1)), A3.mk (wrapF .i64 ((wrapF .i64 (x_2 * g.Width)) + x_79)) (wrapF .i64 ((wrapF .i64 ((wrapF .i64 ((wrapF .i64 (x_2 * g.Width)) + x_79)) + g.Width)) + 1)) (wrapF .i64 ((wrapF .i64 ((wrapF .i64 (x_2 * g.Width)) + x_79)) + g.Width))] trivial)))).to)
       ·replace hr := cd_f hb134 hr
        refine .r0 G (.mu 4 (.p0 (v := .pp (g.Z.flatMap (iC .i64)) ((gt [A3.mk (wrapF .i64 ((wrapF .i64 (x_2 * g.Width)) + x_79)) (wrapF .i64 ((wrapF .i64 ((wrapF .i64 (x_2 * g.Width)) + x_79)) + 1)) (wrapF .i64 ((wrapF .i64 ((wrapF .i64 ((wrapF .i64 (x_2 * g.Width)) + x_79)) + g.Width)) + 1)), A3.mk (wrapF .i64 ((wrapF .i64 (x_2 * g.Width)) + x_79)) (wrapF .i64 ((wrapF .i64 ((wrapF .i64 ((wrapF .i64 (x_2 * g.Width)) + x_79)) + g.Width)) + 1)) (wrapF .i64 ((wrapF .i64 ((wrapF .i64 (x_2 * g.Width)) + x_79)) + g.Width))] x_116).e0.toNat * 1)) (tr (ofP_guard hg133)) (.p0 (v := aI64 (gt g.Z (gt [A3.mk (wrapF .i64 ((wrapF .i64 (x_2 * g.Width)) + x_79)) (wrapF .i64 ((wrapF .i64 ((wrapF .i64 (x_2 * g.Width)) + x_79)) + 1)) (wrapF .i64 ((wrapF .i64 ((wrapF .i64 ((wrapF .i64 (x_2 * g.Width)) + x_79)) + g.Width)) + 1)), A3.mk (wrapF .i64 ((wrapF .i64 (x_2 * g.Width)) + x_79)) (wrapF .i64 ((wrapF .i64 ((wrapF .i64 ((wrapF .i64 (x_2 * g.Width)) + x_79)) + g.Width)) + 1)) (wrapF .i64 ((wrapF .i64 ((wrapF .i64 (x_2 * g.Width)) + x_79)) + g.Width))] x_116).e0)) (tr (ofP_some (flat_get (iC_len .i64) (inR_lt hg133) (by decide : 0 < 1) (by omega : (gt [A3.mk (wrapF .i64 ((wrapF .i64 (x_2 * g.Width)) + x_79)) (wrapF .i64 ((wrapF .i64 ((wrapF .i64 (x_2 * g.Width)) + x_79)) + 1)) (wrapF .i64 ((wrapF .i64 ((wrapF .i64 ((wrapF .i64 (x_2 * g.Width)) + x_79)) + g.Width)) + 1)), A3.mk (wrapF .i64 ((wrapF .i64 (x_2 * g.Width)) + x_79)) (wrapF .i64 ((wrapF .i64 ((wrapF .i64 ((wrapF .i64 (x_2 * g.Width)) + x_79)) + g.Width)) + 1)) (wrapF .i64 ((wrapF .i64 ((wrapF .i64 (x_2 * g.Width)) + x_79)) + g.Width))] x_116).e0.toNat * 1 = (gt [A3.mk (wrapF .i64 ((wrapF .i64 (x_2 * g.Width)) + x_79)) (wrapF .i64 ((wrapF .i64 ((wrapF .i64 (x_2 * g.Width)) + x_79)) + 1)) (wrapF .i64 ((wrapF .i64 ((wrapF .i64 ((wrapF .i64 (x_2 * g.Width)) + x_79)) + g.Width)) + 1)), A3.mk (wrapF .i64 ((wrapF .i64 (x_2 * g.Width)) + x_79)) (wrapF .i64 ((wrapF .i64 ((wrapF .i64 ((wrapF .i64 (x_2 * g.Width)) + x_79)) + g.Width)) + 1)) (wrapF .i64 ((wrapF .i64 ((wrapF .i64 (x_2 * g.Width)) + x_79)) + g.Width))] x_116).e0.toNat * 1 + 0) (by kernel_rfl)))) (.p0 (v := aB false) (eB hb134) (.mu 18 (.done ?_))))))
        refine .nh [1, 3, 4, 8, 11, 12, 17, 18, 47, 48, 49, 77] [.own (api_Grid.c g), .own (o_115.flatMap A3_3_int.c), .own ([A3.mk (wrapF .i64 ((wrapF .i64 (x_2 * g.Width)) + x_79)) (wrapF .i64 ((wrapF .i64 ((wrapF .i64 (x_2 * g.Width)) + x_79)) + 1)) (wrapF .i64 ((wrapF .i64 ((wrapF .i64 ((wrapF .i64 (x_2 * g.Width)) + x_79)) + g.Width)) + 1)), A3.mk (wrapF .i64 ((wrapF .i64 (x_2 * g.Width)) + x_79)) (wrapF .i64 ((wrapF .i64 ((wrapF .i64 ((wrapF .i64 (x_2 * g.Width)) + x_79)) + g.Width)) + 1)) (wrapF .i64 ((wrapF .i64 ((wrapF .i64 (x_2 * g.Width)) + x_79)) + g.Width))].flatMap A3_3_int.c), .own [aI64 (gt [A3.mk (wrapF .i64 ((wrapF .i64 (x_2 * g.Width)) + x_79)) (wrapF .i64 ((wrapF .i64 ((wrapF .i64 (x_2 * g.Width)) + x_79)) + 1)) (wrapF .i64 ((wrapF .i64 ((wrapF .i64 ((wrapF .i64 (x_2 * g.Width)) + x_79)) + g.Width)) + 1)), A3.mk (wrapF .i64 ((wrapF .i64 (x_2 * g.Width)) + x_79)) (wrapF .i64 ((wrapF .i64 ((wrapF .i64 ((wrapF .i64 (x_2 * g.Width)) + x_79)) + g.Width)) + 1)) (wrapF .i64 ((wrapF .i64 ((wrapF .i64 (x_2 * g.Width)) + x_79)) + g.Width))] x_116).e0, aI64 (gt [A3.mk (wrapF .i64 ((wrapF .i64 (x_2 * g.Width)) + x_79)) (wrapF .i64 ((wrapF .i64 ((wrapF .i64 (x_2 * g.Width)) + x_79)) + 1)) (wrapF .i64 ((wrapF .i64 ((wrapF .i64 ((wrapF .i64 (x_2 * g.Width)) + x_79)) + g.Width)) + 1)), A3.mk (wrapF .i64 ((wrapF .i64 (x_2 * g.Width)) + x_79)) (wrapF .i64 ((wrapF .i64 ((wrapF .i64 ((wrapF .i64 (x_2 * g.Width)) + x_79)) + g.Width)) + 1)) (wrapF .i64 ((wrapF .i64 ((wrapF .i64 (x_2 * g.Width)) + x_79)) + g.Width))] x_116).e1, aI64 (gt [A3.mk (wrapF .i64 ((wrapF .i64 (x_2 * g.Width)) + x_79)) (wrapF .i64 ((wrapF .i64 ((wrapF .i64 (x_2 * g.Width)) + x_79)) + 1)) (wrapF .i64 ((wrapF .i64 ((wrapF .i64 ((wrapF .i64 (x_2 * g.Width)) + x_79)) + g.Width)) + 1)), A3.mk (wrapF .i64 ((wrapF .i64 (x_2 * g.Width)) + x_79)) (wrapF .i64 ((wrapF .i64 ((wrapF .i64 ((wrapF .i64 (x_2 * g.Width)) + x_79)) + g.Width)) + 1)) (wrapF .i64 ((wrapF .i64 ((wrapF .i64 (x_2 * g.Width)) + x_79)) + g.Width))] x_116).e2]] (.cF (by kernel_rfl) (.skip (.pop (.ru G ?_))))
        exact loopF_back (o_115, wrapF .i64 (x_116 + 1)) hr ((Wk.gc [1, 3, 4, 11, 12, 17, 18, 47, 48, 49] [(0, true), (1, false), (2, false)] rfl (pKt (pKo A3_3_int.c A3_3_int.pure o_115 (pKo A3_3_int.c A3_3_int.pure [A3.mk (wrapF .i64 ((wrapF .i64 (x_2 * g.Width)) + x_79)) (wrapF .i64 ((wrapF .i64 ((wrapF .i64 (x_2 * g.Width)) + x_79)) + 1)) (wrapF .i64 ((wrapF .i64 ((wrapF .i64 ((wrapF .i64 (x_2 * g.Width)) + x_79)) + g.Width)) + 1)), A3.mk (wrapF .i64 ((wrapF .i64 (x_2 * g.Width)) + x_79)) (wrapF .i64 ((wrapF .i64 ((wrapF .i64 ((wrapF .i64 (x_2 * g.Width)) + x_79)) + g.Width)) + 1)) (wrapF .i64 ((wrapF .i64 ((wrapF .i64 (x_2 * g.Width)) + x_79)) + g.Width))] trivial)))).to)
      ·refine .leave rfl ?_
       obtain rfl := oi hr
       exact ⟨rfl, ((Wk.gc [1, 3, 4, 11, 12, 17, 18] [(0, true), (1, false)] rfl (pKt (pKo A3_3_int.c A3_3_int.pure o_115 trivial))).to)⟩
     ·rintro x st' hq143
      clear hL142
      obtain ⟨rfl, hq143⟩ := hq143
      refine CQ_exit _ rfl (.pop (.wk hq143 (.ru G ?_)))
      exact loopF_back (o_128, wrapF .i64 (x_79 + 1)) hr ((Wk.gc [1, 3, 4, 11, 12, 17, 18] [(0, true), (1, false)] rfl (pKt (pKo A3_3_int.c A3_3_int.pure o_128 trivial))).to)
    ·refine .leave rfl ?_
     obtain rfl := oi hr
     exact ⟨rfl, ((Wk.gc [1, 3, 11, 12] [(0, true), (1, false)] rfl (pKt (pKo A3_3_int.c A3_3_int.pure o_78 trivial))).to)⟩
   ·rintro x st' hq146
    clear hL145
    obtain ⟨rfl, hq146⟩ := hq146
    refine CQ_exit _ rfl (.pop (.wk hq146 (.ru G ?_)))
    exact loopF_back (o_111, wrapF .i64 (x_2 + 1)) hr ((Wk.gc [1, 3, 11, 12] [(0, true), (1, false)] rfl (pKt (pKo A3_3_int.c A3_3_int.pure o_111 trivial))).to)
  ·refine .leave rfl ?_
   obtain rfl := oi hr
   exact ⟨rfl, ((Wk.gc [3] [(1, false)] rfl (pKo A3_3_int.c A3_3_int.pure o_1 trivial)).to)⟩
 ·rintro x st' hq149
  clear hL148
  obtain ⟨rfl, hq149⟩ := hq149
  refine CQ_exit _ rfl (.wk hq149 (.seq (.r3 G 86 [(2, .hs 0 0 o_74.length 3)] (.ret ?_))))
  obtain rfl := oi hr
  exact FinQ.ret (vs := [.hs 0 0 o_74.length 3]) (by kernel_rfl) (Sn.hs rfl (.inl rfl) (SnC.pure (ids_flat A3_3_int.pure _)) (fun h => flat_nil0 h))

theorem volume_Level_1_inj {k : Int} {p : Int} {p' : Int} {p'' : Int} {p''' : Int} {p'''' : Int} {p''''' : List Int} {p'''''' : Int} {k_ : Int} {p_ : Int} {p'_ : Int} {p''_ : Int} {p'''_ : Int} {p''''_ : Int} {p'''''_ : List Int} {p''''''_ : Int} (h : ([.at (.int .i64 k), .pp [.at (.int .i64 p), .at (.int .i64 p'), .at (.int .i64 p''), .at (.int .i64 p'''), .at (.int .i64 p''''), slT (iC .i64) p'''''] 0, .pp [.at (.int .i64 p'''''')] 0] : List AV) = [.at (.int .i64 k_), .pp [.at (.int .i64 p_), .at (.int .i64 p'_), .at (.int .i64 p''_), .at (.int .i64 p'''_), .at (.int .i64 p''''_), slT (iC .i64) p'''''_] 0, .pp [.at (.int .i64 p''''''_)] 0]) : k = k_ ∧ p = p_ ∧ p' = p'_ ∧ p'' = p''_ ∧ p''' = p'''_ ∧ p'''' = p''''_ ∧ p''''' = p'''''_ ∧ p'''''' = p''''''_ := by
 simp only [List.cons.injEq, AV.agg.injEq, AV.at.injEq, Value.int.injEq, Value.bool.injEq, AV.fn.injEq, AV.pp.injEq, true_and, and_true, slT_inj_int] at h
 simp_all
theorem volume_Level_1_cg (n : Nat) {k : Int} {p : Int} {p' : Int} {p'' : Int} {p''' : Int} {p'''' : Int} {p''''' : List Int} {p'''''' : Int} {k_ : Int} {p_ : Int} {p'_ : Int} {p''_ : Int} {p'''_ : Int} {p''''_ : Int} {p'''''_ : List Int} {p''''''_ : Int} (h : ([.at (.int .i64 k), .pp [.at (.int .i64 p), .at (.int .i64 p'), .at (.int .i64 p''), .at (.int .i64 p'''), .at (.int .i64 p''''), slT (iC .i64) p'''''] 0, .pp [.at (.int .i64 p'''''')] 0] : List AV) = [.at (.int .i64 k_), .pp [.at (.int .i64 p_), .at (.int .i64 p'_), .at (.int .i64 p''_), .at (.int .i64 p'''_), .at (.int .i64 p''''_), slT (iC .i64) p'''''_] 0, .pp [.at (.int .i64 p''''''_)] 0]) : volume_Level_1 n k p p' p'' p''' p'''' p''''' p'''''' = volume_Level_1 n k_ p_ p'_ p''_ p'''_ p''''_ p'''''_ p''''''_ := by
 obtain ⟨rfl, rfl, rfl, rfl, rfl, rfl, rfl, rfl⟩ := volume_Level_1_inj h
 rfl
theorem volume_Level_1_ok (n : Nat) (k : Int) (p : Int) (p' : Int) (p'' : Int) (p''' : Int) (p'''' : Int) (p''''' : List Int) (p'''''' : Int) (r : Int) (hr : volume_Level_1 n k p p' p'' p''' p'''' p''''' p'''''' = some r) : FnOk Tryz.prog 39 [aI64 k, .pp [aI64 p, aI64 p', aI64 p'', aI64 p''', aI64 p'''', sI64 p'''''] 0, .pp [aI64 p''''''] 0] (aI64 r) := by
 unfold volume_Level_1 at hr
 refine FnOk.bd G Tryz.func39 [.tmp 4] ?_
 unfold Tryz.f39
 simp only [gS]
 refine .seq (.r4 G [0, 1, 2] [] (.seq ?_))
 obtain ⟨hg1, hr⟩ := gd hr
 refine .regionT G callOf_nil (.mu 3 (.pure (v := .pp (p'''''.flatMap (iC .i64)) (k.toNat * 1)) (by kernel_rfl) (tr (ofP_guard hg1)) (by kernel_rfl) (.pure (v := aI64 (gt p''''' k)) (by kernel_rfl) (tr (ofP_some (flat_get (iC_len .i64) (inR_lt hg1) (by decide : 0 < 1) (by omega : k.toNat * 1 = k.toNat * 1 + 0) (by kernel_rfl)))) (by kernel_rfl) (.mu 3 ?_))))
 refine .done ⟨by kernel_rfl, ?_⟩
 refine .ret ?_
 obtain rfl := oi hr
 exact FinQ.r1 [aI64 (wrapF .i64 ((gt p''''' k) - p''''''))]

theorem volume_total_of_volume_Level_1_ok (n : Nat) (g : api_Grid) (l : List (A3 Int)) (c : Int) (c' : Int) (c'' : Int) (c''' : Int) (c'''' : Int) (c''''' : List Int) (c'''''' : Int) (r : api_Rat × api_Rat) (hr : volume_total_of_volume_Level_1 n g l c c' c'' c''' c'''' c''''' c'''''' = some r) : FnOk Tryz.prog 37 [.agg (api_Grid.c g), slT A3_3_int.c l, .fn 39 [] [.pp [aI64 c, aI64 c', aI64 c'', aI64 c''', aI64 c'''', sI64 c'''''] 0, .pp [aI64 c''''''] 0]] (.tup [.agg (api_Rat.c r.1), .agg (api_Rat.c r.2)]) := by
 unfold volume_total_of_volume_Level_1 at hr
 refine FnOk.bd G Tryz.func37 [.cell 6 33, .cell 7 33] ?_
 unfold Tryz.f37
 simp only [gS]
 refine .seq (.r5 G [1, 2] [(3, .hp 0 0), (6, .hp 1 0), (7, .hp 2 0)] [.own (api_Grid.c g), .own [aB false, nS, aB false, nS], .own [aB false, nS, aB false, nS]] (.seq ?_))
 obtain ⟨v1, hc2, v3, hc4, hr⟩ := bd2 hr
 refine .gn G (ca1 (ok0 (fraction_Whole_ok n 0 v1 hc2)) (ca3 (ok0 (fraction_Whole_ok n 0 v3 hc4)))) (.ca cf0 (.ca (cfA (fun h => by rw [sv hc4 hc2 (fraction_Whole_cg n h)]) cf0) (.mu 2 (.done (.nh [1, 2, 3, 6, 7] [.own (api_Grid.c g), .own (api_Rat.c v1), .own (api_Rat.c v3)] (.seq (.seq (.r4 G [2, 3, 6, 7] [(15, slT A3_3_int.c l), (16, aI64 (l.length : Int)), (17, aI64 0)] (.block ?_)))))))))
 replace hr := bd hr; obtain ⟨o128, hL129, hr⟩ := hr
 refine .loopO (σ := fun z0 => match z0 with | (a_68, a_69, a_70, a_71, b_72, b_73, b_74, b_75, x_76) => ⟨mkS 60 0 [(2, .fn 39 [] [.pp [aI64 c, aI64 c', aI64 c'', aI64 c''', aI64 c'''', sI64 c'''''] 0, .pp [aI64 c''''''] 0]), (3, .hp 0 0), (6, .hp 1 0), (7, .hp 2 0), (15, slT A3_3_int.c l), (16, aI64 (l.length : Int)), (17, aI64 x_76)], [.own (api_Grid.c g), .own [aB a_68, sU32 a_69, aB a_70, sU32 a_71], .own [aB b_72, sU32 b_73, aB b_74, sU32 b_75]]⟩) (Q := fun x st' => match (generalizing := false) o128 with | (a_98, a_99, a_100, a_101, b_102, b_103, b_104, b_105) => x = .exit 0 ∧ Wk 0 st' ⟨mkS 60 0 [(3, .hp 0 0), (6, .hp 1 0), (7, .hp 2 0)], [.own (api_Grid.c g), .own [aB a_98, sU32 a_99, aB a_100, sU32 a_101], .own [aB b_102, sU32 b_103, aB b_104, sU32 b_105]]⟩) hL129 ((Wk.gc [2, 3, 6, 7, 15, 16, 17] [(0, true), (1, true), (2, true)] rfl trivial).to) ?_ ?_
 ·clear hr
  rintro m ⟨a_68, a_69, a_70, a_71, b_72, b_73, b_74, b_75, x_76⟩ hr
  show CQ _ _ _ _ _ ⟨_, _⟩
  refine .seq (.r4 G [2, 3, 6, 7, 15, 16, 17] [(18, aB (decide (x_76 < (l.length : Int))))] (.seq ?_))
  refine .cd hr ?_ ?_ <;> intro hb108 hr
  ·refine .skip (.seq (.block (.seq ?_)))
   obtain ⟨hg109, hr⟩ := gd hr
   refine .r0 G (.p0 (v := .pp (l.flatMap A3_3_int.c) (x_76.toNat * 3)) (tr (ofP_guard hg109)) (.p0 (v := .agg [aI64 (gt l x_76).e0, aI64 (gt l x_76).e1, aI64 (gt l x_76).e2]) (Eq.trans (b := ORes.ofP (guardV (decide (3 ≤ ((l.flatMap A3_3_int.c).drop (x_76.toNat * 3)).length)) (.agg (((l.flatMap A3_3_int.c).drop (x_76.toNat * 3)).take 3)))) (by kernel_rfl) (flat_load A3_3_int.len (inR_lt hg109) (by decide) (by omega : x_76.toNat * 3 = x_76.toNat * 3 + 0) (by kernel_rfl))) (.mu 2 (.done (.nh [2, 3, 6, 7, 9, 15, 16, 17] [.own (api_Grid.c g), .own [aB a_68, sU32 a_69, aB a_70, sU32 a_71], .own [aB b_72, sU32 b_73, aB b_74, sU32 b_75], .own [aI64 (gt l x_76).e0, aI64 (gt l x_76).e1, aI64 (gt l x_76).e2]] (.seq ?_))))))
   obtain ⟨v110, hc111, v112, hc113, v114, hc115, hr⟩ := bd3 hr
   obtain ⟨v116, hc117, v118, hc119, v120, hc121, hr⟩ := bd3 hr
   obtain ⟨v122, hc123, hr⟩ := bd hr
   refine .tn G (ca1 (ok0 (volume_Level_1_ok n (gt l x_76).e0 c c' c'' c''' c'''' c''''' c'''''' v110 hc111)) (ca1 (ok0 (fraction_Whole_ok n v110 v112 hc113)) (ca1 (ok0 (volume_Level_1_ok n (gt l x_76).e1 c c' c'' c''' c'''' c''''' c'''''' v114 hc115)) (ca1 (ok0 (fraction_Whole_ok n v114 v116 hc117)) (ca1 (ok0 (volume_Level_1_ok n (gt l x_76).e2 c c' c'' c''' c'''' c''''' c'''''' v118 hc119)) (ca1 (ok0 (fraction_Whole_ok n v118 v120 hc121)) (ca3 (ok0 (volume_Triangle_ok n v112 v116 v120 v122 hc123))))))))) (.mu 3 (.ca cf0 (.ca (cfF cf0) (.mu 3 (.ca (cfA (fun h => by rw [sv hc115 hc111 (volume_Level_1_cg n h)]) (cfF cf0)) (.ca (cfF (cfA (fun h => by rw [sv hc117 hc113 (fraction_Whole_cg n h)]) (cfF cf0))) (.mu 3 (.ca (cfA (fun h => by rw [sv hc119 hc111 (volume_Level_1_cg n h)]) (cfF (cfA (fun h => by rw [sv hc119 hc115 (volume_Level_1_cg n h)]) (cfF cf0)))) (.ca (cfF (cfA (fun h => by rw [sv hc121 hc113 (fraction_Whole_cg n h)]) (cfF (cfA (fun h => by rw [sv hc121 hc117 (fraction_Whole_cg n h)]) (cfF cf0))))) (.ca (cfF (cfF (cfF (cfF (cfF (cfF cf0)))))) (.mu 7 ?_)))))))))))
   refine .done ⟨by kernel_rfl, ?_⟩
   refine .nh [2, 3, 6, 7, 10, 11, 15, 16, 17] [.own (api_Grid.c g), .own [aB a_68, sU32 a_69, aB a_70, sU32 a_71], .own [aB b_72, sU32 b_73, aB b_74, sU32 b_75], .own [aI64 (gt l x_76).e0, aI64 (gt l x_76).e1, aI64 (gt l x_76).e2], .own (api_Rat.c v122.1), .own (api_Rat.c v122.2)] ?_
   obtain ⟨v124, hc125, v126, hc127, hr⟩ := bd2 hr
   refine .tn G (ca1 (ok0 (fraction_Add_ok n (api_Rat.mk (api_Int.mk a_68 a_69) (api_Int.mk a_70 a_71)) v122.1 v124 hc125)) (ca3 (ok0 (fraction_Add_ok n (api_Rat.mk (api_Int.mk b_72 b_73) (api_Int.mk b_74 b_75)) v122.2 v126 hc127)))) (.mu 2 (.ca cf0 (.mu 2 (.ca (cfA (fun h => by rw [sv hc127 hc125 (fraction_Add_cg n h)]) cf0) (.mu 2 ?_)))))
   refine .done ⟨by kernel_rfl, ?_⟩
   refine .pop (.ru G ?_)
   exact loopF_back (v124.Num.Negative, v124.Num.Groups, v124.Den.Negative, v124.Den.Groups, v126.Num.Negative, v126.Num.Groups, v126.Den.Negative, v126.Den.Groups, wrapF .i64 (x_76 + 1)) hr ((Wk.gc [2, 3, 6, 7, 15, 16, 17] [(0, true), (1, true), (2, true)] rfl trivial).to)
  ·refine .leave rfl ?_
   obtain rfl := oi hr
   exact ⟨rfl, ((Wk.gc [3, 6, 7] [(0, true), (1, true), (2, true)] rfl trivial).to)⟩
 ·rcases o128 with ⟨a_98, a_99, a_100, a_101, b_102, b_103, b_104, b_105⟩
  rintro x st' hq130
  clear hL129
  obtain ⟨rfl, hq130⟩ := hq130
  refine CQ_exit _ rfl (.wk hq130 (.seq ?_))
  obtain ⟨v131, hc132, hr⟩ := bd hr
  refine .g1 G (ok0 (fraction_Whole_ok n (wrapF .i64 ((wrapF .i64 (g.Step * g.Step)).tdiv 2)) v131 hc132)) (.mu 6 (.ca cf0 (.mu 2 (.done (.nh [6, 7, 12] [.own (api_Grid.c g), .own [aB a_98, sU32 a_99, aB a_100, sU32 a_101], .own [aB b_102, sU32 b_103, aB b_104, sU32 b_105], .own (api_Rat.c v131)] (.seq ?_))))))
  obtain ⟨v133, hc134, v135, hc136, hr⟩ := bd2 hr
  refine .tn G (ca1 (ok0 (fraction_Mul_ok n v131 (api_Rat.mk (api_Int.mk a_98 a_99) (api_Int.mk a_100 a_101)) v133 hc134)) (ca3 (ok0 (fraction_Mul_ok n v131 (api_Rat.mk (api_Int.mk b_102 b_103) (api_Int.mk b_104 b_105)) v135 hc136)))) (.mu 2 (.ca cf0 (.mu 2 (.ca (cfA (fun h => by rw [sv hc136 hc134 (fraction_Mul_cg n h)]) cf0) (.mu 2 ?_)))))
  refine .done ⟨by kernel_rfl, ?_⟩
  refine .nh [6, 7] [.own (api_Grid.c g), .own (api_Rat.c v133), .own (api_Rat.c v135), .own (api_Rat.c v131)] (.ret ?_)
  obtain rfl := oi hr
  exact FinQ.ret (vs := [.agg (api_Rat.c v133), .agg (api_Rat.c v135)]) (by kernel_rfl) (Sn.tup (Sp (Sp SnL.nil)))

theorem volume_Level_ok (n : Nat) (g : api_Grid) (z : Int) (r : api_Rat × api_Rat × Int) (hr : volume_Level n g z = some r) : FnOk Tryz.prog 8 [.agg (api_Grid.c g), aI64 z] (.tup [.agg (api_Rat.c r.1), .agg (api_Rat.c r.2.1), aI64 r.2.2]) := by
 unfold volume_Level at hr
 refine FnOk.bd G Tryz.func8 [.cell 4 33, .cell 5 33, .tmp 6] ?_
 unfold Tryz.f8
 simp only [gS]
 refine .seq (.r2 G 29 [(2, .hp 0 0), (3, .hp 1 0), (4, .hp 2 0), (5, .hp 3 0)] [.own (api_Grid.c g), .own [aI64 z], .own [aB false, nS, aB false, nS], .own [aB false, nS, aB false, nS]] (.seq (.seq ?_)))
 obtain ⟨v1, hc2, hr⟩ := bd hr
 refine .g1 G (ok0 (terrain_Check_ok n g v1 hc2)) (.mu 1 (.ca cf0 (.mu 1 (.done (.nh [2, 3, 4, 5, 7] [.own (api_Grid.c g), .own [aI64 z], .own [aB false, nS, aB false, nS], .own [aB false, nS, aB false, nS]] (.seq (.r4 G [2, 3, 4, 5, 7] [(11, aB ((v1 : Int) != 0))] ?_)))))))
 refine .cd hr ?_ ?_ <;> intro hb4 hr
 ·refine .seq (.r4 G [4, 5] [(6, aI64 v1)] (.ret ?_))
  obtain rfl := oi hr
  exact FinQ.ret (vs := [.agg [aB false, nS, aB false, nS], .agg [aB false, nS, aB false, nS], aI64 v1]) (by kernel_rfl) (Sn.tup (SnL.cons (Sn.agg (Sp (SnL.cons Sn.nilsl (Sp (SnL.cons Sn.nilsl SnL.nil))))) (SnL.cons (Sn.agg (Sp (SnL.cons Sn.nilsl (Sp (SnL.cons Sn.nilsl SnL.nil))))) (Sp SnL.nil))))
 ·refine .skip (.seq (.seq ?_))
  obtain ⟨v5, hc6, hr⟩ := bd hr
  refine .g1 G (ok0 (volume_far_ok n z v5 hc6)) (.mu 1 (.ca cf0 (.done (.nh [2, 3, 4, 5, 16] [.own (api_Grid.c g), .own [aI64 z], .own [aB false, nS, aB false, nS], .own [aB false, nS, aB false, nS]] ?_))))
  refine .cd hr ?_ ?_ <;> intro hb8 hr
  ·refine .seq (.r4 G [4, 5] [(6, aI64 2)] (.ret ?_))
   obtain rfl := oi hr
   exact FinQ.ret (vs := [.agg [aB false, nS, aB false, nS], .agg [aB false, nS, aB false, nS], aI64 2]) (by kernel_rfl) (Sn.tup (SnL.cons (Sn.agg (Sp (SnL.cons Sn.nilsl (Sp (SnL.cons Sn.nilsl SnL.nil))))) (SnL.cons (Sn.agg (Sp (SnL.cons Sn.nilsl (Sp (SnL.cons Sn.nilsl SnL.nil))))) (Sp SnL.nil))))
  ·refine .skip (.seq (.wk (((Wk.fix 0 (cs := (api_Grid.c g)) (by kernel_rfl)).trans (Wk.fix 1 (cs := [aI64 z]) (by kernel_rfl))).to (c := ⟨mkS 29 0 [(2, .hp 0 0), (3, .hp 1 0), (4, .hp 2 0), (5, .hp 3 0), (16, aB v5)], [.fix (api_Grid.c g), .fix [aI64 z], .own [aB false, nS, aB false, nS], .own [aB false, nS, aB false, nS]]⟩) (by kernel_rfl)) ?_))
   obtain ⟨v9, hc10, v11, hc12, hr⟩ := bd2 hr
   refine .tn G (ca1 (ok0 (volume_triangles_ok n g v9 hc10)) (ca3 (callOk_ref (args := [.agg (api_Grid.c g), slT A3_3_int.c v9, .fn 39 [] [.hp 0 0, .hp 1 0]]) (l := [0, 1]) (Sp (Sp (SnL.cons (Sn.fn SnL.nil (SnL.cons (Sn.hp rfl (.inr rfl) (SnC.cons (Sn.pure rfl) (SnC.cons (Sn.pure rfl) (SnC.cons (Sn.pure rfl) (SnC.cons (Sn.pure rfl) (SnC.cons (Sn.pure rfl) (SnC.cons (Sn.pure rfl) SnC.nil))))))) (SnL.cons (Sn.hp rfl (.inr rfl) (SnC.cons (Sn.pure rfl) SnC.nil)) SnL.nil))) SnL.nil))) (volume_total_of_volume_Level_1_ok n g v9 g.X0 g.Y0 g.Step g.Width g.Height g.Z z v11 hc12)))) (.mu 2 (.ca cf0 (.mu 1 (.ca (cfF cf0) (.mu 5 ?_)))))
   refine .done ⟨by kernel_rfl, ?_⟩
   refine .nh [4, 5] [.fix (api_Grid.c g), .fix [aI64 z], .own (api_Rat.c v11.1), .own (api_Rat.c v11.2)] (.seq (.regionT G callOf_nil (.mu 5 ?_)))
   refine .done ⟨by kernel_rfl, ?_⟩
   refine .nh [4, 5, 6] [.fix (api_Grid.c g), .fix [aI64 z], .own (api_Rat.c v11.1), .own (api_Rat.c v11.2)] (.ret ?_)
   obtain rfl := oi hr
   exact FinQ.ret (vs := [.agg (api_Rat.c v11.1), .agg (api_Rat.c v11.2), aI64 0]) (by kernel_rfl) (Sn.tup (Sp (Sp (Sp SnL.nil))))

theorem volume_Area_ok (n : Nat) (g : api_Grid) (r : Int × Int) (hr : volume_Area n g = some r) : FnOk Tryz.prog 9 [.agg (api_Grid.c g)] (.tup [aI64 r.1, aI64 r.2]) := by
 unfold volume_Area at hr
 refine FnOk.bd G Tryz.func9 [.tmp 2, .tmp 3] ?_
 unfold Tryz.f9
 simp only [gS]
 refine .seq (.r2 G 19 [(1, .hp 0 0)] [.own (api_Grid.c g)] (.seq (.seq ?_)))
 obtain ⟨v1, hc2, hr⟩ := bd hr
 refine .g1 G (ok0 (terrain_Check_ok n g v1 hc2)) (.mu 1 (.ca cf0 (.mu 1 (.done (.nh [1, 4] [.own (api_Grid.c g)] (.seq (.r4 G [1, 4] [(8, aB ((v1 : Int) != 0))] ?_)))))))
 refine .cd hr ?_ ?_ <;> intro hb3 hr
 ·refine .seq (.ru G (.ret ?_))
  obtain rfl := oi hr
  exact FinQ.ret (vs := [aI64 0, aI64 v1]) (by kernel_rfl) (Sn.tup (Sp (Sp SnL.nil)))
 ·refine .skip (.seq ?_)
  obtain ⟨v4, hc5, hr⟩ := bd hr
  refine .t1 G (ok0 (volume_triangles_ok n g v4 hc5)) (.mu 1 (.ca cf0 (.mu 9 ?_)))
  refine .done ⟨by kernel_rfl, ?_⟩
  refine .ret ?_
  obtain rfl := oi hr
  exact FinQ.ret (vs := [aI64 (wrapF .i64 ((wrapF .i64 ((v4.length : Int) * g.Step)) * g.Step)), aI64 0]) (by kernel_rfl) (Sn.tup (Sp (Sp SnL.nil)))

theorem fiducialref01_Valid_inj {x' : api_Int} {x'_ : api_Int} (h : ([.agg [.at (.bool x'.Negative), slT (iC .u32) x'.Groups]] : List AV) = [.agg [.at (.bool x'_.Negative), slT (iC .u32) x'_.Groups]]) : x' = x'_ := by
 obtain ⟨_, _⟩ := x'
 obtain ⟨_, _⟩ := x'_
 simp only [List.cons.injEq, AV.agg.injEq, AV.at.injEq, Value.int.injEq, Value.bool.injEq, AV.fn.injEq, AV.pp.injEq, true_and, and_true, slT_inj_int] at h
 simp_all
theorem fiducialref01_Valid_cg (n : Nat) {x' : api_Int} {x'_ : api_Int} (h : ([.agg [.at (.bool x'.Negative), slT (iC .u32) x'.Groups]] : List AV) = [.agg [.at (.bool x'_.Negative), slT (iC .u32) x'_.Groups]]) : fiducialref01_Valid n x' = fiducialref01_Valid n x'_ := by
 obtain rfl := fiducialref01_Valid_inj h
 rfl
theorem fiducialref01_Valid_ok (n : Nat) (x' : api_Int) (r : Bool) (hr : fiducialref01_Valid n x' = some r) : FnOk Tryz.prog 53 [.agg (api_Int.c x')] (aB r) := by
 unfold fiducialref01_Valid at hr
 refine FnOk.bd G Tryz.func53 [.tmp 2] ?_
 unfold Tryz.f53
 simp only [gS]
 refine .seq (.r2 G 31 [(1, .hp 0 0)] [.own (api_Int.c x')] (.seq (.r4 G [1] [(3, aI64 (x'.Groups.length : Int))] (.seq (.seq (.r4 G [1, 3] [(4, aI64 0)] (.block ?_)))))))
 replace hr := bd hr; obtain ⟨o9, hL10, hr⟩ := hr
 refine .loopO (σ := fun z0 => match z0 with | i_1 => ⟨mkS 31 0 [(1, .hp 0 0), (3, aI64 (x'.Groups.length : Int)), (4, aI64 i_1)], [.own (api_Int.c x')]⟩) (Q := fun x st' => match (generalizing := false) o9 with | .inl _ => x = .exit 0 ∧ Wk 0 st' ⟨mkS 31 0 [(1, .hp 0 0), (3, aI64 (x'.Groups.length : Int))], [.own (api_Int.c x')]⟩ | .inr (r0) => x = .ret ∧ FinQ Tryz.prog [.tmp 2] (aB r0) .ret st') hL10 ((Wk.gc [1, 3, 4] [(0, true)] rfl trivial).to) ?_ ?_
 ·clear hr
  rintro m i_1 hr
  show CQ _ _ _ _ _ ⟨_, _⟩
  refine .seq (.seq (.r4 G [1, 3, 4] [(10, aB (decide (i_1 < (x'.Groups.length : Int))))] ?_))
  refine .cd hr ?_ ?_ <;> intro hb6 hr
  ·refine .skip (.seq (.block (.seq ?_)))
   obtain ⟨hg7, hr⟩ := gd hr
   refine .r0 G (.mu 3 (.p0 (v := .pp (x'.Groups.flatMap (iC .u32)) (i_1.toNat * 1)) (tr (ofP_guard hg7)) (.p0 (v := aU32 (gt x'.Groups i_1)) (tr (ofP_some (flat_get (iC_len .u32) (inR_lt hg7) (by decide : 0 < 1) (by omega : i_1.toNat * 1 = i_1.toNat * 1 + 0) (by kernel_rfl)))) (.mu 1 (.done (.nh [1, 3, 4, 18] [.own (api_Int.c x')] ?_))))))
   refine .cd hr ?_ ?_ <;> intro hb8 hr
   ·refine .seq (.ru G (.ret ?_))
    obtain rfl := oi hr
    exact ⟨rfl, FinQ.ret (vs := [aB false]) (by kernel_rfl) (Sn.pure rfl)⟩
   ·refine .skip (.pop (.ru G ?_))
    exact loopF_back (wrapF .i64 (i_1 + 1)) hr ((Wk.gc [1, 3, 4] [(0, true)] rfl trivial).to)
  ·refine .leave rfl ?_
   obtain rfl := oi hr
   exact ⟨rfl, ((Wk.gc [1, 3] [(0, true)] rfl trivial).to)⟩
 ·rcases o9 with ⟨⟩ | r0
  ·rintro x st' hq11
   clear hL10
   obtain ⟨rfl, hq11⟩ := hq11
   refine CQ_exit _ rfl (.wk hq11 (.seq (.seq (.r4 G [1, 3] [(20, aB (((x'.Groups.length : Int) : Int) == 0))] ?_))))
   refine .cd hr ?_ ?_ <;> intro hb12 hr
   ·refine .seq (.ru G (.ret ?_))
    obtain rfl := oi hr
    exact FinQ.r1 [aB (!x'.Negative)]
   ·refine .skip (.seq ?_)
    obtain ⟨hg13, hr⟩ := gd hr
    refine .r0 G (.mu 4 (.p0 (v := .pp (x'.Groups.flatMap (iC .u32)) ((wrapF .i64 ((x'.Groups.length : Int) - 1)).toNat * 1)) (tr (ofP_guard hg13)) (.p0 (v := aU32 (gt x'.Groups (wrapF .i64 ((x'.Groups.length : Int) - 1)))) (tr (ofP_some (flat_get (iC_len .u32) (inR_lt hg13) (by decide : 0 < 1) (by omega : (wrapF .i64 ((x'.Groups.length : Int) - 1)).toNat * 1 = (wrapF .i64 ((x'.Groups.length : Int) - 1)).toNat * 1 + 0) (by kernel_rfl)))) (.mu 2 (.done (.ret ?_))))))
    obtain rfl := oi hr
    exact FinQ.r1 [aB (((gt x'.Groups (wrapF .i64 ((x'.Groups.length : Int) - 1))) : Int) != 0)]
  ·rintro x st' hq11
   clear hL10
   obtain ⟨rfl, hq11⟩ := hq11
   obtain rfl := oi hr
   exact CQ_ret _ hq11

theorem fiducialref01_Value_inj {x' : api_Int} {x'_ : api_Int} (h : ([.agg [.at (.bool x'.Negative), slT (iC .u32) x'.Groups]] : List AV) = [.agg [.at (.bool x'_.Negative), slT (iC .u32) x'_.Groups]]) : x' = x'_ := by
 obtain ⟨_, _⟩ := x'
 obtain ⟨_, _⟩ := x'_
 simp only [List.cons.injEq, AV.agg.injEq, AV.at.injEq, Value.int.injEq, Value.bool.injEq, AV.fn.injEq, AV.pp.injEq, true_and, and_true, slT_inj_int] at h
 simp_all
theorem fiducialref01_Value_cg (n : Nat) {x' : api_Int} {x'_ : api_Int} (h : ([.agg [.at (.bool x'.Negative), slT (iC .u32) x'.Groups]] : List AV) = [.agg [.at (.bool x'_.Negative), slT (iC .u32) x'_.Groups]]) : fiducialref01_Value n x' = fiducialref01_Value n x'_ := by
 obtain rfl := fiducialref01_Value_inj h
 rfl
theorem fiducialref01_Value_ok (n : Nat) (x' : api_Int) (r : api_Int) (hr : fiducialref01_Value n x' = some r) : FnOk Tryz.prog 90 [.agg (api_Int.c x')] (.agg (api_Int.c r)) := by
 unfold fiducialref01_Value at hr
 refine FnOk.bd G Tryz.func90 [.cell 2 31] ?_
 unfold Tryz.f90
 simp only [gS]
 refine .seq (.r2 G 14 [(1, .hp 0 0), (2, .hp 1 0)] [.own (api_Int.c x'), .own [aB false, nS]] (.seq (.seq ?_)))
 obtain ⟨v1, hc2, hr⟩ := bd hr
 refine .g1 G (ok0 (fiducialref01_Valid_ok n x' v1 hc2)) (.mu 1 (.ca cf0 (.mu 1 (.done (.nh [1, 2, 5] [.own (api_Int.c x'), .own [aB false, nS]] ?_)))))
 refine .cd hr ?_ ?_ <;> intro hb3 hr
 ·refine .seq (.r4 G [2] [] (.ret ?_))
  obtain rfl := oi hr
  exact FinQ.ret (vs := [.agg [aB false, nS]]) (by kernel_rfl) (Sn.agg (Sp (SnL.cons Sn.nilsl SnL.nil)))
 ·refine .skip (.seq ?_)
  obtain ⟨hg4, hg5, hr⟩ := gd2 hr
  refine .regionT G callOf_nil (.mu 5 (.eff (v := .hs 3 0 x'.Groups.length 1) (ws := [(2, .dead), (3, .own (x'.Groups.flatMap (iC .u32)))]) (by kernel_rfl) (Eq.trans (b := appS (decide (((x'.Groups.flatMap (iC .u32))).length = x'.Groups.length * 1)) (x'.Groups.flatMap (iC .u32)) x'.Groups.length (fun z1 z2 => guardO (decide (0 + 0 * 1 ≤ (([] : List Int).flatMap (iC .u32)).length) && decide ((0 + z2) * 4 ≤ 140737488355328) && decide (0 + z2 ≤ 4611686018427387904)) (some (.eff (.hs 3 0 (0 + z2) 1) [(2, .dead), (3, .own (((([] : List Int).flatMap (iC .u32)).drop 0).take (0 * 1) ++ z1))])))) (by kernel_rfl) (appS_t (flat_lenB (iC_len _)) rfl (app_own (l := ([] : List Int)) (xs := x'.Groups) (iC_len _) rfl rfl rfl hg4 hg5))) (by kernel_rfl) (.mu 2 ?_)))
  refine .done ⟨by kernel_rfl, ?_⟩
  refine .nh [2] [.own (api_Int.c x'), .own [aB x'.Negative, .hs 3 0 x'.Groups.length 1], .dead, .own (x'.Groups.flatMap (iC .u32))] (.ret ?_)
  obtain rfl := oi hr
  exact FinQ.ret (vs := [.agg [aB x'.Negative, .hs 3 0 x'.Groups.length 1]]) (by kernel_rfl) (Sn.agg (Sp (SnL.cons (Sn.hs rfl (.inl rfl) (SnC.pure (ids_flat (iC_pure _) _)) (fun h => flat_nil0 h)) SnL.nil)))

theorem fiducialref01_Sign_ok (n : Nat) (x' : api_Int) (r : Int) (hr : fiducialref01_Sign n x' = some r) : FnOk Tryz.prog 51 [.agg (api_Int.c x')] (aI64 r) := by
 unfold fiducialref01_Sign at hr
 refine FnOk.bd G Tryz.func51 [.tmp 2] ?_
 unfold Tryz.f51
 simp only [gS]
 refine .seq (.r2 G 11 [(1, .hp 0 0)] [.own (api_Int.c x')] (.seq ?_))
 obtain ⟨v1, hc2, hr⟩ := bd hr
 refine .g1 G (ok0 (fiducialref01_Value_ok n x' v1 hc2)) (.mu 1 (.ca cf0 (.mu 1 (.done (.nh [1] [.own (api_Int.c v1)] (.seq (.seq (.r4 G [1] [(8, aB (((v1.Groups.length : Int) : Int) == 0))] ?_))))))))
 refine .cd hr ?_ ?_ <;> intro hb3 hr
 ·refine .seq (.ru G (.ret ?_))
  obtain rfl := oi hr
  exact FinQ.r1 [aI64 0]
 ·refine .skip (.seq (.seq (.r3 G 11 [(10, aB v1.Negative)] ?_)))
  refine .cd hr ?_ ?_ <;> intro hb4 hr
  ·refine .seq (.ru G (.ret ?_))
   obtain rfl := oi hr
   exact FinQ.r1 [aI64 (-1)]
  ·refine .skip (.seq (.ru G (.ret ?_)))
   obtain rfl := oi hr
   exact FinQ.r1 [aI64 1]

theorem fiducialref01_short_ok (n : Nat) (a : List Int) (d : Int) (r : List Int × Int) (hr : fiducialref01_short n a d = some r) : FnOk Tryz.prog 134 [sU32 a, aU64 d] (.tup [sU32 r.1, aU64 r.2]) := by
 unfold fiducialref01_short at hr
 refine FnOk.bd G Tryz.func134 [.tmp 4, .tmp 5] ?_
 unfold Tryz.f134
 simp only [gS]
 refine .seq (.r4 G [0, 1] [] (.seq ?_))
 obtain ⟨hg1, hg2, hg3, hr⟩ := gd3 hr
 refine .r0 G (.mu 2 (.e0 (v := .hs 0 0 (List.replicate (a.length : Int).toNat ((0 : Int) : Int)).length 1) (ws := [(0, .own ((List.replicate (a.length : Int).toNat ((0 : Int) : Int)).flatMap (iC .u32)))]) (tr (make_own (c := (iC .u32)) (z := (0 : Int)) (n := (a.length : Int)) (by_ := 4) rfl hg1 hg2 hg3)) (.mu 1 (.done (.nh [0, 1, 6] [.own ((List.replicate (a.length : Int).toNat ((0 : Int) : Int)).flatMap (iC .u32))] (.seq (.r4 G [0, 1, 6] [(7, aU64 0)] (.seq (.seq (.r4 G [0, 1, 6, 7] [(8, aI64 (wrapF .i64 ((a.length : Int) - 1)))] (.block ?_)))))))))))
 replace hr := bd hr; obtain ⟨o18, hL19, hr⟩ := hr
 refine .loopO (σ := fun z0 => match z0 with | (q_4, r_5, i_6) => ⟨mkS 42 0 [(0, sU32 a), (1, aU64 d), (6, .hs 0 0 q_4.length 1), (7, aU64 r_5), (8, aI64 i_6)], [.own (q_4.flatMap (iC .u32))]⟩) (Q := fun x st' => match (generalizing := false) o18 with | (q_11, r_12) => x = .exit 0 ∧ Wk 0 st' ⟨mkS 42 0 [(6, .hs 0 0 q_11.length 1), (7, aU64 r_12)], [.own (q_11.flatMap (iC .u32))]⟩) hL19 ((Wk.gc [0, 1, 6, 7, 8] [(0, false)] rfl (pKo (iC .u32) (iC_pure _) (List.replicate (a.length : Int).toNat ((0 : Int) : Int)) trivial)).to) ?_ ?_
 ·clear hr
  rintro m ⟨q_4, r_5, i_6⟩ hr
  show CQ _ _ _ _ _ ⟨_, _⟩
  refine .seq (.seq (.r4 G [0, 1, 6, 7, 8] [(17, aB (decide (i_6 ≥ 0)))] ?_))
  refine .cd hr ?_ ?_ <;> intro hb14 hr
  ·refine .skip (.seq (.block (.seq ?_)))
   obtain ⟨hg15, hr⟩ := gd hr
   refine .r0 G (.mu 4 (.p0 (v := .pp (a.flatMap (iC .u32)) (i_6.toNat * 1)) (tr (ofP_guard hg15)) (.p0 (v := aU32 (gt a i_6)) (tr (ofP_some (flat_get (iC_len .u32) (inR_lt hg15) (by decide : 0 < 1) (by omega : i_6.toNat * 1 = i_6.toNat * 1 + 0) (by kernel_rfl)))) (.mu 3 (.done (.nh [0, 1, 6, 8, 9] [.own (q_4.flatMap (iC .u32))] (.seq ?_)))))))
   obtain ⟨hg16, hg17, hr⟩ := gd2 hr
   refine .r0 G (.mu 4 (.p0 (v := aU64 (wrapF .u64 ((wrapF .u64 ((wrapF .u64 (r_5 * 1000000000)) + (wrapF .u64 (gt a i_6)))).tdiv d))) (op_quo (x := wrapF .u64 ((wrapF .u64 (r_5 * 1000000000)) + (wrapF .u64 (gt a i_6)))) (y := d) (by kernel_rfl) (by kernel_rfl) hg16) (.mu 1 (.p0 (v := .hp 0 (0 + i_6.toNat * 1)) (tr (ofP_guard hg17)) (.e0 (v := .unk) (ws := [(0, .own ((q_4.set i_6.toNat (wrapF .u32 (wrapF .u64 ((wrapF .u64 ((wrapF .u64 (r_5 * 1000000000)) + (wrapF .u64 (gt a i_6)))).tdiv d)))).flatMap (iC .u32)))]) (tr (stO_t (and_t (flat_fits (n := 1) (iC_len .u32) (inR_lt hg17) (Nat.le_of_ble_eq_true rfl) (by omega : 0 + i_6.toNat * 1 = i_6.toNat * 1 + 0))) (congrArg Blk.own (flat_set (xs := [aU32 (wrapF .u32 (wrapF .u64 ((wrapF .u64 ((wrapF .u64 (r_5 * 1000000000)) + (wrapF .u64 (gt a i_6)))).tdiv d)))]) (iC_len .u32) (inR_lt hg17) (Nat.le_of_ble_eq_true rfl) (by omega : 0 + i_6.toNat * 1 = i_6.toNat * 1 + 0) (by kernel_rfl))))) (.done (.nh [0, 1, 6, 8, 9] [.own ((q_4.set i_6.toNat (wrapF .u32 (wrapF .u64 ((wrapF .u64 ((wrapF .u64 (r_5 * 1000000000)) + (wrapF .u64 (gt a i_6)))).tdiv d)))).flatMap (iC .u32))] (.r0 G (.mu 2 (.p0 (v := aU64 ((wrapF .u64 ((wrapF .u64 (r_5 * 1000000000)) + (wrapF .u64 (gt a i_6)))).tmod d)) (op_rem (x := wrapF .u64 ((wrapF .u64 (r_5 * 1000000000)) + (wrapF .u64 (gt a i_6)))) (y := d) (by kernel_rfl) (by kernel_rfl) hg16) (.mu 1 (.done (.pop (.ru G ?_))))))))))))))
   exact loopF_back (q_4.set i_6.toNat (wrapF .u32 (wrapF .u64 ((wrapF .u64 ((wrapF .u64 (r_5 * 1000000000)) + (wrapF .u64 (gt a i_6)))).tdiv d))), (wrapF .u64 ((wrapF .u64 (r_5 * 1000000000)) + (wrapF .u64 (gt a i_6)))).tmod d, wrapF .i64 (i_6 - 1)) hr ((Wk.relen 6 (b := 0) (es := 1) (len := q_4.length) (q_4.set i_6.toNat (wrapF .u32 (wrapF .u64 ((wrapF .u64 ((wrapF .u64 (r_5 * 1000000000)) + (wrapF .u64 (gt a i_6)))).tdiv d)))).length (by kernel_rfl) (Eq.symm (List.length_set.trans rfl))).trans ((Wk.gc [0, 1, 6, 7, 8] [(0, false)] rfl (pKo (iC .u32) (iC_pure _) (q_4.set i_6.toNat (wrapF .u32 (wrapF .u64 ((wrapF .u64 ((wrapF .u64 (r_5 * 1000000000)) + (wrapF .u64 (gt a i_6)))).tdiv d)))) trivial)).to))
  ·refine .leave rfl ?_
   obtain rfl := oi hr
   exact ⟨rfl, ((Wk.gc [6, 7] [(0, false)] rfl (pKo (iC .u32) (iC_pure _) q_4 trivial)).to)⟩
 ·rcases o18 with ⟨q_11, r_12⟩
  rintro x st' hq20
  clear hL19
  obtain ⟨rfl, hq20⟩ := hq20
  refine CQ_exit _ rfl (.wk hq20 (.seq ?_))
  obtain ⟨v21, hc22, hr⟩ := bd hr
  refine .g1 G (callOk_ref (args := [aB false, .hs 0 0 q_11.length 1]) (l := [0]) (Sp (SnL.cons (Sn.hs rfl (.inl rfl) (SnC.pure (ids_flat (iC_pure _) _)) (fun h => flat_nil0 h)) SnL.nil)) (fiducialref01_made_ok n false q_11 v21 hc22)) (.mu 1 (.ca cf0 (.mu 4 (.done (.ret ?_)))))
  obtain rfl := oi hr
  exact FinQ.ret (vs := [sU32 v21.Groups, aU64 r_12]) (by kernel_rfl) (Sn.tup (Sp (Sp SnL.nil)))

theorem fiducialref01_size_ok (n : Nat) (a : List Int) (b : List Int) (r : Int) (hr : fiducialref01_size n a b = some r) : FnOk Tryz.prog 98 [sU32 a, sU32 b] (aI64 r) := by
 unfold fiducialref01_size at hr
 refine FnOk.bd G Tryz.func98 [.tmp 4] ?_
 unfold Tryz.f98
 simp only [gS]
 refine .seq (.r4 G [0, 1] [] (.seq (.seq (.r4 G [0, 1] [(10, aB (((a.length : Int) : Int) != (b.length : Int)))] ?_))))
 refine .cd hr ?_ ?_ <;> intro hb1 hr
 ·refine .seq (.seq (.r3 G 41 [(15, aB (decide ((a.length : Int) < (b.length : Int))))] ?_))
  refine .cd hr ?_ ?_ <;> intro hb2 hr
  ·refine .seq (.ru G (.ret ?_))
   obtain rfl := oi hr
   exact FinQ.r1 [aI64 (-1)]
  ·refine .skip (.seq (.ru G (.ret ?_)))
   obtain rfl := oi hr
   exact FinQ.r1 [aI64 1]
 ·refine .skip (.seq (.seq (.r4 G [0, 1] [(5, aI64 (wrapF .i64 ((a.length : Int) - 1)))] (.block ?_))))
  replace hr := bd hr; obtain ⟨o15, hL16, hr⟩ := hr
  refine .loopO (σ := fun z0 => match z0 with | i_3 => ⟨mkS 41 0 [(0, sU32 a), (1, sU32 b), (5, aI64 i_3)], []⟩) (Q := fun x st' => match (generalizing := false) o15 with | .inl _ => x = .exit 0 ∧ Wk 0 st' ⟨mkS 41 0 [], []⟩ | .inr (r0) => x = .ret ∧ FinQ Tryz.prog [.tmp 4] (aI64 r0) .ret st') hL16 ((Wk.gc [0, 1, 5] [] rfl pK0).to) ?_ ?_
  ·clear hr
   rintro m i_3 hr
   show CQ _ _ _ _ _ ⟨_, _⟩
   refine .seq (.seq (.r4 G [0, 1, 5] [(20, aB (decide (i_3 ≥ 0)))] ?_))
   refine .cd hr ?_ ?_ <;> intro hb10 hr
   ·refine .skip (.seq (.block (.seq (.seq ?_))))
    obtain ⟨hg11, hg12, hr⟩ := gd2 hr
    refine .regionT G callOf_nil (.mu 2 (.pure (v := .pp (a.flatMap (iC .u32)) (i_3.toNat * 1)) (by kernel_rfl) (tr (ofP_guard hg11)) (by kernel_rfl) (.pure (v := aU32 (gt a i_3)) (by kernel_rfl) (tr (ofP_some (flat_get (iC_len .u32) (inR_lt hg11) (by decide : 0 < 1) (by omega : i_3.toNat * 1 = i_3.toNat * 1 + 0) (by kernel_rfl)))) (by kernel_rfl) (.mu 2 (.pure (v := .pp (b.flatMap (iC .u32)) (i_3.toNat * 1)) (by kernel_rfl) (tr (ofP_guard hg12)) (by kernel_rfl) (.pure (v := aU32 (gt b i_3)) (by kernel_rfl) (tr (ofP_some (flat_get (iC_len .u32) (inR_lt hg12) (by decide : 0 < 1) (by omega : i_3.toNat * 1 = i_3.toNat * 1 + 0) (by kernel_rfl)))) (by kernel_rfl) (.mu 1 ?_)))))))
    refine .done ⟨by kernel_rfl, ?_⟩
    refine .nh [0, 1, 5, 31] [] ?_
    refine .cd hr ?_ ?_ <;> intro hb13 hr
    ·refine .seq (.ru G (.ret ?_))
     obtain rfl := oi hr
     exact ⟨rfl, FinQ.ret (vs := [aI64 (-1)]) (by kernel_rfl) (Sn.pure rfl)⟩
    ·refine .skip (.seq (.regionT G callOf_nil (.mu 2 (.pure (v := .pp (a.flatMap (iC .u32)) (i_3.toNat * 1)) (by kernel_rfl) (tr (ofP_guard hg11)) (by kernel_rfl) (.pure (v := aU32 (gt a i_3)) (by kernel_rfl) (tr (ofP_some (flat_get (iC_len .u32) (inR_lt hg11) (by decide : 0 < 1) (by omega : i_3.toNat * 1 = i_3.toNat * 1 + 0) (by kernel_rfl)))) (by kernel_rfl) (.mu 2 (.pure (v := .pp (b.flatMap (iC .u32)) (i_3.toNat * 1)) (by kernel_rfl) (tr (ofP_guard hg12)) (by kernel_rfl) (.pure (v := aU32 (gt b i_3)) (by kernel_rfl) (tr (ofP_some (flat_get (iC_len .u32) (inR_lt hg12) (by decide : 0 < 1) (by omega : i_3.toNat * 1 = i_3.toNat * 1 + 0) (by kernel_rfl)))) (by kernel_rfl) (.mu 1 ?_)))))))))
     refine .done ⟨by kernel_rfl, ?_⟩
     refine .nh [0, 1, 5, 40] [] ?_
     refine .cd hr ?_ ?_ <;> intro hb14 hr
     ·refine .seq (.ru G (.ret ?_))
      obtain rfl := oi hr
      exact ⟨rfl, FinQ.ret (vs := [aI64 1]) (by kernel_rfl) (Sn.pure rfl)⟩
     ·refine .skip (.pop (.ru G ?_))
      exact loopF_back (wrapF .i64 (i_3 - 1)) hr ((Wk.gc [0, 1, 5] [] rfl pK0).to)
   ·refine .leave rfl ?_
    obtain rfl := oi hr
    exact ⟨rfl, ((Wk.gc [] [] rfl pK0).to)⟩
  ·rcases o15 with ⟨⟩ | r0
   ·rintro x st' hq17
    clear hL16
    obtain ⟨rfl, hq17⟩ := hq17
    refine CQ_exit _ rfl (.wk hq17 (.seq (.ru G (.ret ?_))))
    obtain rfl := oi hr
    exact FinQ.r1 [aI64 0]
   ·rintro x st' hq17
    clear hL16
    obtain ⟨rfl, hq17⟩ := hq17
    obtain rfl := oi hr
    exact CQ_ret _ hq17

theorem fiducialref01_scaled_inj {a : List Int} {d : Int} {a_ : List Int} {d_ : Int} (h : ([slT (iC .u32) a, .at (.int .u64 d)] : List AV) = [slT (iC .u32) a_, .at (.int .u64 d_)]) : a = a_ ∧ d = d_ := by
 simp only [List.cons.injEq, AV.agg.injEq, AV.at.injEq, Value.int.injEq, Value.bool.injEq, AV.fn.injEq, AV.pp.injEq, true_and, and_true, slT_inj_int] at h
 simp_all
theorem fiducialref01_scaled_cg (n : Nat) {a : List Int} {d : Int} {a_ : List Int} {d_ : Int} (h : ([slT (iC .u32) a, .at (.int .u64 d)] : List AV) = [slT (iC .u32) a_, .at (.int .u64 d_)]) : fiducialref01_scaled n a d = fiducialref01_scaled n a_ d_ := by
 obtain ⟨rfl, rfl⟩ := fiducialref01_scaled_inj h
 rfl
theorem fiducialref01_scaled_ok (n : Nat) (a : List Int) (d : Int) (r : List Int) (hr : fiducialref01_scaled n a d = some r) : FnOk Tryz.prog 135 [sU32 a, aU64 d] (sU32 r) := by
 unfold fiducialref01_scaled at hr
 refine FnOk.bd G Tryz.func135 [.tmp 4] ?_
 unfold Tryz.f135
 simp only [gS]
 refine .seq (.r4 G [0, 1] [] (.seq (.r5 G [0, 1] [(5, .hs 0 0 0 1)] [.own []] (.seq (.r4 G [0, 1, 5] [(6, aU64 0)] (.seq (.seq (.r4 G [0, 1, 5, 6] [(7, aI64 0)] (.block ?_)))))))))
 replace hr := bd hr; obtain ⟨o15, hL16, hr⟩ := hr
 refine .loopO (σ := fun z0 => match z0 with | (o_1, c_2, i_3) => ⟨mkS 40 0 [(0, sU32 a), (1, aU64 d), (5, .hs 0 0 o_1.length 1), (6, aU64 c_2), (7, aI64 i_3)], [.own (o_1.flatMap (iC .u32))]⟩) (Q := fun x st' => match (generalizing := false) o15 with | (o_8, c_9) => x = .exit 0 ∧ Wk 0 st' ⟨mkS 40 0 [(5, .hs 0 0 o_8.length 1), (6, aU64 c_9)], [.own (o_8.flatMap (iC .u32))]⟩) hL16 ((Wk.gc [0, 1, 5, 6, 7] [(0, false)] rfl (pKc trivial)).to) ?_ ?_
 ·clear hr
  rintro m ⟨o_1, c_2, i_3⟩ hr
  show CQ _ _ _ _ _ ⟨_, _⟩
  refine .seq (.seq (.r4 G [0, 1, 5, 6, 7] [(13, aB (decide (i_3 < (a.length : Int))))] ?_))
  refine .cd hr ?_ ?_ <;> intro hb11 hr
  ·refine .skip (.seq (.block (.seq ?_)))
   obtain ⟨hg12, hr⟩ := gd hr
   refine .r0 G (.mu 2 (.p0 (v := .pp (a.flatMap (iC .u32)) (i_3.toNat * 1)) (tr (ofP_guard hg12)) (.p0 (v := aU32 (gt a i_3)) (tr (ofP_some (flat_get (iC_len .u32) (inR_lt hg12) (by decide : 0 < 1) (by omega : i_3.toNat * 1 = i_3.toNat * 1 + 0) (by kernel_rfl)))) (.mu 6 (.done (.nh [0, 1, 5, 7, 8] [.own (o_1.flatMap (iC .u32))] (.seq ?_)))))))
   obtain ⟨hg13, hg14, hr⟩ := gd2 hr
   refine .r0 G (.mu 5 (.e0 (v := .hs 2 0 (o_1 ++ [wrapF .u32 ((wrapF .u64 ((wrapF .u64 ((wrapF .u64 (gt a i_3)) * d)) + c_2)).tmod 1000000000)]).length 1) (ws := [(0, .dead), (2, .own ((o_1 ++ [wrapF .u32 ((wrapF .u64 ((wrapF .u64 ((wrapF .u64 (gt a i_3)) * d)) + c_2)).tmod 1000000000)]).flatMap (iC .u32)))]) (tr (app_own (new := [aU32 (wrapF .u32 ((wrapF .u64 ((wrapF .u64 ((wrapF .u64 (gt a i_3)) * d)) + c_2)).tmod 1000000000))]) (l := o_1) (xs := [wrapF .u32 ((wrapF .u64 ((wrapF .u64 ((wrapF .u64 (gt a i_3)) * d)) + c_2)).tmod 1000000000)]) (iC_len .u32) rfl rfl (by kernel_rfl) hg13 hg14)) (.mu 1 (.done (.nh [0, 1, 5, 7, 8] [.dead, .own [aU32 (wrapF .u32 ((wrapF .u64 ((wrapF .u64 ((wrapF .u64 (gt a i_3)) * d)) + c_2)).tmod 1000000000))], .own ((o_1 ++ [wrapF .u32 ((wrapF .u64 ((wrapF .u64 ((wrapF .u64 (gt a i_3)) * d)) + c_2)).tmod 1000000000)]).flatMap (iC .u32))] (.ru G (.pop (.ru G ?_))))))))
   exact loopF_back (o_1 ++ [wrapF .u32 ((wrapF .u64 ((wrapF .u64 ((wrapF .u64 (gt a i_3)) * d)) + c_2)).tmod 1000000000)], wrapF .u64 ((wrapF .u64 ((wrapF .u64 ((wrapF .u64 (gt a i_3)) * d)) + c_2)).tdiv 1000000000), wrapF .i64 (i_3 + 1)) hr ((Wk.gc [0, 1, 5, 6, 7] [(2, false)] rfl (pKo (iC .u32) (iC_pure _) (o_1 ++ [wrapF .u32 ((wrapF .u64 ((wrapF .u64 ((wrapF .u64 (gt a i_3)) * d)) + c_2)).tmod 1000000000)]) trivial)).to)
  ·refine .leave rfl ?_
   obtain rfl := oi hr
   exact ⟨rfl, ((Wk.gc [5, 6] [(0, false)] rfl (pKo (iC .u32) (iC_pure _) o_1 trivial)).to)⟩
 ·rcases o15 with ⟨o_8, c_9⟩
  rintro x st' hq17
  clear hL16
  obtain ⟨rfl, hq17⟩ := hq17
  refine CQ_exit _ rfl (.wk hq17 (.seq ?_))
  obtain ⟨hg18, hg19, hr⟩ := gd2 hr
  obtain ⟨v20, hc21, hr⟩ := bd hr
  refine .gn G (ca4 [.dead, .own [aU32 (wrapF .u32 c_9)], .own ((o_8 ++ [wrapF .u32 c_9]).flatMap (iC .u32))] (callOk_ref (args := [aB false, .hs 2 0 (o_8 ++ [wrapF .u32 c_9]).length 1]) (l := [2]) (Sp (SnL.cons (Sn.hs rfl (.inl rfl) (SnC.pure (ids_flat (iC_pure _) _)) (fun h => flat_nil0 h)) SnL.nil)) (fiducialref01_made_ok n false (o_8 ++ [wrapF .u32 c_9]) v20 hc21))) (.mu 4 (.e0 (v := .hs 2 0 (o_8 ++ [wrapF .u32 c_9]).length 1) (ws := [(0, .dead), (2, .own ((o_8 ++ [wrapF .u32 c_9]).flatMap (iC .u32)))]) (tr (app_own (new := [aU32 (wrapF .u32 c_9)]) (l := o_8) (xs := [wrapF .u32 c_9]) (iC_len .u32) rfl rfl (by kernel_rfl) hg18 hg19)) (.ca cf0 (.mu 2 (.done (.ret ?_))))))
  obtain rfl := oi hr
  exact FinQ.r1 [sU32 v20.Groups]

theorem fiducialref01_shifted_ok (n : Nat) (a : List Int) (d : Int) (r : List Int) (hr : fiducialref01_shifted n a d = some r) : FnOk Tryz.prog 136 [sU32 a, aU32 d] (sU32 r) := by
 unfold fiducialref01_shifted at hr
 refine FnOk.bd G Tryz.func136 [.tmp 4] ?_
 unfold Tryz.f136
 simp only [gS]
 refine .seq (.r4 G [0, 1] [] (.seq ?_))
 obtain ⟨hg1, hg2, hr⟩ := gd2 hr
 obtain ⟨v3, hc4, hr⟩ := bd hr
 refine .gn G (ca4 [.dead, .own (([d] ++ a).flatMap (iC .u32))] (callOk_ref (args := [aB false, .hs 1 0 ([d] ++ a).length 1]) (l := [1]) (Sp (SnL.cons (Sn.hs rfl (.inl rfl) (SnC.pure (ids_flat (iC_pure _) _)) (fun h => flat_nil0 h)) SnL.nil)) (fiducialref01_made_ok n false ([d] ++ a) v3 hc4))) (.mu 3 (.e0 (v := .hs 1 0 ([d] ++ a).length 1) (ws := [(0, .dead), (1, .own (([d] ++ a).flatMap (iC .u32)))]) (Eq.trans (b := appS (decide (((a.flatMap (iC .u32))).length = a.length * 1)) (a.flatMap (iC .u32)) a.length (fun z1 z2 => guardO (decide (0 + 1 * 1 ≤ ([d].flatMap (iC .u32)).length) && decide ((1 + z2) * 4 ≤ 140737488355328) && decide (1 + z2 ≤ 4611686018427387904)) (some (.eff (.hs 1 0 (1 + z2) 1) [(0, .dead), (1, .own ((([d].flatMap (iC .u32)).drop 0).take (1 * 1) ++ z1))])))) (by kernel_rfl) (appS_t (flat_lenB (iC_len _)) rfl (app_own (l := [d]) (xs := a) (iC_len _) rfl rfl rfl hg1 hg2))) (.ca cf0 (.mu 2 (.done (.ret ?_))))))
 obtain rfl := oi hr
 exact FinQ.r1 [sU32 v3.Groups]

theorem fiducialref01_group_inj {l : List Int} {i : Int} {l_ : List Int} {i_ : Int} (h : ([slT (iC .u32) l, .at (.int .i64 i)] : List AV) = [slT (iC .u32) l_, .at (.int .i64 i_)]) : l = l_ ∧ i = i_ := by
 simp only [List.cons.injEq, AV.agg.injEq, AV.at.injEq, Value.int.injEq, Value.bool.injEq, AV.fn.injEq, AV.pp.injEq, true_and, and_true, slT_inj_int] at h
 simp_all
theorem fiducialref01_group_cg (n : Nat) {l : List Int} {i : Int} {l_ : List Int} {i_ : Int} (h : ([slT (iC .u32) l, .at (.int .i64 i)] : List AV) = [slT (iC .u32) l_, .at (.int .i64 i_)]) : fiducialref01_group n l i = fiducialref01_group n l_ i_ := by
 obtain ⟨rfl, rfl⟩ := fiducialref01_group_inj h
 rfl
theorem fiducialref01_group_ok (n : Nat) (l : List Int) (i : Int) (r : Int) (hr : fiducialref01_group n l i = some r) : FnOk Tryz.prog 137 [sU32 l, aI64 i] (aU64 r) := by
 unfold fiducialref01_group at hr
 refine FnOk.bd G Tryz.func137 [.tmp 4] ?_
 unfold Tryz.f137
 simp only [gS]
 refine .seq (.r4 G [0, 1] [] (.seq (.seq (.r4 G [0, 1] [(8, aB (decide (i < (l.length : Int))))] ?_))))
 refine .cd hr ?_ ?_ <;> intro hb1 hr
 ·refine .seq ?_
  obtain ⟨hg2, hr⟩ := gd hr
  refine .r0 G (.mu 2 (.p0 (v := .pp (l.flatMap (iC .u32)) (i.toNat * 1)) (tr (ofP_guard hg2)) (.p0 (v := aU32 (gt l i)) (tr (ofP_some (flat_get (iC_len .u32) (inR_lt hg2) (by decide : 0 < 1) (by omega : i.toNat * 1 = i.toNat * 1 + 0) (by kernel_rfl)))) (.mu 2 (.done (.ret ?_))))))
  obtain rfl := oi hr
  exact FinQ.r1 [aU64 (wrapF .u64 (gt l i))]
 ·refine .skip (.seq (.ru G (.ret ?_)))
  obtain rfl := oi hr
  exact FinQ.r1 [aU64 0]

theorem fiducialref01_minus_ok (n : Nat) (a : List Int) (b : List Int) (r : List Int) (hr : fiducialref01_minus n a b = some r) : FnOk Tryz.prog 99 [sU32 a, sU32 b] (sU32 r) := by
 unfold fiducialref01_minus at hr
 refine FnOk.bd G Tryz.func99 [.tmp 4] ?_
 unfold Tryz.f99
 simp only [gS]
 refine .seq (.r4 G [0, 1] [] (.seq (.r5 G [0, 1] [(5, .hs 0 0 0 1)] [.own []] (.seq (.r4 G [0, 1, 5] [(6, aU64 0)] (.seq (.seq (.r4 G [0, 1, 5, 6] [(7, aI64 0)] (.block ?_)))))))))
 replace hr := bd hr; obtain ⟨o_11, hL21, hr⟩ := hr
 refine .loopO (σ := fun z0 => match z0 with | (o_1, b_2, i_3) => ⟨mkS 38 0 [(0, sU32 a), (1, sU32 b), (5, .hs 0 0 o_1.length 1), (6, aU64 b_2), (7, aI64 i_3)], [.own (o_1.flatMap (iC .u32))]⟩) (Q := fun x st' => x = .exit 0 ∧ Wk 0 st' ⟨mkS 38 0 [(5, .hs 0 0 o_11.length 1)], [.own (o_11.flatMap (iC .u32))]⟩) hL21 ((Wk.gc [0, 1, 5, 6, 7] [(0, false)] rfl (pKc trivial)).to) ?_ ?_
 ·clear hr
  rintro m ⟨o_1, b_2, i_3⟩ hr
  show CQ _ _ _ _ _ ⟨_, _⟩
  refine .seq (.seq (.r4 G [0, 1, 5, 6, 7] [(13, aB (decide (i_3 < (a.length : Int))))] ?_))
  refine .cd hr ?_ ?_ <;> intro hb13 hr
  ·refine .skip (.seq (.block (.seq ?_)))
   obtain ⟨v14, hc15, v16, hc17, hr⟩ := bd2 hr
   refine .gn G (ca1 (ok0 (fiducialref01_group_ok n a i_3 v14 hc15)) (ca3 (ok0 (fiducialref01_group_ok n b i_3 v16 hc17)))) (.mu 2 (.ca cf0 (.mu 3 (.ca (cfA (fun h => by rw [sv hc17 hc15 (fiducialref01_group_cg n h)]) cf0) (.mu 4 (.done (.nh [0, 1, 5, 7, 8] [.own (o_1.flatMap (iC .u32))] (.seq ?_))))))))
   obtain ⟨hg18, hg19, hr⟩ := gd2 hr
   refine .r0 G (.mu 5 (.e0 (v := .hs 2 0 (o_1 ++ [wrapF .u32 ((wrapF .u64 ((wrapF .u64 ((wrapF .u64 (1000000000 + v14)) - v16)) - b_2)).tmod 1000000000)]).length 1) (ws := [(0, .dead), (2, .own ((o_1 ++ [wrapF .u32 ((wrapF .u64 ((wrapF .u64 ((wrapF .u64 (1000000000 + v14)) - v16)) - b_2)).tmod 1000000000)]).flatMap (iC .u32)))]) (tr (app_own (new := [aU32 (wrapF .u32 ((wrapF .u64 ((wrapF .u64 ((wrapF .u64 (1000000000 + v14)) - v16)) - b_2)).tmod 1000000000))]) (l := o_1) (xs := [wrapF .u32 ((wrapF .u64 ((wrapF .u64 ((wrapF .u64 (1000000000 + v14)) - v16)) - b_2)).tmod 1000000000)]) (iC_len .u32) rfl rfl (by kernel_rfl) hg18 hg19)) (.mu 1 (.done (.nh [0, 1, 5, 7, 8] [.dead, .own [aU32 (wrapF .u32 ((wrapF .u64 ((wrapF .u64 ((wrapF .u64 (1000000000 + v14)) - v16)) - b_2)).tmod 1000000000))], .own ((o_1 ++ [wrapF .u32 ((wrapF .u64 ((wrapF .u64 ((wrapF .u64 (1000000000 + v14)) - v16)) - b_2)).tmod 1000000000)]).flatMap (iC .u32))] (.ru G (.pop (.ru G ?_))))))))
   exact loopF_back (o_1 ++ [wrapF .u32 ((wrapF .u64 ((wrapF .u64 ((wrapF .u64 (1000000000 + v14)) - v16)) - b_2)).tmod 1000000000)], wrapF .u64 (1 - (wrapF .u64 ((wrapF .u64 ((wrapF .u64 ((wrapF .u64 (1000000000 + v14)) - v16)) - b_2)).tdiv 1000000000))), wrapF .i64 (i_3 + 1)) hr ((Wk.gc [0, 1, 5, 6, 7] [(2, false)] rfl (pKo (iC .u32) (iC_pure _) (o_1 ++ [wrapF .u32 ((wrapF .u64 ((wrapF .u64 ((wrapF .u64 (1000000000 + v14)) - v16)) - b_2)).tmod 1000000000)]) trivial)).to)
  ·refine .leave rfl ?_
   obtain rfl := oi hr
   exact ⟨rfl, ((Wk.gc [5] [(0, false)] rfl (pKo (iC .u32) (iC_pure _) o_1 trivial)).to)⟩
 ·rintro x st' hq22
  clear hL21
  obtain ⟨rfl, hq22⟩ := hq22
  refine CQ_exit _ rfl (.wk hq22 (.seq ?_))
  obtain ⟨v23, hc24, hr⟩ := bd hr
  refine .g1 G (callOk_ref (args := [aB false, .hs 0 0 o_11.length 1]) (l := [0]) (Sp (SnL.cons (Sn.hs rfl (.inl rfl) (SnC.pure (ids_flat (iC_pure _) _)) (fun h => flat_nil0 h)) SnL.nil)) (fiducialref01_made_ok n false o_11 v23 hc24)) (.mu 1 (.ca cf0 (.mu 2 (.done (.ret ?_)))))
  obtain rfl := oi hr
  exact FinQ.r1 [sU32 v23.Groups]

theorem fiducialref01_parts_ok (n : Nat) (a : List Int) (b : List Int) (r : List Int × List Int) (hr : fiducialref01_parts n a b = some r) : FnOk Tryz.prog 92 [sU32 a, sU32 b] (.tup [sU32 r.1, sU32 r.2]) := by
 unfold fiducialref01_parts at hr
 refine FnOk.bd G Tryz.func92 [.tmp 4, .tmp 5] ?_
 unfold Tryz.f92
 simp only [gS]
 refine .seq (.r4 G [0, 1] [] (.seq (.r4 G [0, 1] [(6, aI64 (b.length : Int))] (.seq (.seq (.r4 G [0, 1, 6] [(19, aB (((b.length : Int) : Int) == 1))] ?_))))))
 refine .cd hr ?_ ?_ <;> intro hb1 hr
 ·refine .seq ?_
  obtain ⟨hg2, hr⟩ := gd hr
  obtain ⟨v3, hc4, hr⟩ := bd hr
  refine .g1 G (ok0 (fiducialref01_short_ok n a (wrapF .u64 (gt b 0)) v3 hc4)) (.mu 2 (.p0 (v := .pp (b.flatMap (iC .u32)) ((0 : Int).toNat * 1)) (tr (ofP_guard hg2)) (.p0 (v := aU32 (gt b 0)) (tr (ofP_some (flat_get (iC_len .u32) (inR_lt hg2) (by decide : 0 < 1) (by omega : (0 : Int).toNat * 1 = (0 : Int).toNat * 1 + 0) (by kernel_rfl)))) (.mu 1 (.ca cf0 (.mu 5 (.done (.nh [7, 8] [] (.seq ?_)))))))))
  obtain ⟨v5, hc6, hr⟩ := bd hr
  refine .gn G (ca4 [.own [aU32 (wrapF .u32 v3.2)]] (callOk_ref (args := [aB false, .hs 0 0 1 1]) (l := [0]) (Sp (SnL.cons (Sn.hs rfl (.inl rfl) (SnC.cons (Sn.pure rfl) SnC.nil) (fun h => nomatch h)) SnL.nil)) (fiducialref01_made_ok n false [(wrapF .u32 v3.2)] v5 hc6))) (.mu 4 (.ca cf0 (.mu 3 (.done (.ret ?_)))))
  obtain rfl := oi hr
  exact FinQ.ret (vs := [sU32 v3.1, sU32 v5.Groups]) (by kernel_rfl) (Sn.tup (Sp (Sp SnL.nil)))
 ·refine .skip (.seq (.seq ?_))
  obtain ⟨v7, hc8, hr⟩ := bd hr
  refine .g1 G (ok0 (fiducialref01_size_ok n a b v7 hc8)) (.mu 2 (.ca cf0 (.mu 1 (.done (.nh [0, 1, 6, 38] [] ?_)))))
  refine .cd hr ?_ ?_ <;> intro hb9 hr
  ·refine .seq (.r5 G [] [(4, .hs 0 0 0 1), (5, sU32 a)] [.own []] (.ret ?_))
   obtain rfl := oi hr
   exact FinQ.ret (vs := [.hs 0 0 0 1, sU32 a]) (by kernel_rfl) (Sn.tup (SnL.cons (Sn.hs rfl (.inl rfl) SnC.nil (fun _ => rfl)) (Sp SnL.nil)))
  ·refine .skip (.seq ?_)
   obtain ⟨hg10, hg11, hr⟩ := gd2 hr
   refine .r0 G (.mu 3 (.p0 (v := .pp (b.flatMap (iC .u32)) ((wrapF .i64 ((b.length : Int) - 1)).toNat * 1)) (tr (ofP_guard hg10)) (.p0 (v := aU32 (gt b (wrapF .i64 ((b.length : Int) - 1)))) (tr (ofP_some (flat_get (iC_len .u32) (inR_lt hg10) (by decide : 0 < 1) (by omega : (wrapF .i64 ((b.length : Int) - 1)).toNat * 1 = (wrapF .i64 ((b.length : Int) - 1)).toNat * 1 + 0) (by kernel_rfl)))) (.mu 2 (.p0 (v := aU64 (wrapF .u64 ((1000000000 : Int).tdiv (wrapF .u64 ((wrapF .u64 (gt b (wrapF .i64 ((b.length : Int) - 1)))) + 1))))) (op_quo (x := 1000000000) (y := wrapF .u64 ((wrapF .u64 (gt b (wrapF .i64 ((b.length : Int) - 1)))) + 1)) (by kernel_rfl) (by kernel_rfl) hg11) (.mu 1 (.done (.nh [0, 1, 6, 9] [] (.seq ?_)))))))))
   obtain ⟨v12, hc13, v14, hc15, hr⟩ := bd2 hr
   refine .gn G (ca1 (ok0 (fiducialref01_scaled_ok n a (wrapF .u64 ((1000000000 : Int).tdiv (wrapF .u64 ((wrapF .u64 (gt b (wrapF .i64 ((b.length : Int) - 1)))) + 1)))) v12 hc13)) (ca3 (ok0 (fiducialref01_scaled_ok n b (wrapF .u64 ((1000000000 : Int).tdiv (wrapF .u64 ((wrapF .u64 (gt b (wrapF .i64 ((b.length : Int) - 1)))) + 1)))) v14 hc15)))) (.mu 2 (.ca cf0 (.mu 2 (.ca (cfA (fun h => by rw [sv hc15 hc13 (fiducialref01_scaled_cg n h)]) cf0) (.mu 2 (.done (.nh [0, 1, 6, 9] [] (.seq ?_))))))))
   obtain ⟨hg16, hr⟩ := gd hr
   obtain ⟨v17, hc18, hr⟩ := bd hr
   refine .g1 G (ok0 (fiducialref01_made_ok n false ((v12.drop (wrapF .i64 ((wrapF .i64 ((v12.length : Int) - (b.length : Int))) + 1)).toNat).take ((v12.length : Int).toNat - (wrapF .i64 ((wrapF .i64 ((v12.length : Int) - (b.length : Int))) + 1)).toNat)) v17 hc18)) (.mu 6 (.p0 (v := sU32 ((v12.drop (wrapF .i64 ((wrapF .i64 ((v12.length : Int) - (b.length : Int))) + 1)).toNat).take ((v12.length : Int).toNat - (wrapF .i64 ((wrapF .i64 ((v12.length : Int) - (b.length : Int))) + 1)).toNat))) (Eq.trans (b := slO (inS (wrapF .i64 ((wrapF .i64 ((v12.length : Int) - (b.length : Int))) + 1)) (v12.length : Int) v12.length) (wrapF .i64 ((wrapF .i64 ((v12.length : Int) - (b.length : Int))) + 1)).toNat (v12.length : Int).toNat (fun z1 z2 => .sl true (((v12.flatMap (iC .u32)).drop (z1 * 1)).take ((z2 - z1) * 1)) (z2 - z1))) (by kernel_rfl) (slO_t hg16 (sub_sl (iC_len _) (inS_le hg16)))) (.ca cf0 (.mu 2 (.done (.nh [0, 1, 6, 9, 10] [] (.seq ?_)))))))
   obtain ⟨hg19, hg20, hg21, hr⟩ := gd3 hr
   refine .r0 G (.mu 5 (.e0 (v := .hs 0 0 (List.replicate (wrapF .i64 ((wrapF .i64 ((v12.length : Int) - (b.length : Int))) + 1)).toNat ((0 : Int) : Int)).length 1) (ws := [(0, .own ((List.replicate (wrapF .i64 ((wrapF .i64 ((v12.length : Int) - (b.length : Int))) + 1)).toNat ((0 : Int) : Int)).flatMap (iC .u32)))]) (tr (make_own (c := (iC .u32)) (z := (0 : Int)) (n := wrapF .i64 ((wrapF .i64 ((v12.length : Int) - (b.length : Int))) + 1)) (by_ := 4) rfl hg19 hg20 hg21)) (.mu 1 (.done (.nh [0, 1, 6, 9, 10, 11] [.own ((List.replicate (wrapF .i64 ((wrapF .i64 ((v12.length : Int) - (b.length : Int))) + 1)).toNat ((0 : Int) : Int)).flatMap (iC .u32))] (.seq (.seq (.r4 G [0, 1, 6, 9, 10, 11] [(12, aI64 (wrapF .i64 ((v12.length : Int) - (b.length : Int))))] (.block ?_)))))))))
   replace hr := bd hr; obtain ⟨o94, hL95, hr⟩ := hr
   refine .loopO (σ := fun z0 => match z0 with | (r_22, q_23, i_24) => ⟨mkS 130 0 [(0, sU32 v12), (1, sU32 v14), (6, aI64 (b.length : Int)), (9, aU64 (wrapF .u64 ((1000000000 : Int).tdiv (wrapF .u64 ((wrapF .u64 (gt b (wrapF .i64 ((b.length : Int) - 1)))) + 1))))), (10, sU32 r_22), (11, .hs 0 0 q_23.length 1), (12, aI64 i_24)], [.own (q_23.flatMap (iC .u32))]⟩) (Q := fun x st' => match (generalizing := false) o94 with | (r_58, q_59) => x = .exit 0 ∧ Wk 0 st' ⟨mkS 130 0 [(9, aU64 (wrapF .u64 ((1000000000 : Int).tdiv (wrapF .u64 ((wrapF .u64 (gt b (wrapF .i64 ((b.length : Int) - 1)))) + 1))))), (10, sU32 r_58), (11, .hs 0 0 q_59.length 1)], [.own (q_59.flatMap (iC .u32))]⟩) hL95 ((Wk.gc [0, 1, 6, 9, 10, 11, 12] [(0, false)] rfl (pKo (iC .u32) (iC_pure _) (List.replicate (wrapF .i64 ((wrapF .i64 ((v12.length : Int) - (b.length : Int))) + 1)).toNat ((0 : Int) : Int)) trivial)).to) ?_ ?_
   ·clear hr
    rintro m ⟨r_22, q_23, i_24⟩ hr
    show CQ _ _ _ _ _ ⟨_, _⟩
    refine .seq (.seq (.r4 G [0, 1, 6, 9, 10, 11, 12] [(75, aB (decide (i_24 ≥ 0)))] ?_))
    refine .cd hr ?_ ?_ <;> intro hb61 hr
    ·refine .skip (.seq (.block (.seq ?_)))
     obtain ⟨hg62, hr⟩ := gd hr
     obtain ⟨v63, hc64, hr⟩ := bd hr
     refine .g1 G (ok0 (fiducialref01_shifted_ok n r_22 (gt v12 i_24) v63 hc64)) (.mu 3 (.p0 (v := .pp (v12.flatMap (iC .u32)) (i_24.toNat * 1)) (tr (ofP_guard hg62)) (.p0 (v := aU32 (gt v12 i_24)) (tr (ofP_some (flat_get (iC_len .u32) (inR_lt hg62) (by decide : 0 < 1) (by omega : i_24.toNat * 1 = i_24.toNat * 1 + 0) (by kernel_rfl)))) (.ca cf0 (.mu 1 (.done (.nh [0, 1, 6, 9, 10, 11, 12] [.own (q_23.flatMap (iC .u32))] (.seq ?_))))))))
     obtain ⟨v65, hc66, v67, hc68, hr⟩ := bd2 hr
     obtain ⟨hg69, hg70, hr⟩ := gd2 hr
     refine .tn G (ca1 (ok0 (fiducialref01_group_ok n v63 (b.length : Int) v65 hc66)) (ca3 (ok0 (fiducialref01_group_ok n v63 (wrapF .i64 ((b.length : Int) - 1)) v67 hc68)))) (.mu 2 (.ca cf0 (.mu 4 (.ca (cfA (fun h => by rw [sv hc68 hc66 (fiducialref01_group_cg n h)]) cf0) (.mu 4 (.pure (v := .pp (v14.flatMap (iC .u32)) ((wrapF .i64 ((b.length : Int) - 1)).toNat * 1)) (by kernel_rfl) (tr (ofP_guard hg69)) (by kernel_rfl) (.pure (v := aU32 (gt v14 (wrapF .i64 ((b.length : Int) - 1)))) (by kernel_rfl) (tr (ofP_some (flat_get (iC_len .u32) (inR_lt hg69) (by decide : 0 < 1) (by omega : (wrapF .i64 ((b.length : Int) - 1)).toNat * 1 = (wrapF .i64 ((b.length : Int) - 1)).toNat * 1 + 0) (by kernel_rfl)))) (by kernel_rfl) (.mu 2 (.pure (v := aU64 (wrapF .u64 ((wrapF .u64 ((wrapF .u64 (v65 * 1000000000)) + v67)).tdiv (wrapF .u64 ((wrapF .u64 (gt v14 (wrapF .i64 ((b.length : Int) - 1)))) + 1))))) (by kernel_rfl) (op_quo (x := wrapF .u64 ((wrapF .u64 (v65 * 1000000000)) + v67)) (y := wrapF .u64 ((wrapF .u64 (gt v14 (wrapF .i64 ((b.length : Int) - 1)))) + 1)) (by kernel_rfl) (by kernel_rfl) hg70) (by kernel_rfl) (.mu 1 ?_))))))))))
     refine .done ⟨by kernel_rfl, ?_⟩
     refine .nh [0, 1, 6, 9, 10, 11, 12, 13] [.own (q_23.flatMap (iC .u32))] (.seq ?_)
     obtain ⟨v71, hc72, v73, hc74, hr⟩ := bd2 hr
     refine .gn G (ca1 (ok0 (fiducialref01_scaled_ok n v14 (wrapF .u64 ((wrapF .u64 ((wrapF .u64 (v65 * 1000000000)) + v67)).tdiv (wrapF .u64 ((wrapF .u64 (gt v14 (wrapF .i64 ((b.length : Int) - 1)))) + 1)))) v71 hc72)) (ca3 (ok0 (fiducialref01_minus_ok n v63 v71 v73 hc74)))) (.mu 3 (.ca cf0 (.ca (cfF cf0) (.mu 1 (.done (.nh [0, 1, 6, 9, 10, 11, 12, 13] [.own (q_23.flatMap (iC .u32))] (.seq (.block ?_))))))))
     replace hr := bd hr; obtain ⟨o90, hL91, hr⟩ := hr
     refine .loopO (σ := fun z0 => match z0 with | (r_75, g_76) => ⟨mkS 130 0 [(0, sU32 v12), (1, sU32 v14), (6, aI64 (b.length : Int)), (9, aU64 (wrapF .u64 ((1000000000 : Int).tdiv (wrapF .u64 ((wrapF .u64 (gt b (wrapF .i64 ((b.length : Int) - 1)))) + 1))))), (10, sU32 r_75), (11, .hs 0 0 q_23.length 1), (12, aI64 i_24), (13, aU64 g_76)], [.own (q_23.flatMap (iC .u32))]⟩) (Q := fun x st' => match (generalizing := false) o90 with | (r_82, g_83) => x = .exit 2 ∧ Wk 0 st' ⟨mkS 130 0 [(0, sU32 v12), (1, sU32 v14), (6, aI64 (b.length : Int)), (9, aU64 (wrapF .u64 ((1000000000 : Int).tdiv (wrapF .u64 ((wrapF .u64 (gt b (wrapF .i64 ((b.length : Int) - 1)))) + 1))))), (10, sU32 r_82), (11, .hs 0 0 q_23.length 1), (12, aI64 i_24), (13, aU64 g_83)], [.own (q_23.flatMap (iC .u32))]⟩) hL91 ((Wk.gc [0, 1, 6, 9, 10, 11, 12, 13] [(0, false)] rfl (pKo (iC .u32) (iC_pure _) q_23 trivial)).to) ?_ ?_
     ·clear hr
      rintro m ⟨r_75, g_76⟩ hr
      show CQ _ _ _ _ _ ⟨_, _⟩
      refine .seq (.seq ?_)
      obtain ⟨v85, hc86, hr⟩ := bd hr
      refine .g1 G (ok0 (fiducialref01_size_ok n r_75 v14 v85 hc86)) (.mu 2 (.ca cf0 (.mu 1 (.done (.nh [0, 1, 6, 9, 10, 11, 12, 13, 109] [.own (q_23.flatMap (iC .u32))] ?_)))))
      refine .cd hr ?_ ?_ <;> intro hb87 hr
      ·refine .skip (.block (.seq ?_))
       obtain ⟨v88, hc89, hr⟩ := bd hr
       refine .g1 G (ok0 (fiducialref01_minus_ok n r_75 v14 v88 hc89)) (.mu 2 (.ca cf0 (.mu 1 (.done (.nh [0, 1, 6, 9, 10, 11, 12, 13] [.own (q_23.flatMap (iC .u32))] (.ru G (.pop ?_)))))))
       exact loopF_back (v88, wrapF .u64 (g_76 + 1)) hr ((Wk.gc [0, 1, 6, 9, 10, 11, 12, 13] [(0, false)] rfl (pKo (iC .u32) (iC_pure _) q_23 trivial)).to)
      ·refine .leave rfl ?_
       obtain rfl := oi hr
       exact ⟨rfl, ((Wk.gc [0, 1, 6, 9, 10, 11, 12, 13] [(0, false)] rfl (pKo (iC .u32) (iC_pure _) q_23 trivial)).to)⟩
     ·rcases o90 with ⟨r_82, g_83⟩
      rintro x st' hq92
      clear hL91
      obtain ⟨rfl, hq92⟩ := hq92
      refine CQ_exit _ rfl (.wk hq92 ?_)
      obtain ⟨hg93, hr⟩ := gd hr
      refine .r0 G (.mu 4 (.p0 (v := .hp 0 (0 + i_24.toNat * 1)) (tr (ofP_guard hg93)) (.e0 (v := .unk) (ws := [(0, .own ((q_23.set i_24.toNat (wrapF .u32 g_83)).flatMap (iC .u32)))]) (tr (stO_t (and_t (flat_fits (n := 1) (iC_len .u32) (inR_lt hg93) (Nat.le_of_ble_eq_true rfl) (by omega : 0 + i_24.toNat * 1 = i_24.toNat * 1 + 0))) (congrArg Blk.own (flat_set (xs := [aU32 (wrapF .u32 g_83)]) (iC_len .u32) (inR_lt hg93) (Nat.le_of_ble_eq_true rfl) (by omega : 0 + i_24.toNat * 1 = i_24.toNat * 1 + 0) (by kernel_rfl))))) (.done (.pop (.ru G ?_))))))
      exact loopF_back (r_82, q_23.set i_24.toNat (wrapF .u32 g_83), wrapF .i64 (i_24 - 1)) hr ((Wk.relen 11 (b := 0) (es := 1) (len := q_23.length) (q_23.set i_24.toNat (wrapF .u32 g_83)).length (by kernel_rfl) (Eq.symm (List.length_set.trans rfl))).trans ((Wk.gc [0, 1, 6, 9, 10, 11, 12] [(0, false)] rfl (pKo (iC .u32) (iC_pure _) (q_23.set i_24.toNat (wrapF .u32 g_83)) trivial)).to))
    ·refine .leave rfl ?_
     obtain rfl := oi hr
     exact ⟨rfl, ((Wk.gc [9, 10, 11] [(0, false)] rfl (pKo (iC .u32) (iC_pure _) q_23 trivial)).to)⟩
   ·rcases o94 with ⟨r_58, q_59⟩
    rintro x st' hq96
    clear hL95
    obtain ⟨rfl, hq96⟩ := hq96
    refine CQ_exit _ rfl (.wk hq96 (.seq ?_))
    obtain ⟨v97, hc98, hr⟩ := bd hr
    refine .g1 G (ok0 (fiducialref01_short_ok n r_58 (wrapF .u64 ((1000000000 : Int).tdiv (wrapF .u64 ((wrapF .u64 (gt b (wrapF .i64 ((b.length : Int) - 1)))) + 1)))) v97 hc98)) (.mu 2 (.ca cf0 (.mu 5 (.done (.nh [11, 14] [.own (q_59.flatMap (iC .u32))] (.seq ?_))))))
    obtain ⟨v99, hc100, hr⟩ := bd hr
    refine .g1 G (callOk_ref (args := [aB false, .hs 0 0 q_59.length 1]) (l := [0]) (Sp (SnL.cons (Sn.hs rfl (.inl rfl) (SnC.pure (ids_flat (iC_pure _) _)) (fun h => flat_nil0 h)) SnL.nil)) (fiducialref01_made_ok n false q_59 v99 hc100)) (.mu 1 (.ca cf0 (.mu 4 (.done (.ret ?_)))))
    obtain rfl := oi hr
    exact FinQ.ret (vs := [sU32 v99.Groups, sU32 v97.1]) (by kernel_rfl) (Sn.tup (Sp (Sp SnL.nil)))

theorem fiducialref01_pair_inj {a : List Int} {a_ : List Int} (h : ([slT (iC .u32) a] : List AV) = [slT (iC .u32) a_]) : a = a_ := by
 simp only [List.cons.injEq, AV.agg.injEq, AV.at.injEq, Value.int.injEq, Value.bool.injEq, AV.fn.injEq, AV.pp.injEq, true_and, and_true, slT_inj_int] at h
 simp_all
theorem fiducialref01_pair_cg (n : Nat) {a : List Int} {a_ : List Int} (h : ([slT (iC .u32) a] : List AV) = [slT (iC .u32) a_]) : fiducialref01_pair n a = fiducialref01_pair n a_ := by
 obtain rfl := fiducialref01_pair_inj h
 rfl
theorem fiducialref01_pair_ok (n : Nat) (a : List Int) (r : Int) (hr : fiducialref01_pair n a = some r) : FnOk Tryz.prog 93 [sU32 a] (aU64 r) := by
 unfold fiducialref01_pair at hr
 refine FnOk.bd G Tryz.func93 [.tmp 2] ?_
 unfold Tryz.f93
 simp only [gS]
 refine .seq (.r4 G [0] [] (.seq ?_))
 obtain ⟨v1, hc2, v3, hc4, hr⟩ := bd2 hr
 refine .gn G (ca1 (ok0 (fiducialref01_group_ok n a 1 v1 hc2)) (ca3 (ok0 (fiducialref01_group_ok n a 0 v3 hc4)))) (.mu 1 (.ca cf0 (.mu 2 (.ca (cfA (fun h => by rw [sv hc4 hc2 (fiducialref01_group_cg n h)]) cf0) (.mu 2 (.done (.ret ?_)))))))
 obtain rfl := oi hr
 exact FinQ.r1 [aU64 (wrapF .u64 ((wrapF .u64 (v1 * 1000000000)) + v3))]

theorem fiducialref01_Gcd_ok (n : Nat) (x' : api_Int) (y : api_Int) (r : api_Int) (hr : fiducialref01_Gcd n x' y = some r) : FnOk Tryz.prog 55 [.agg (api_Int.c x'), .agg (api_Int.c y)] (.agg (api_Int.c r)) := by
 unfold fiducialref01_Gcd at hr
 refine FnOk.bd G Tryz.func55 [.cell 4 31] ?_
 unfold Tryz.f55
 simp only [gS]
 refine .seq (.r2 G 61 [(2, .hp 0 0), (3, .hp 1 0), (4, .hp 2 0)] [.own (api_Int.c x'), .own (api_Int.c y), .own [aB false, nS]] (.seq ?_))
 obtain ⟨v1, hc2, v3, hc4, hr⟩ := bd2 hr
 refine .tn G (ca1 (ok0 (fiducialref01_Value_ok n x' v1 hc2)) (ca3 (ok0 (fiducialref01_Value_ok n y v3 hc4)))) (.mu 1 (.ca cf0 (.mu 2 (.ca (cfA (fun h => by rw [sv hc4 hc2 (fiducialref01_Value_cg n h)]) cf0) (.mu 3 ?_)))))
 refine .done ⟨by kernel_rfl, ?_⟩
 refine .nh [4, 5, 6] [.own (api_Int.c x'), .own (api_Int.c y), .own [aB false, nS]] (.seq (.block ?_))
 replace hr := bd hr; obtain ⟨o24, hL25, hr⟩ := hr
 refine .loopO (σ := fun z0 => match z0 with | (a_5, b_6) => ⟨mkS 61 0 [(4, .hp 0 0), (5, sU32 a_5), (6, sU32 b_6)], [.own [aB false, nS]]⟩) (Q := fun x st' => match (generalizing := false) o24 with | (a_14, b_15) => x = .exit 0 ∧ Wk 0 st' ⟨mkS 61 0 [(4, .hp 0 0), (5, sU32 a_14), (6, sU32 b_15)], [.own [aB false, nS]]⟩) hL25 ((Wk.gc [4, 5, 6] [(2, true)] rfl trivial).to) ?_ ?_
 ·clear hr
  rintro m ⟨a_5, b_6⟩ hr
  show CQ _ _ _ _ _ ⟨_, _⟩
  refine .seq (.seq ?_)
  rcases bT (decide ((b_6.length : Int) > 0)) with hb17 | hb17
  ·replace hr := cd_t hb17 hr
   rcases bT (decide ((a_5.length : Int) > 2)) with hb18 | hb18
   ·replace hr := cd_t hb18 hr
    refine .r0 G (.mu 2 (.p0 (v := aB true) (eB hb17) (.mu 3 (.pure (v := aB true) (by kernel_rfl) (eB hb18) (.mu 6 (.done (.nh [4, 5, 6, 29] [.own [aB false, nS]] (.cT (by kernel_rfl) (.skip (.block (.seq ?_)))))))))))
    obtain ⟨v19, hc20, hr⟩ := bd hr
    refine .g1 G (ok0 (fiducialref01_parts_ok n a_5 b_6 v19 hc20)) (.mu 2 (.ca cf0 (.mu 5 (.done (.nh [4, 6, 8] [.own [aB false, nS]] (.ru G (.pop ?_)))))))
    exact loopF_back (b_6, v19.2) hr ((Wk.gc [4, 5, 6] [(0, true)] rfl trivial).to)
   ·replace hr := cd_f hb18 hr
    refine .r0 G (.mu 2 (.p0 (v := aB true) (eB hb17) (.mu 3 (.pure (v := aB false) (by kernel_rfl) (eB hb18) (.mu 6 (.done (.nh [4, 5, 6, 29] [.own [aB false, nS]] ?_)))))))
    refine .cd hr ?_ ?_ <;> intro hb21 hr
    ·refine .skip (.block (.seq ?_))
     obtain ⟨v22, hc23, hr⟩ := bd hr
     refine .g1 G (ok0 (fiducialref01_parts_ok n a_5 b_6 v22 hc23)) (.mu 2 (.ca cf0 (.mu 5 (.done (.nh [4, 6, 8] [.own [aB false, nS]] (.ru G (.pop ?_)))))))
     exact loopF_back (b_6, v22.2) hr ((Wk.gc [4, 5, 6] [(0, true)] rfl trivial).to)
    ·refine .leave rfl ?_
     obtain rfl := oi hr
     exact ⟨rfl, ((Wk.gc [4, 5, 6] [(0, true)] rfl trivial).to)⟩
  ·replace hr := cd_f hb17 hr
   refine .r0 G (.mu 2 (.p0 (v := aB false) (eB hb17) (.mu 10 (.done (.nh [4, 5, 6, 29] [.own [aB false, nS]] (.cF (by kernel_rfl) (.leave rfl ?_)))))))
   obtain rfl := oi hr
   exact ⟨rfl, ((Wk.gc [4, 5, 6] [(0, true)] rfl trivial).to)⟩
 ·rcases o24 with ⟨a_14, b_15⟩
  rintro x st' hq26
  clear hL25
  obtain ⟨rfl, hq26⟩ := hq26
  refine CQ_exit _ rfl (.wk hq26 (.seq (.seq (.r4 G [4, 5, 6] [(40, aB (((b_15.length : Int) : Int) == 0))] ?_))))
  refine .cd hr ?_ ?_ <;> intro hb27 hr
  ·refine .seq ?_
   obtain ⟨v28, hc29, hr⟩ := bd hr
   refine .g1 G (ok0 (fiducialref01_made_ok n false a_14 v28 hc29)) (.mu 1 (.ca cf0 (.mu 1 (.done (.nh [4] [.own (api_Int.c v28)] (.ret ?_))))))
   obtain rfl := oi hr
   exact FinQ.r1 [.agg (api_Int.c v28)]
  ·refine .skip (.seq ?_)
   obtain ⟨v30, hc31, v32, hc33, hr⟩ := bd2 hr
   refine .gn G (ca1 (ok0 (fiducialref01_pair_ok n a_14 v30 hc31)) (ca3 (ok0 (fiducialref01_pair_ok n b_15 v32 hc33)))) (.mu 1 (.ca cf0 (.mu 1 (.ca (cfA (fun h => by rw [sv hc33 hc31 (fiducialref01_pair_cg n h)]) cf0) (.mu 2 (.done (.nh [4, 9, 10] [.own [aB false, nS]] (.seq (.block ?_)))))))))
   replace hr := bd hr; obtain ⟨u_38, hL43, hr⟩ := hr
   refine .loopO (σ := fun z0 => match z0 with | (u_34, v_35) => ⟨mkS 61 0 [(4, .hp 0 0), (9, aU64 u_34), (10, aU64 v_35)], [.own [aB false, nS]]⟩) (Q := fun x st' => x = .exit 2 ∧ Wk 0 st' ⟨mkS 61 0 [(4, .hp 0 0), (9, aU64 u_38)], [.own [aB false, nS]]⟩) hL43 ((Wk.gc [4, 9, 10] [(0, true)] rfl trivial).to) ?_ ?_
   ·clear hr
    rintro m ⟨u_34, v_35⟩ hr
    show CQ _ _ _ _ _ ⟨_, _⟩
    refine .seq (.seq (.r4 G [4, 9, 10] [(48, aB (decide (v_35 > 0)))] ?_))
    refine .cd hr ?_ ?_ <;> intro hb40 hr
    ·refine .skip (.block ?_)
     obtain ⟨hg41, hr⟩ := gd hr
     refine .regionT G callOf_nil (.mu 3 (.pure (v := aU64 (u_34.tmod v_35)) (by kernel_rfl) (op_rem (x := u_34) (y := v_35) (by kernel_rfl) (by kernel_rfl) hg41) (by kernel_rfl) (.mu 2 ?_)))
     refine .done ⟨by kernel_rfl, ?_⟩
     refine .pop ?_
     exact loopF_back (v_35, u_34.tmod v_35) hr ((Wk.gc [4, 9, 10] [(0, true)] rfl trivial).to)
    ·refine .leave rfl ?_
     obtain rfl := oi hr
     exact ⟨rfl, ((Wk.gc [4, 9] [(0, true)] rfl trivial).to)⟩
   ·rintro x st' hq44
    clear hL43
    obtain ⟨rfl, hq44⟩ := hq44
    refine CQ_exit _ rfl (.wk hq44 (.seq ?_))
    obtain ⟨v45, hc46, hr⟩ := bd hr
    refine .gn G (ca4 [.own [aB false, nS], .own [aU32 (wrapF .u32 (u_38.tmod 1000000000)), aU32 (wrapF .u32 (wrapF .u64 (u_38.tdiv 1000000000)))]] (callOk_ref (args := [aB false, .hs 1 0 2 1]) (l := [1]) (Sp (SnL.cons (Sn.hs rfl (.inl rfl) (SnC.cons (Sn.pure rfl) (SnC.cons (Sn.pure rfl) SnC.nil)) (fun h => nomatch h)) SnL.nil)) (fiducialref01_made_ok n false [(wrapF .u32 (u_38.tmod 1000000000)), (wrapF .u32 (wrapF .u64 (u_38.tdiv 1000000000)))] v45 hc46))) (.mu 7 (.ca cf0 (.mu 1 (.done (.nh [4] [.own (api_Int.c v45), .fix [aU32 (wrapF .u32 (u_38.tmod 1000000000)), aU32 (wrapF .u32 (wrapF .u64 (u_38.tdiv 1000000000)))]] (.ret ?_))))))
    obtain rfl := oi hr
    exact FinQ.r1 [.agg (api_Int.c v45)]

theorem fiducialref01_Neg_ok (n : Nat) (x' : api_Int) (r : api_Int) (hr : fiducialref01_Neg n x' = some r) : FnOk Tryz.prog 95 [.agg (api_Int.c x')] (.agg (api_Int.c r)) := by
 unfold fiducialref01_Neg at hr
 refine FnOk.bd G Tryz.func95 [.cell 2 31] ?_
 unfold Tryz.f95
 simp only [gS]
 refine .seq (.r2 G 11 [(1, .hp 0 0), (2, .hp 1 0)] [.own (api_Int.c x'), .own [aB false, nS]] (.seq ?_))
 obtain ⟨v1, hc2, hr⟩ := bd hr
 refine .g1 G (ok0 (fiducialref01_Value_ok n x' v1 hc2)) (.mu 1 (.ca cf0 (.mu 1 (.done (.nh [1, 2] [.own (api_Int.c v1), .own [aB false, nS]] (.seq ?_))))))
 obtain ⟨v3, hc4, hr⟩ := bd hr
 refine .g1 G (ok0 (fiducialref01_made_ok n (!v1.Negative) v1.Groups v3 hc4)) (.mu 5 (.ca cf0 (.mu 1 (.done (.nh [2] [.own (api_Int.c v1), .own (api_Int.c v3)] (.ret ?_))))))
 obtain rfl := oi hr
 exact FinQ.r1 [.agg (api_Int.c v3)]

theorem fiducialref01_plus_ok (n : Nat) (a : List Int) (b : List Int) (r : List Int) (hr : fiducialref01_plus n a b = some r) : FnOk Tryz.prog 97 [sU32 a, sU32 b] (sU32 r) := by
 unfold fiducialref01_plus at hr
 refine FnOk.bd G Tryz.func97 [.tmp 4] ?_
 unfold Tryz.f97
 simp only [gS]
 refine .seq (.r4 G [0, 1] [] (.seq (.r5 G [0, 1] [(5, .hs 0 0 0 1)] [.own []] (.seq (.r4 G [0, 1, 5] [(6, aU64 0)] (.seq (.seq (.r4 G [0, 1, 5, 6] [(7, aI64 0)] (.block ?_)))))))))
 replace hr := bd hr; obtain ⟨o35, hL36, hr⟩ := hr
 refine .loopO (σ := fun z0 => match z0 with | (o_1, c_2, i_3) => ⟨mkS 46 0 [(0, sU32 a), (1, sU32 b), (5, .hs 0 0 o_1.length 1), (6, aU64 c_2), (7, aI64 i_3)], [.own (o_1.flatMap (iC .u32))]⟩) (Q := fun x st' => match (generalizing := false) o35 with | (o_18, c_19) => x = .exit 0 ∧ Wk 0 st' ⟨mkS 46 0 [(5, .hs 0 0 o_18.length 1), (6, aU64 c_19)], [.own (o_18.flatMap (iC .u32))]⟩) hL36 ((Wk.gc [0, 1, 5, 6, 7] [(0, false)] rfl (pKc trivial)).to) ?_ ?_
 ·clear hr
  rintro m ⟨o_1, c_2, i_3⟩ hr
  show CQ _ _ _ _ _ ⟨_, _⟩
  refine .seq (.seq ?_)
  rcases bT (decide (i_3 < (a.length : Int))) with hb21 | hb21
  ·replace hr := cd_t hb21 hr
   refine .r0 G (.mu 3 (.p0 (v := aB true) (eB hb21) (.mu 6 (.done (.nh [0, 1, 5, 6, 7, 19] [.own (o_1.flatMap (iC .u32))] (.cT (by kernel_rfl) (.skip (.seq (.block (.seq ?_))))))))))
   obtain ⟨v22, hc23, v24, hc25, hr⟩ := bd2 hr
   refine .gn G (ca1 (ok0 (fiducialref01_group_ok n a i_3 v22 hc23)) (ca3 (ok0 (fiducialref01_group_ok n b i_3 v24 hc25)))) (.mu 2 (.ca cf0 (.mu 2 (.ca (cfA (fun h => by rw [sv hc25 hc23 (fiducialref01_group_cg n h)]) cf0) (.mu 4 (.done (.nh [0, 1, 5, 7, 8] [.own (o_1.flatMap (iC .u32))] (.seq ?_))))))))
   obtain ⟨hg26, hg27, hr⟩ := gd2 hr
   refine .r0 G (.mu 5 (.e0 (v := .hs 2 0 (o_1 ++ [wrapF .u32 ((wrapF .u64 ((wrapF .u64 (v22 + v24)) + c_2)).tmod 1000000000)]).length 1) (ws := [(0, .dead), (2, .own ((o_1 ++ [wrapF .u32 ((wrapF .u64 ((wrapF .u64 (v22 + v24)) + c_2)).tmod 1000000000)]).flatMap (iC .u32)))]) (tr (app_own (new := [aU32 (wrapF .u32 ((wrapF .u64 ((wrapF .u64 (v22 + v24)) + c_2)).tmod 1000000000))]) (l := o_1) (xs := [wrapF .u32 ((wrapF .u64 ((wrapF .u64 (v22 + v24)) + c_2)).tmod 1000000000)]) (iC_len .u32) rfl rfl (by kernel_rfl) hg26 hg27)) (.mu 1 (.done (.nh [0, 1, 5, 7, 8] [.dead, .own [aU32 (wrapF .u32 ((wrapF .u64 ((wrapF .u64 (v22 + v24)) + c_2)).tmod 1000000000))], .own ((o_1 ++ [wrapF .u32 ((wrapF .u64 ((wrapF .u64 (v22 + v24)) + c_2)).tmod 1000000000)]).flatMap (iC .u32))] (.ru G (.pop (.ru G ?_))))))))
   exact loopF_back (o_1 ++ [wrapF .u32 ((wrapF .u64 ((wrapF .u64 (v22 + v24)) + c_2)).tmod 1000000000)], wrapF .u64 ((wrapF .u64 ((wrapF .u64 (v22 + v24)) + c_2)).tdiv 1000000000), wrapF .i64 (i_3 + 1)) hr ((Wk.gc [0, 1, 5, 6, 7] [(2, false)] rfl (pKo (iC .u32) (iC_pure _) (o_1 ++ [wrapF .u32 ((wrapF .u64 ((wrapF .u64 (v22 + v24)) + c_2)).tmod 1000000000)]) trivial)).to)
  ·replace hr := cd_f hb21 hr
   refine .r0 G (.mu 3 (.p0 (v := aB false) (eB hb21) (.mu 6 (.done (.nh [0, 1, 5, 6, 7, 19] [.own (o_1.flatMap (iC .u32))] ?_)))))
   refine .cd hr ?_ ?_ <;> intro hb28 hr
   ·refine .skip (.seq (.block (.seq ?_)))
    obtain ⟨v29, hc30, v31, hc32, hr⟩ := bd2 hr
    refine .gn G (ca1 (ok0 (fiducialref01_group_ok n a i_3 v29 hc30)) (ca3 (ok0 (fiducialref01_group_ok n b i_3 v31 hc32)))) (.mu 2 (.ca cf0 (.mu 2 (.ca (cfA (fun h => by rw [sv hc32 hc30 (fiducialref01_group_cg n h)]) cf0) (.mu 4 (.done (.nh [0, 1, 5, 7, 8] [.own (o_1.flatMap (iC .u32))] (.seq ?_))))))))
    obtain ⟨hg33, hg34, hr⟩ := gd2 hr
    refine .r0 G (.mu 5 (.e0 (v := .hs 2 0 (o_1 ++ [wrapF .u32 ((wrapF .u64 ((wrapF .u64 (v29 + v31)) + c_2)).tmod 1000000000)]).length 1) (ws := [(0, .dead), (2, .own ((o_1 ++ [wrapF .u32 ((wrapF .u64 ((wrapF .u64 (v29 + v31)) + c_2)).tmod 1000000000)]).flatMap (iC .u32)))]) (tr (app_own (new := [aU32 (wrapF .u32 ((wrapF .u64 ((wrapF .u64 (v29 + v31)) + c_2)).tmod 1000000000))]) (l := o_1) (xs := [wrapF .u32 ((wrapF .u64 ((wrapF .u64 (v29 + v31)) + c_2)).tmod 1000000000)]) (iC_len .u32) rfl rfl (by kernel_rfl) hg33 hg34)) (.mu 1 (.done (.nh [0, 1, 5, 7, 8] [.dead, .own [aU32 (wrapF .u32 ((wrapF .u64 ((wrapF .u64 (v29 + v31)) + c_2)).tmod 1000000000))], .own ((o_1 ++ [wrapF .u32 ((wrapF .u64 ((wrapF .u64 (v29 + v31)) + c_2)).tmod 1000000000)]).flatMap (iC .u32))] (.ru G (.pop (.ru G ?_))))))))
    exact loopF_back (o_1 ++ [wrapF .u32 ((wrapF .u64 ((wrapF .u64 (v29 + v31)) + c_2)).tmod 1000000000)], wrapF .u64 ((wrapF .u64 ((wrapF .u64 (v29 + v31)) + c_2)).tdiv 1000000000), wrapF .i64 (i_3 + 1)) hr ((Wk.gc [0, 1, 5, 6, 7] [(2, false)] rfl (pKo (iC .u32) (iC_pure _) (o_1 ++ [wrapF .u32 ((wrapF .u64 ((wrapF .u64 (v29 + v31)) + c_2)).tmod 1000000000)]) trivial)).to)
   ·refine .leave rfl ?_
    obtain rfl := oi hr
    exact ⟨rfl, ((Wk.gc [5, 6] [(0, false)] rfl (pKo (iC .u32) (iC_pure _) o_1 trivial)).to)⟩
 ·rcases o35 with ⟨o_18, c_19⟩
  rintro x st' hq37
  clear hL36
  obtain ⟨rfl, hq37⟩ := hq37
  refine CQ_exit _ rfl (.wk hq37 (.seq ?_))
  obtain ⟨hg38, hg39, hr⟩ := gd2 hr
  obtain ⟨v40, hc41, hr⟩ := bd hr
  refine .gn G (ca4 [.dead, .own [aU32 (wrapF .u32 c_19)], .own ((o_18 ++ [wrapF .u32 c_19]).flatMap (iC .u32))] (callOk_ref (args := [aB false, .hs 2 0 (o_18 ++ [wrapF .u32 c_19]).length 1]) (l := [2]) (Sp (SnL.cons (Sn.hs rfl (.inl rfl) (SnC.pure (ids_flat (iC_pure _) _)) (fun h => flat_nil0 h)) SnL.nil)) (fiducialref01_made_ok n false (o_18 ++ [wrapF .u32 c_19]) v40 hc41))) (.mu 4 (.e0 (v := .hs 2 0 (o_18 ++ [wrapF .u32 c_19]).length 1) (ws := [(0, .dead), (2, .own ((o_18 ++ [wrapF .u32 c_19]).flatMap (iC .u32)))]) (tr (app_own (new := [aU32 (wrapF .u32 c_19)]) (l := o_18) (xs := [wrapF .u32 c_19]) (iC_len .u32) rfl rfl (by kernel_rfl) hg38 hg39)) (.ca cf0 (.mu 2 (.done (.ret ?_))))))
  obtain rfl := oi hr
  exact FinQ.r1 [sU32 v40.Groups]

theorem fiducialref01_Add_ok (n : Nat) (x' : api_Int) (y : api_Int) (r : api_Int) (hr : fiducialref01_Add n x' y = some r) : FnOk Tryz.prog 59 [.agg (api_Int.c x'), .agg (api_Int.c y)] (.agg (api_Int.c r)) := by
 unfold fiducialref01_Add at hr
 refine FnOk.bd G Tryz.func59 [.cell 4 31] ?_
 unfold Tryz.f59
 simp only [gS]
 refine .seq (.r2 G 44 [(2, .hp 0 0), (3, .hp 1 0), (4, .hp 2 0)] [.own (api_Int.c x'), .own (api_Int.c y), .own [aB false, nS]] (.seq ?_))
 obtain ⟨v1, hc2, v3, hc4, hr⟩ := bd2 hr
 refine .tn G (ca1 (ok0 (fiducialref01_Value_ok n x' v1 hc2)) (ca3 (ok0 (fiducialref01_Value_ok n y v3 hc4)))) (.mu 1 (.ca cf0 (.mu 1 (.ca (cfA (fun h => by rw [sv hc4 hc2 (fiducialref01_Value_cg n h)]) cf0) (.mu 2 ?_)))))
 refine .done ⟨by kernel_rfl, ?_⟩
 refine .nh [2, 3, 4] [.own (api_Int.c v1), .own (api_Int.c v3), .own [aB false, nS]] (.seq (.seq (.r4 G [2, 3, 4] [(13, aB (v1.Negative == v3.Negative))] ?_)))
 refine .cd hr ?_ ?_ <;> intro hb5 hr
 ·refine .seq ?_
  obtain ⟨v6, hc7, v8, hc9, hr⟩ := bd2 hr
  refine .tn G (ca1 (ok0 (fiducialref01_plus_ok n v1.Groups v3.Groups v6 hc7)) (ca3 (ok0 (fiducialref01_made_ok n v1.Negative v6 v8 hc9)))) (.mu 6 (.ca cf0 (.ca (cfF cf0) (.mu 1 ?_))))
  refine .done ⟨by kernel_rfl, ?_⟩
  refine .nh [4] [.own (api_Int.c v1), .own (api_Int.c v3), .own (api_Int.c v8)] (.ret ?_)
  obtain rfl := oi hr
  exact FinQ.r1 [.agg (api_Int.c v8)]
 ·refine .skip (.seq (.seq ?_))
  obtain ⟨v10, hc11, hr⟩ := bd hr
  refine .g1 G (ok0 (fiducialref01_size_ok n v1.Groups v3.Groups v10 hc11)) (.mu 4 (.ca cf0 (.mu 1 (.done (.nh [2, 3, 4, 27] [.own (api_Int.c v1), .own (api_Int.c v3), .own [aB false, nS]] ?_)))))
  refine .cd hr ?_ ?_ <;> intro hb12 hr
  ·refine .seq ?_
   obtain ⟨v13, hc14, v15, hc16, hr⟩ := bd2 hr
   refine .tn G (ca1 (ok0 (fiducialref01_minus_ok n v1.Groups v3.Groups v13 hc14)) (ca3 (ok0 (fiducialref01_made_ok n v1.Negative v13 v15 hc16)))) (.mu 6 (.ca cf0 (.ca (cfF cf0) (.mu 1 ?_))))
   refine .done ⟨by kernel_rfl, ?_⟩
   refine .nh [4] [.own (api_Int.c v1), .own (api_Int.c v3), .own (api_Int.c v15)] (.ret ?_)
   obtain rfl := oi hr
   exact FinQ.r1 [.agg (api_Int.c v15)]
  ·refine .skip (.seq ?_)
   obtain ⟨v17, hc18, v19, hc20, hr⟩ := bd2 hr
   refine .tn G (ca1 (ok0 (fiducialref01_minus_ok n v3.Groups v1.Groups v17 hc18)) (ca3 (ok0 (fiducialref01_made_ok n v3.Negative v17 v19 hc20)))) (.mu 6 (.ca cf0 (.ca (cfF cf0) (.mu 1 ?_))))
   refine .done ⟨by kernel_rfl, ?_⟩
   refine .nh [4] [.own (api_Int.c v1), .own (api_Int.c v3), .own (api_Int.c v19)] (.ret ?_)
   obtain rfl := oi hr
   exact FinQ.r1 [.agg (api_Int.c v19)]

theorem fiducialref01_Sub_ok (n : Nat) (x' : api_Int) (y : api_Int) (r : api_Int) (hr : fiducialref01_Sub n x' y = some r) : FnOk Tryz.prog 91 [.agg (api_Int.c x'), .agg (api_Int.c y)] (.agg (api_Int.c r)) := by
 unfold fiducialref01_Sub at hr
 refine FnOk.bd G Tryz.func91 [.cell 4 31] ?_
 unfold Tryz.f91
 simp only [gS]
 refine .seq (.r2 G 9 [(2, .hp 0 0), (3, .hp 1 0), (4, .hp 2 0)] [.own (api_Int.c x'), .own (api_Int.c y), .own [aB false, nS]] (.seq ?_))
 obtain ⟨v1, hc2, v3, hc4, hr⟩ := bd2 hr
 refine .tn G (ca1 (ok0 (fiducialref01_Neg_ok n y v1 hc2)) (ca3 (ok0 (fiducialref01_Add_ok n x' v1 v3 hc4)))) (.mu 2 (.ca cf0 (.ca (cfF cf0) (.mu 1 ?_))))
 refine .done ⟨by kernel_rfl, ?_⟩
 refine .nh [4] [.own (api_Int.c x'), .own (api_Int.c y), .own (api_Int.c v3)] (.ret ?_)
 obtain rfl := oi hr
 exact FinQ.r1 [.agg (api_Int.c v3)]

theorem fiducialref01_Mul_inj {x' : api_Int} {y : api_Int} {x'_ : api_Int} {y_ : api_Int} (h : ([.agg [.at (.bool x'.Negative), slT (iC .u32) x'.Groups], .agg [.at (.bool y.Negative), slT (iC .u32) y.Groups]] : List AV) = [.agg [.at (.bool x'_.Negative), slT (iC .u32) x'_.Groups], .agg [.at (.bool y_.Negative), slT (iC .u32) y_.Groups]]) : x' = x'_ ∧ y = y_ := by
 obtain ⟨_, _⟩ := x'
 obtain ⟨_, _⟩ := x'_
 obtain ⟨_, _⟩ := y
 obtain ⟨_, _⟩ := y_
 simp only [List.cons.injEq, AV.agg.injEq, AV.at.injEq, Value.int.injEq, Value.bool.injEq, AV.fn.injEq, AV.pp.injEq, true_and, and_true, slT_inj_int] at h
 simp_all
theorem fiducialref01_Mul_cg (n : Nat) {x' : api_Int} {y : api_Int} {x'_ : api_Int} {y_ : api_Int} (h : ([.agg [.at (.bool x'.Negative), slT (iC .u32) x'.Groups], .agg [.at (.bool y.Negative), slT (iC .u32) y.Groups]] : List AV) = [.agg [.at (.bool x'_.Negative), slT (iC .u32) x'_.Groups], .agg [.at (.bool y_.Negative), slT (iC .u32) y_.Groups]]) : fiducialref01_Mul n x' y = fiducialref01_Mul n x'_ y_ := by
 obtain ⟨rfl, rfl⟩ := fiducialref01_Mul_inj h
 rfl
theorem fiducialref01_Mul_ok (n : Nat) (x' : api_Int) (y : api_Int) (r : api_Int) (hr : fiducialref01_Mul n x' y = some r) : FnOk Tryz.prog 60 [.agg (api_Int.c x'), .agg (api_Int.c y)] (.agg (api_Int.c r)) := by
 unfold fiducialref01_Mul at hr
 refine FnOk.bd G Tryz.func60 [.cell 4 31] ?_
 unfold Tryz.f60
 simp only [gS]
 refine .seq (.r2 G 85 [(2, .hp 0 0), (3, .hp 1 0), (4, .hp 2 0)] [.own (api_Int.c x'), .own (api_Int.c y), .own [aB false, nS]] (.seq ?_))
 obtain ⟨v1, hc2, v3, hc4, hr⟩ := bd2 hr
 refine .tn G (ca1 (ok0 (fiducialref01_Value_ok n x' v1 hc2)) (ca3 (ok0 (fiducialref01_Value_ok n y v3 hc4)))) (.mu 1 (.ca cf0 (.mu 1 (.ca (cfA (fun h => by rw [sv hc4 hc2 (fiducialref01_Value_cg n h)]) cf0) (.mu 2 ?_)))))
 refine .done ⟨by kernel_rfl, ?_⟩
 refine .nh [2, 3, 4] [.own (api_Int.c v1), .own (api_Int.c v3), .own [aB false, nS]] (.seq ?_)
 obtain ⟨hg5, hg6, hg7, hr⟩ := gd3 hr
 refine .r0 G (.mu 7 (.e0 (v := .hs 3 0 (List.replicate (wrapF .i64 ((v1.Groups.length : Int) + (v3.Groups.length : Int))).toNat ((0 : Int) : Int)).length 1) (ws := [(3, .own ((List.replicate (wrapF .i64 ((v1.Groups.length : Int) + (v3.Groups.length : Int))).toNat ((0 : Int) : Int)).flatMap (iC .u32)))]) (tr (make_own (c := (iC .u32)) (z := (0 : Int)) (n := wrapF .i64 ((v1.Groups.length : Int) + (v3.Groups.length : Int))) (by_ := 4) rfl hg5 hg6 hg7)) (.mu 1 (.done (.nh [2, 3, 4, 5] [.own (api_Int.c v1), .own (api_Int.c v3), .own [aB false, nS], .own ((List.replicate (wrapF .i64 ((v1.Groups.length : Int) + (v3.Groups.length : Int))).toNat ((0 : Int) : Int)).flatMap (iC .u32))] (.seq (.seq (.r4 G [2, 3, 4, 5] [(6, aI64 0)] (.block ?_)))))))))
 replace hr := bd hr; obtain ⟨o_29, hL51, hr⟩ := hr
 refine .loopO (σ := fun z0 => match z0 with | (o_8, i_9) => ⟨mkS 85 0 [(2, .hp 0 0), (3, .hp 1 0), (4, .hp 2 0), (5, .hs 3 0 o_8.length 1), (6, aI64 i_9)], [.own (api_Int.c v1), .own (api_Int.c v3), .own [aB false, nS], .own (o_8.flatMap (iC .u32))]⟩) (Q := fun x st' => x = .exit 0 ∧ Wk 0 st' ⟨mkS 85 0 [(2, .hp 0 0), (3, .hp 1 0), (4, .hp 2 0), (5, .hs 3 0 o_29.length 1)], [.own (api_Int.c v1), .own (api_Int.c v3), .own [aB false, nS], .own (o_29.flatMap (iC .u32))]⟩) hL51 ((Wk.gc [2, 3, 4, 5, 6] [(0, true), (1, true), (2, true), (3, false)] rfl (pKt (pKt (pKt (pKo (iC .u32) (iC_pure _) (List.replicate (wrapF .i64 ((v1.Groups.length : Int) + (v3.Groups.length : Int))).toNat ((0 : Int) : Int)) trivial))))).to) ?_ ?_
 ·clear hr
  rintro m ⟨o_8, i_9⟩ hr
  show CQ _ _ _ _ _ ⟨_, _⟩
  refine .seq (.seq (.r4 G [2, 3, 4, 5, 6] [(26, aB (decide (i_9 < (v1.Groups.length : Int))))] ?_))
  refine .cd hr ?_ ?_ <;> intro hb31 hr
  ·refine .skip (.seq (.block (.seq (.r4 G [2, 3, 4, 5, 6] [(7, aU64 0)] (.seq (.seq (.r4 G [2, 3, 4, 5, 6, 7] [(8, aI64 0)] (.block ?_))))))))
   replace hr := bd hr; obtain ⟨o46, hL47, hr⟩ := hr
   refine .loopO (σ := fun z0 => match z0 with | (o_32, c_33, j_34) => ⟨mkS 85 0 [(2, .hp 0 0), (3, .hp 1 0), (4, .hp 2 0), (5, .hs 3 0 o_32.length 1), (6, aI64 i_9), (7, aU64 c_33), (8, aI64 j_34)], [.own (api_Int.c v1), .own (api_Int.c v3), .own [aB false, nS], .own (o_32.flatMap (iC .u32))]⟩) (Q := fun x st' => match (generalizing := false) o46 with | (o_39, c_40) => x = .exit 2 ∧ Wk 0 st' ⟨mkS 85 0 [(2, .hp 0 0), (3, .hp 1 0), (4, .hp 2 0), (5, .hs 3 0 o_39.length 1), (6, aI64 i_9), (7, aU64 c_40)], [.own (api_Int.c v1), .own (api_Int.c v3), .own [aB false, nS], .own (o_39.flatMap (iC .u32))]⟩) hL47 ((Wk.gc [2, 3, 4, 5, 6, 7, 8] [(0, true), (1, true), (2, true), (3, false)] rfl (pKt (pKt (pKt (pKo (iC .u32) (iC_pure _) o_8 trivial))))).to) ?_ ?_
   ·clear hr
    rintro m ⟨o_32, c_33, j_34⟩ hr
    show CQ _ _ _ _ _ ⟨_, _⟩
    refine .seq (.seq (.r4 G [2, 3, 4, 5, 6, 7, 8] [(33, aB (decide (j_34 < (v3.Groups.length : Int))))] ?_))
    refine .cd hr ?_ ?_ <;> intro hb42 hr
    ·refine .skip (.seq (.block (.seq ?_)))
     obtain ⟨hg43, hg44, hg45, hr⟩ := gd3 hr
     refine .regionT G callOf_nil (.mu 4 (.pure (v := .hp 3 (0 + (wrapF .i64 (i_9 + j_34)).toNat * 1)) (by kernel_rfl) (tr (ofP_guard hg43)) (by kernel_rfl) (.pure (v := aU32 (gt o_32 (wrapF .i64 (i_9 + j_34)))) (by kernel_rfl) (tr (ofP_some (flat_get (iC_len .u32) (inR_lt hg43) (by decide : 0 < 1) (by omega : 0 + (wrapF .i64 (i_9 + j_34)).toNat * 1 = (wrapF .i64 (i_9 + j_34)).toNat * 1 + 0) (by kernel_rfl)))) (by kernel_rfl) (.mu 4 (.pure (v := .pp (v1.Groups.flatMap (iC .u32)) (i_9.toNat * 1)) (by kernel_rfl) (tr (ofP_guard hg44)) (by kernel_rfl) (.pure (v := aU32 (gt v1.Groups i_9)) (by kernel_rfl) (tr (ofP_some (flat_get (iC_len .u32) (inR_lt hg44) (by decide : 0 < 1) (by omega : i_9.toNat * 1 = i_9.toNat * 1 + 0) (by kernel_rfl)))) (by kernel_rfl) (.mu 4 (.pure (v := .pp (v3.Groups.flatMap (iC .u32)) (j_34.toNat * 1)) (by kernel_rfl) (tr (ofP_guard hg45)) (by kernel_rfl) (.pure (v := aU32 (gt v3.Groups j_34)) (by kernel_rfl) (tr (ofP_some (flat_get (iC_len .u32) (inR_lt hg45) (by decide : 0 < 1) (by omega : j_34.toNat * 1 = j_34.toNat * 1 + 0) (by kernel_rfl)))) (by kernel_rfl) (.mu 6 ?_))))))))))
     refine .done ⟨by kernel_rfl, ?_⟩
     refine .nh [2, 3, 4, 5, 6, 8, 9] [.own (api_Int.c v1), .own (api_Int.c v3), .own [aB false, nS], .own (o_32.flatMap (iC .u32))] (.seq (.r0 G (.mu 7 (.p0 (v := .hp 3 (0 + (wrapF .i64 (i_9 + j_34)).toNat * 1)) (tr (ofP_guard hg43)) (.e0 (v := .unk) (ws := [(3, .own ((o_32.set (wrapF .i64 (i_9 + j_34)).toNat (wrapF .u32 ((wrapF .u64 ((wrapF .u64 ((wrapF .u64 (gt o_32 (wrapF .i64 (i_9 + j_34)))) + (wrapF .u64 ((wrapF .u64 (gt v1.Groups i_9)) * (wrapF .u64 (gt v3.Groups j_34)))))) + c_33)).tmod 1000000000))).flatMap (iC .u32)))]) (tr (stO_t (and_t (flat_fits (n := 1) (iC_len .u32) (inR_lt hg43) (Nat.le_of_ble_eq_true rfl) (by omega : 0 + (wrapF .i64 (i_9 + j_34)).toNat * 1 = (wrapF .i64 (i_9 + j_34)).toNat * 1 + 0))) (congrArg Blk.own (flat_set (xs := [aU32 (wrapF .u32 ((wrapF .u64 ((wrapF .u64 ((wrapF .u64 (gt o_32 (wrapF .i64 (i_9 + j_34)))) + (wrapF .u64 ((wrapF .u64 (gt v1.Groups i_9)) * (wrapF .u64 (gt v3.Groups j_34)))))) + c_33)).tmod 1000000000))]) (iC_len .u32) (inR_lt hg43) (Nat.le_of_ble_eq_true rfl) (by omega : 0 + (wrapF .i64 (i_9 + j_34)).toNat * 1 = (wrapF .i64 (i_9 + j_34)).toNat * 1 + 0) (by kernel_rfl))))) (.done (.nh [2, 3, 4, 5, 6, 8, 9] [.own (api_Int.c v1), .own (api_Int.c v3), .own [aB false, nS], .own ((o_32.set (wrapF .i64 (i_9 + j_34)).toNat (wrapF .u32 ((wrapF .u64 ((wrapF .u64 ((wrapF .u64 (gt o_32 (wrapF .i64 (i_9 + j_34)))) + (wrapF .u64 ((wrapF .u64 (gt v1.Groups i_9)) * (wrapF .u64 (gt v3.Groups j_34)))))) + c_33)).tmod 1000000000))).flatMap (iC .u32))] (.ru G (.pop (.ru G ?_))))))))))
     exact loopF_back (o_32.set (wrapF .i64 (i_9 + j_34)).toNat (wrapF .u32 ((wrapF .u64 ((wrapF .u64 ((wrapF .u64 (gt o_32 (wrapF .i64 (i_9 + j_34)))) + (wrapF .u64 ((wrapF .u64 (gt v1.Groups i_9)) * (wrapF .u64 (gt v3.Groups j_34)))))) + c_33)).tmod 1000000000)), wrapF .u64 ((wrapF .u64 ((wrapF .u64 ((wrapF .u64 (gt o_32 (wrapF .i64 (i_9 + j_34)))) + (wrapF .u64 ((wrapF .u64 (gt v1.Groups i_9)) * (wrapF .u64 (gt v3.Groups j_34)))))) + c_33)).tdiv 1000000000), wrapF .i64 (j_34 + 1)) hr ((Wk.relen 5 (b := 3) (es := 1) (len := o_32.length) (o_32.set (wrapF .i64 (i_9 + j_34)).toNat (wrapF .u32 ((wrapF .u64 ((wrapF .u64 ((wrapF .u64 (gt o_32 (wrapF .i64 (i_9 + j_34)))) + (wrapF .u64 ((wrapF .u64 (gt v1.Groups i_9)) * (wrapF .u64 (gt v3.Groups j_34)))))) + c_33)).tmod 1000000000))).length (by kernel_rfl) (Eq.symm (List.length_set.trans rfl))).trans ((Wk.gc [2, 3, 4, 5, 6, 7, 8] [(0, true), (1, true), (2, true), (3, false)] rfl (pKt (pKt (pKt (pKo (iC .u32) (iC_pure _) (o_32.set (wrapF .i64 (i_9 + j_34)).toNat (wrapF .u32 ((wrapF .u64 ((wrapF .u64 ((wrapF .u64 (gt o_32 (wrapF .i64 (i_9 + j_34)))) + (wrapF .u64 ((wrapF .u64 (gt v1.Groups i_9)) * (wrapF .u64 (gt v3.Groups j_34)))))) + c_33)).tmod 1000000000))) trivial))))).to))
    ·refine .leave rfl ?_
     obtain rfl := oi hr
     exact ⟨rfl, ((Wk.gc [2, 3, 4, 5, 6, 7] [(0, true), (1, true), (2, true), (3, false)] rfl (pKt (pKt (pKt (pKo (iC .u32) (iC_pure _) o_32 trivial))))).to)⟩
   ·rcases o46 with ⟨o_39, c_40⟩
    rintro x st' hq48
    clear hL47
    obtain ⟨rfl, hq48⟩ := hq48
    refine CQ_exit _ rfl (.wk hq48 ?_)
    obtain ⟨hg49, hr⟩ := gd hr
    refine .r0 G (.mu 8 (.p0 (v := .hp 3 (0 + (wrapF .i64 (i_9 + (v3.Groups.length : Int))).toNat * 1)) (tr (ofP_guard hg49)) (.e0 (v := .unk) (ws := [(3, .own ((o_39.set (wrapF .i64 (i_9 + (v3.Groups.length : Int))).toNat (wrapF .u32 c_40)).flatMap (iC .u32)))]) (tr (stO_t (and_t (flat_fits (n := 1) (iC_len .u32) (inR_lt hg49) (Nat.le_of_ble_eq_true rfl) (by omega : 0 + (wrapF .i64 (i_9 + (v3.Groups.length : Int))).toNat * 1 = (wrapF .i64 (i_9 + (v3.Groups.length : Int))).toNat * 1 + 0))) (congrArg Blk.own (flat_set (xs := [aU32 (wrapF .u32 c_40)]) (iC_len .u32) (inR_lt hg49) (Nat.le_of_ble_eq_true rfl) (by omega : 0 + (wrapF .i64 (i_9 + (v3.Groups.length : Int))).toNat * 1 = (wrapF .i64 (i_9 + (v3.Groups.length : Int))).toNat * 1 + 0) (by kernel_rfl))))) (.done (.pop (.ru G ?_))))))
    exact loopF_back (o_39.set (wrapF .i64 (i_9 + (v3.Groups.length : Int))).toNat (wrapF .u32 c_40), wrapF .i64 (i_9 + 1)) hr ((Wk.relen 5 (b := 3) (es := 1) (len := o_39.length) (o_39.set (wrapF .i64 (i_9 + (v3.Groups.length : Int))).toNat (wrapF .u32 c_40)).length (by kernel_rfl) (Eq.symm (List.length_set.trans rfl))).trans ((Wk.gc [2, 3, 4, 5, 6] [(0, true), (1, true), (2, true), (3, false)] rfl (pKt (pKt (pKt (pKo (iC .u32) (iC_pure _) (o_39.set (wrapF .i64 (i_9 + (v3.Groups.length : Int))).toNat (wrapF .u32 c_40)) trivial))))).to))
  ·refine .leave rfl ?_
   obtain rfl := oi hr
   exact ⟨rfl, ((Wk.gc [2, 3, 4, 5] [(0, true), (1, true), (2, true), (3, false)] rfl (pKt (pKt (pKt (pKo (iC .u32) (iC_pure _) o_8 trivial))))).to)⟩
 ·rintro x st' hq52
  clear hL51
  obtain ⟨rfl, hq52⟩ := hq52
  refine CQ_exit _ rfl (.wk hq52 (.seq ?_))
  obtain ⟨v53, hc54, hr⟩ := bd hr
  refine .g1 G (callOk_ref (args := [aB (v1.Negative != v3.Negative), .hs 3 0 o_29.length 1]) (l := [3]) (Sp (SnL.cons (Sn.hs rfl (.inl rfl) (SnC.pure (ids_flat (iC_pure _) _)) (fun h => flat_nil0 h)) SnL.nil)) (fiducialref01_made_ok n (v1.Negative != v3.Negative) o_29 v53 hc54)) (.mu 6 (.ca cf0 (.mu 1 (.done (.nh [4] [.own (api_Int.c v1), .own (api_Int.c v3), .own (api_Int.c v53), .fix (o_29.flatMap (iC .u32))] (.ret ?_))))))
  obtain rfl := oi hr
  exact FinQ.r1 [.agg (api_Int.c v53)]

theorem fiducialref01_Divide_ok (n : Nat) (x' : api_Int) (y : api_Int) (r : api_Int × api_Int × Int) (hr : fiducialref01_Divide n x' y = some r) : FnOk Tryz.prog 96 [.agg (api_Int.c x'), .agg (api_Int.c y)] (.tup [.agg (api_Int.c r.1), .agg (api_Int.c r.2.1), aI64 r.2.2]) := by
 unfold fiducialref01_Divide at hr
 refine FnOk.bd G Tryz.func96 [.cell 4 31, .cell 5 31, .tmp 6] ?_
 unfold Tryz.f96
 simp only [gS]
 refine .seq (.r2 G 54 [(2, .hp 0 0), (3, .hp 1 0), (4, .hp 2 0), (5, .hp 3 0)] [.own (api_Int.c x'), .own (api_Int.c y), .own [aB false, nS], .own [aB false, nS]] (.seq ?_))
 obtain ⟨v1, hc2, v3, hc4, hr⟩ := bd2 hr
 refine .tn G (ca1 (ok0 (fiducialref01_Value_ok n x' v1 hc2)) (ca3 (ok0 (fiducialref01_Value_ok n y v3 hc4)))) (.mu 1 (.ca cf0 (.mu 1 (.ca (cfA (fun h => by rw [sv hc4 hc2 (fiducialref01_Value_cg n h)]) cf0) (.mu 2 ?_)))))
 refine .done ⟨by kernel_rfl, ?_⟩
 refine .nh [2, 3, 4, 5] [.own (api_Int.c v1), .own (api_Int.c v3), .own [aB false, nS], .own [aB false, nS]] (.seq (.seq (.r4 G [2, 3, 4, 5] [(17, aB (((v3.Groups.length : Int) : Int) == 0))] ?_)))
 refine .cd hr ?_ ?_ <;> intro hb5 hr
 ·refine .seq (.r4 G [4, 5] [(6, aI64 14)] (.ret ?_))
  obtain rfl := oi hr
  exact FinQ.ret (vs := [.agg [aB false, nS], .agg [aB false, nS], aI64 14]) (by kernel_rfl) (Sn.tup (SnL.cons (Sn.agg (Sp (SnL.cons Sn.nilsl SnL.nil))) (SnL.cons (Sn.agg (Sp (SnL.cons Sn.nilsl SnL.nil))) (Sp SnL.nil))))
 ·refine .skip (.seq ?_)
  obtain ⟨v6, hc7, hr⟩ := bd hr
  refine .g1 G (ok0 (fiducialref01_parts_ok n v1.Groups v3.Groups v6 hc7)) (.mu 4 (.ca cf0 (.mu 5 (.done (.nh [2, 3, 4, 5, 7, 8] [.own (api_Int.c v1), .own (api_Int.c v3), .own [aB false, nS], .own [aB false, nS]] (.seq ?_))))))
  obtain ⟨v8, hc9, hr⟩ := bd hr
  refine .g1 G (ok0 (fiducialref01_made_ok n (v1.Negative != v3.Negative) v6.1 v8 hc9)) (.mu 6 (.ca cf0 (.mu 2 (.done (.nh [2, 3, 4, 5, 8, 9] [.own (api_Int.c v1), .own (api_Int.c v3), .own [aB false, nS], .own [aB false, nS], .own (api_Int.c v8)] (.seq (.seq ?_)))))))
  rcases bT (v1.Negative != v3.Negative) with hb10 | hb10
  ·replace hr := cd_t hb10 hr
   refine .r0 G (.mu 4 (.p0 (v := aB true) (eB hb10) (.mu 5 (.done (.nh [2, 3, 4, 5, 9, 44] [.own (api_Int.c v1), .own (api_Int.c v3), .own [aB false, nS], .own [aB false, nS], .own (api_Int.c v8)] ?_)))))
   refine .cd hr ?_ ?_ <;> intro hb11 hr
   ·obtain ⟨v12, hc13, v14, hc15, hr⟩ := bd2 hr
    refine .tn G (ca1 (ok0 (fiducialref01_Of_ok n 1 v12 hc13)) (ca3 (ok0 (fiducialref01_Sub_ok n v8 v12 v14 hc15)))) (.mu 1 (.ca cf0 (.ca (cfF cf0) (.mu 1 ?_))))
    refine .done ⟨by kernel_rfl, ?_⟩
    refine .nh [2, 3, 4, 5, 9] [.own (api_Int.c v1), .own (api_Int.c v3), .own [aB false, nS], .own [aB false, nS], .own (api_Int.c v14)] (.seq ?_)
    obtain ⟨v16, hc17, v18, hc19, hr⟩ := bd2 hr
    refine .tn G (ca1 (ok0 (fiducialref01_Mul_ok n v14 v3 v16 hc17)) (ca3 (ok0 (fiducialref01_Sub_ok n v1 v16 v18 hc19)))) (.mu 4 (.ca cf0 (.ca (cfF cf0) (.mu 3 ?_))))
    refine .done ⟨by kernel_rfl, ?_⟩
    refine .nh [4, 5, 6] [.own (api_Int.c v1), .own (api_Int.c v3), .own (api_Int.c v14), .own (api_Int.c v18), .own (api_Int.c v14)] (.ret ?_)
    obtain rfl := oi hr
    exact FinQ.ret (vs := [.agg (api_Int.c v14), .agg (api_Int.c v18), aI64 0]) (by kernel_rfl) (Sn.tup (Sp (Sp (Sp SnL.nil))))
   ·refine .skip (.seq ?_)
    obtain ⟨v20, hc21, v22, hc23, hr⟩ := bd2 hr
    refine .tn G (ca1 (ok0 (fiducialref01_Mul_ok n v8 v3 v20 hc21)) (ca3 (ok0 (fiducialref01_Sub_ok n v1 v20 v22 hc23)))) (.mu 4 (.ca cf0 (.ca (cfF cf0) (.mu 3 ?_))))
    refine .done ⟨by kernel_rfl, ?_⟩
    refine .nh [4, 5, 6] [.own (api_Int.c v1), .own (api_Int.c v3), .own (api_Int.c v8), .own (api_Int.c v22), .own (api_Int.c v8)] (.ret ?_)
    obtain rfl := oi hr
    exact FinQ.ret (vs := [.agg (api_Int.c v8), .agg (api_Int.c v22), aI64 0]) (by kernel_rfl) (Sn.tup (Sp (Sp (Sp SnL.nil))))
  ·replace hr := cd_f hb10 hr
   refine .r0 G (.mu 4 (.p0 (v := aB false) (eB hb10) (.mu 5 (.done (.nh [2, 3, 4, 5, 9, 44] [.own (api_Int.c v1), .own (api_Int.c v3), .own [aB false, nS], .own [aB false, nS], .own (api_Int.c v8)] (.cF (by kernel_rfl) (.skip (.seq ?_))))))))
   obtain ⟨v24, hc25, v26, hc27, hr⟩ := bd2 hr
   refine .tn G (ca1 (ok0 (fiducialref01_Mul_ok n v8 v3 v24 hc25)) (ca3 (ok0 (fiducialref01_Sub_ok n v1 v24 v26 hc27)))) (.mu 4 (.ca cf0 (.ca (cfF cf0) (.mu 3 ?_))))
   refine .done ⟨by kernel_rfl, ?_⟩
   refine .nh [4, 5, 6] [.own (api_Int.c v1), .own (api_Int.c v3), .own (api_Int.c v8), .own (api_Int.c v26), .own (api_Int.c v8)] (.ret ?_)
   obtain rfl := oi hr
   exact FinQ.ret (vs := [.agg (api_Int.c v8), .agg (api_Int.c v26), aI64 0]) (by kernel_rfl) (Sn.tup (Sp (Sp (Sp SnL.nil))))

theorem fiducialref02_reduced_ok (n : Nat) (num : api_Int) (den : api_Int) (r : api_Rat) (hr : fiducialref02_reduced n num den = some r) : FnOk Tryz.prog 58 [.agg (api_Int.c num), .agg (api_Int.c den)] (.agg (api_Rat.c r)) := by
 unfold fiducialref02_reduced at hr
 refine FnOk.bd G Tryz.func58 [.cell 4 33] ?_
 unfold Tryz.f58
 simp only [gS]
 refine .seq (.r2 G 37 [(2, .hp 0 0), (3, .hp 1 0), (4, .hp 2 0)] [.own (api_Int.c num), .own (api_Int.c den), .own [aB false, nS, aB false, nS]] (.seq ?_))
 obtain ⟨v1, hc2, hr⟩ := bd hr
 refine .g1 G (ok0 (fiducialref01_Gcd_ok n num den v1 hc2)) (.mu 2 (.ca cf0 (.mu 2 (.done (.nh [2, 3, 4, 5] [.own (api_Int.c num), .own (api_Int.c den), .own [aB false, nS, aB false, nS], .own (api_Int.c v1)] (.seq (.seq ?_)))))))
 obtain ⟨v3, hc4, hr⟩ := bd hr
 refine .g1 G (ok0 (fiducialref01_Sign_ok n den v3 hc4)) (.mu 1 (.ca cf0 (.mu 1 (.done (.nh [2, 3, 4, 5, 17] [.own (api_Int.c num), .own (api_Int.c den), .own [aB false, nS, aB false, nS], .own (api_Int.c v1)] ?_)))))
 refine .cd hr ?_ ?_ <;> intro hb5 hr
 ·obtain ⟨v6, hc7, hr⟩ := bd hr
  refine .g1 G (ok0 (fiducialref01_Neg_ok n v1 v6 hc7)) (.mu 1 (.ca cf0 (.mu 1 (.done (.nh [2, 3, 4, 5] [.own (api_Int.c num), .own (api_Int.c den), .own [aB false, nS, aB false, nS], .own (api_Int.c v6)] (.seq ?_))))))
  obtain ⟨v8, hc9, hr⟩ := bd hr
  refine .g1 G (ok0 (fiducialref01_Divide_ok n num v6 v8 hc9)) (.mu 2 (.ca cf0 (.mu 9 (.done (.nh [3, 4, 5, 6] [.own (api_Int.c num), .own (api_Int.c den), .own [aB false, nS, aB false, nS], .own (api_Int.c v6), .own (api_Int.c v8.1), .own (api_Int.c v8.2.1)] (.seq ?_))))))
  obtain ⟨v10, hc11, hr⟩ := bd hr
  refine .g1 G (ok0 (fiducialref01_Divide_ok n den v6 v10 hc11)) (.mu 2 (.ca cf0 (.mu 9 (.done (.nh [4, 6, 9] [.own (api_Int.c num), .own (api_Int.c den), .own [aB false, nS, aB false, nS], .own (api_Int.c v6), .own (api_Int.c v8.1), .own (api_Int.c v8.2.1), .own (api_Int.c v10.1), .own (api_Int.c v10.2.1)] (.seq (.r5 G [4] [] [.own (api_Int.c num), .own (api_Int.c den), .own [aB v8.1.Negative, sU32 v8.1.Groups, aB v10.1.Negative, sU32 v10.1.Groups], .own (api_Int.c v6), .own (api_Int.c v8.1), .own (api_Int.c v8.2.1), .own (api_Int.c v10.1), .own (api_Int.c v10.2.1)] (.ret ?_))))))))
  obtain rfl := oi hr
  exact FinQ.r1 [.agg [aB v8.1.Negative, sU32 v8.1.Groups, aB v10.1.Negative, sU32 v10.1.Groups]]
 ·refine .skip (.seq ?_)
  obtain ⟨v12, hc13, hr⟩ := bd hr
  refine .g1 G (ok0 (fiducialref01_Divide_ok n num v1 v12 hc13)) (.mu 2 (.ca cf0 (.mu 9 (.done (.nh [3, 4, 5, 6] [.own (api_Int.c num), .own (api_Int.c den), .own [aB false, nS, aB false, nS], .own (api_Int.c v1), .own (api_Int.c v12.1), .own (api_Int.c v12.2.1)] (.seq ?_))))))
  obtain ⟨v14, hc15, hr⟩ := bd hr
  refine .g1 G (ok0 (fiducialref01_Divide_ok n den v1 v14 hc15)) (.mu 2 (.ca cf0 (.mu 9 (.done (.nh [4, 6, 9] [.own (api_Int.c num), .own (api_Int.c den), .own [aB false, nS, aB false, nS], .own (api_Int.c v1), .own (api_Int.c v12.1), .own (api_Int.c v12.2.1), .own (api_Int.c v14.1), .own (api_Int.c v14.2.1)] (.seq (.r5 G [4] [] [.own (api_Int.c num), .own (api_Int.c den), .own [aB v12.1.Negative, sU32 v12.1.Groups, aB v14.1.Negative, sU32 v14.1.Groups], .own (api_Int.c v1), .own (api_Int.c v12.1), .own (api_Int.c v12.2.1), .own (api_Int.c v14.1), .own (api_Int.c v14.2.1)] (.ret ?_))))))))
  obtain rfl := oi hr
  exact FinQ.r1 [.agg [aB v12.1.Negative, sU32 v12.1.Groups, aB v14.1.Negative, sU32 v14.1.Groups]]

theorem fiducialref02_New_ok (n : Nat) (num : api_Int) (den : api_Int) (r : api_Rat × Int) (hr : fiducialref02_New n num den = some r) : FnOk Tryz.prog 20 [.agg (api_Int.c num), .agg (api_Int.c den)] (.tup [.agg (api_Rat.c r.1), aI64 r.2]) := by
 unfold fiducialref02_New at hr
 refine FnOk.bd G Tryz.func20 [.cell 4 33, .tmp 5] ?_
 unfold Tryz.f20
 simp only [gS]
 refine .seq (.r2 G 13 [(2, .hp 0 0), (3, .hp 1 0), (4, .hp 2 0)] [.own (api_Int.c num), .own (api_Int.c den), .own [aB false, nS, aB false, nS]] (.seq (.seq ?_)))
 obtain ⟨v1, hc2, hr⟩ := bd hr
 refine .g1 G (ok0 (fiducialref01_Sign_ok n den v1 hc2)) (.mu 1 (.ca cf0 (.mu 1 (.done (.nh [2, 3, 4, 8] [.own (api_Int.c num), .own (api_Int.c den), .own [aB false, nS, aB false, nS]] ?_)))))
 refine .cd hr ?_ ?_ <;> intro hb3 hr
 ·refine .seq (.r4 G [4] [(5, aI64 14)] (.ret ?_))
  obtain rfl := oi hr
  exact FinQ.ret (vs := [.agg [aB false, nS, aB false, nS], aI64 14]) (by kernel_rfl) (Sn.tup (SnL.cons (Sn.agg (Sp (SnL.cons Sn.nilsl (Sp (SnL.cons Sn.nilsl SnL.nil))))) (Sp SnL.nil)))
 ·refine .skip (.seq ?_)
  obtain ⟨v4, hc5, hr⟩ := bd hr
  refine .g1 G (ok0 (fiducialref02_reduced_ok n num den v4 hc5)) (.mu 2 (.ca cf0 (.mu 2 (.done (.nh [4, 5] [.own (api_Int.c num), .own (api_Int.c den), .own (api_Rat.c v4)] (.ret ?_))))))
  obtain rfl := oi hr
  exact FinQ.ret (vs := [.agg (api_Rat.c v4), aI64 0]) (by kernel_rfl) (Sn.tup (Sp (Sp SnL.nil)))

theorem fiducialref02_Of_ok (n : Nat) (n' : Int) (d : Int) (r : api_Rat × Int) (hr : fiducialref02_Of n n' d = some r) : FnOk Tryz.prog 14 [aI64 n', aI64 d] (.tup [.agg (api_Rat.c r.1), aI64 r.2]) := by
 unfold fiducialref02_Of at hr
 refine FnOk.bd G Tryz.func14 [.cell 4 33, .tmp 5] ?_
 unfold Tryz.f14
 simp only [gS]
 refine .seq (.r5 G [0, 1] [(4, .hp 0 0)] [.own [aB false, nS, aB false, nS]] (.seq ?_))
 obtain ⟨v1, hc2, v3, hc4, v5, hc6, hr⟩ := bd3 hr
 refine .gn G (ca1 (ok0 (fiducialref02_whole_ok n n' v1 hc2)) (ca1 (ok0 (fiducialref02_whole_ok n d v3 hc4)) (ca3 (ok0 (fiducialref02_New_ok n v1 v3 v5 hc6))))) (.mu 1 (.ca cf0 (.mu 1 (.ca (cfA (fun h => by rw [sv hc4 hc2 (fiducialref02_whole_cg n h)]) cf0) (.ca (cfF (cfF cf0)) (.mu 4 (.done (.nh [4, 5] [.own (api_Rat.c v5.1)] (.ret ?_)))))))))
 obtain rfl := oi hr
 exact FinQ.ret (vs := [.agg (api_Rat.c v5.1), aI64 v5.2]) (by kernel_rfl) (Sn.tup (Sp (Sp SnL.nil)))

theorem slices_Index_int_int_ok (n : Nat) (s : List Int) (v : Int) (r : Int) (hr : slices_Index_int_int n s v = some r) : FnOk Tryz.prog 89 [sI64 s, aI64 v] (aI64 r) := by
 unfold slices_Index_int_int at hr
 refine FnOk.bd G Tryz.func89 [.tmp 4] ?_
 unfold Tryz.f89
 simp only [gS]
 refine .seq (.r4 G [0, 1] [] (.seq (.seq (.r4 G [0, 1] [(7, aI64 (s.length : Int)), (8, aI64 0)] (.block ?_)))))
 replace hr := bd hr; obtain ⟨o9, hL10, hr⟩ := hr
 refine .loopO (σ := fun z0 => match z0 with | x_1 => ⟨mkS 19 0 [(0, sI64 s), (1, aI64 v), (7, aI64 (s.length : Int)), (8, aI64 x_1)], []⟩) (Q := fun x st' => match (generalizing := false) o9 with | .inl _ => x = .exit 0 ∧ Wk 0 st' ⟨mkS 19 0 [], []⟩ | .inr (r0) => x = .ret ∧ FinQ Tryz.prog [.tmp 4] (aI64 r0) .ret st') hL10 ((Wk.gc [0, 1, 7, 8] [] rfl pK0).to) ?_ ?_
 ·clear hr
  rintro m x_1 hr
  show CQ _ _ _ _ _ ⟨_, _⟩
  refine .seq (.r4 G [0, 1, 7, 8] [(9, aB (decide (x_1 < (s.length : Int))))] (.seq ?_))
  refine .cd hr ?_ ?_ <;> intro hb6 hr
  ·refine .skip (.seq (.block (.seq (.r4 G [0, 1, 7, 8] [(5, aI64 x_1)] (.seq ?_)))))
   obtain ⟨hg7, hr⟩ := gd hr
   refine .r0 G (.mu 3 (.p0 (v := .pp (s.flatMap (iC .i64)) (x_1.toNat * 1)) (tr (ofP_guard hg7)) (.p0 (v := aI64 (gt s x_1)) (tr (ofP_some (flat_get (iC_len .i64) (inR_lt hg7) (by decide : 0 < 1) (by omega : x_1.toNat * 1 = x_1.toNat * 1 + 0) (by kernel_rfl)))) (.mu 1 (.done (.nh [0, 1, 5, 7, 8, 16] [] ?_))))))
   refine .cd hr ?_ ?_ <;> intro hb8 hr
   ·refine .seq (.ru G (.ret ?_))
    obtain rfl := oi hr
    exact ⟨rfl, FinQ.ret (vs := [aI64 x_1]) (by kernel_rfl) (Sn.pure rfl)⟩
   ·refine .skip (.pop (.ru G ?_))
    exact loopF_back (wrapF .i64 (x_1 + 1)) hr ((Wk.gc [0, 1, 7, 8] [] rfl pK0).to)
  ·refine .leave rfl ?_
   obtain rfl := oi hr
   exact ⟨rfl, ((Wk.gc [] [] rfl pK0).to)⟩
 ·rcases o9 with ⟨⟩ | r0
  ·rintro x st' hq11
   clear hL10
   obtain ⟨rfl, hq11⟩ := hq11
   refine CQ_exit _ rfl (.wk hq11 (.seq (.ru G (.ret ?_))))
   obtain rfl := oi hr
   exact FinQ.r1 [aI64 (-1)]
  ·rintro x st' hq11
   clear hL10
   obtain ⟨rfl, hq11⟩ := hq11
   obtain rfl := oi hr
   exact CQ_ret _ hq11

theorem slices_Contains_int_int_ok (n : Nat) (s : List Int) (v : Int) (r : Bool) (hr : slices_Contains_int_int n s v = some r) : FnOk Tryz.prog 49 [sI64 s, aI64 v] (aB r) := by
 unfold slices_Contains_int_int at hr
 refine FnOk.bd G Tryz.func49 [.tmp 4] ?_
 unfold Tryz.f49
 simp only [gS]
 refine .seq (.r4 G [0, 1] [] (.seq ?_))
 obtain ⟨v1, hc2, hr⟩ := bd hr
 refine .g1 G (ok0 (slices_Index_int_int_ok n s v v1 hc2)) (.mu 2 (.ca cf0 (.mu 2 (.done (.ret ?_)))))
 obtain rfl := oi hr
 exact FinQ.r1 [aB (decide (v1 ≥ 0))]

theorem slices_Min_int_int_ok (n : Nat) (x' : List Int) (r : Int) (hr : slices_Min_int_int n x' = some r) : FnOk Tryz.prog 22 [sI64 x'] (aI64 r) := by
 unfold slices_Min_int_int at hr
 refine FnOk.bd G Tryz.func22 [.tmp 2] ?_
 unfold Tryz.f22
 simp only [gS]
 refine .seq (.r4 G [0] [] (.seq (.seq (.r4 G [0] [(7, aB (decide ((x'.length : Int) < 1)))] ?_))))
 obtain ⟨hp1, hr⟩ := gdn hr
 refine .cN hp1 (.skip (.seq ?_))
 obtain ⟨hg2, hr⟩ := gd hr
 refine .r0 G (.mu 1 (.p0 (v := .pp (x'.flatMap (iC .i64)) ((0 : Int).toNat * 1)) (tr (ofP_guard hg2)) (.p0 (v := aI64 (gt x' 0)) (tr (ofP_some (flat_get (iC_len .i64) (inR_lt hg2) (by decide : 0 < 1) (by omega : (0 : Int).toNat * 1 = (0 : Int).toNat * 1 + 0) (by kernel_rfl)))) (.mu 1 (.done (.nh [0, 3] [] (.seq (.seq (.r4 G [0, 3] [(4, aI64 1)] (.block ?_))))))))))
 replace hr := bd hr; obtain ⟨m_7, hL12, hr⟩ := hr
 refine .loopO (σ := fun z0 => match z0 with | (m_3, i_4) => ⟨mkS 25 0 [(0, sI64 x'), (3, aI64 m_3), (4, aI64 i_4)], []⟩) (Q := fun x st' => x = .exit 0 ∧ Wk 0 st' ⟨mkS 25 0 [(3, aI64 m_7)], []⟩) hL12 ((Wk.gc [0, 3, 4] [] rfl pK0).to) ?_ ?_
 ·clear hr
  rintro m ⟨m_3, i_4⟩ hr
  show CQ _ _ _ _ _ ⟨_, _⟩
  refine .seq (.seq (.r4 G [0, 3, 4] [(15, aB (decide (i_4 < (x'.length : Int))))] ?_))
  refine .cd hr ?_ ?_ <;> intro hb9 hr
  ·refine .skip (.seq (.block ?_))
   obtain ⟨hg10, hr⟩ := gd hr
   refine .r0 G (.mu 3 (.p0 (v := .pp (x'.flatMap (iC .i64)) (i_4.toNat * 1)) (tr (ofP_guard hg10)) (.p0 (v := aI64 (gt x' i_4)) (tr (ofP_some (flat_get (iC_len .i64) (inR_lt hg10) (by decide : 0 < 1) (by omega : i_4.toNat * 1 = i_4.toNat * 1 + 0) (by kernel_rfl)))) (.mu 2 (.done (.pop (.ru G ?_)))))))
   exact loopF_back (mn m_3 (gt x' i_4), wrapF .i64 (i_4 + 1)) hr ((Wk.gc [0, 3, 4] [] rfl pK0).to)
  ·refine .leave rfl ?_
   obtain rfl := oi hr
   exact ⟨rfl, ((Wk.gc [3] [] rfl pK0).to)⟩
 ·rintro x st' hq13
  clear hL12
  obtain ⟨rfl, hq13⟩ := hq13
  refine CQ_exit _ rfl (.wk hq13 (.seq (.ru G (.ret ?_))))
  obtain rfl := oi hr
  exact FinQ.r1 [aI64 m_7]

theorem volume_Solid_1_w_ok (n : Nat) (a : Int) (b : Int) (p : List api_Spot) (p' : List (A3 Int)) (p'' : Int) (r : List (A3 Int)) (hr : volume_Solid_1_w n a b p p' p'' = some r) : FnMut 2 Tryz.prog 50 [aI64 a, aI64 b, .hp 0 0, .hp 1 0] [.own [.hs 2 0 p.length 3, .hs 3 0 p'.length 3], .own [aI64 p''], .own (p.flatMap api_Spot.c), .own (p'.flatMap A3_3_int.c)] (.tup []) [.own [.hs 2 0 p.length 3, .hs 3 0 r.length 3], .own [aI64 p''], .own (p.flatMap api_Spot.c), .own (r.flatMap A3_3_int.c)] := by
 unfold volume_Solid_1_w at hr
 refine FnMut.bodyW G Tryz.func50 (c := (Tryz.f50.body).getD .skip) rfl (us := []) (s := mkS 25 0 [(0, aI64 a), (1, aI64 b), (2, .hp 0 0), (3, .hp 1 0)]) (by kernel_rfl) (rs := []) rfl ?_
 unfold Tryz.f50
 simp only [gS]
 obtain ⟨hg4, hg5, hr⟩ := gd2 hr
 refine .r0 G (.mu 17 (.e0 (v := .hs 5 0 (p' ++ [A3.mk a (wrapF .i64 (a + p'')) (wrapF .i64 (b + p'')), A3.mk a (wrapF .i64 (b + p'')) b]).length 3) (ws := [(3, .dead), (5, .own ((p' ++ [A3.mk a (wrapF .i64 (a + p'')) (wrapF .i64 (b + p'')), A3.mk a (wrapF .i64 (b + p'')) b]).flatMap A3_3_int.c))]) (tr (app_own (new := [aI64 a, aI64 (wrapF .i64 (a + p'')), aI64 (wrapF .i64 (b + p'')), aI64 a, aI64 (wrapF .i64 (b + p'')), aI64 b]) (l := p') (xs := [A3.mk a (wrapF .i64 (a + p'')) (wrapF .i64 (b + p'')), A3.mk a (wrapF .i64 (b + p'')) b]) A3_3_int.len rfl rfl (by kernel_rfl) hg4 hg5)) (.mu 2 (.done ?_))))
 obtain rfl := oi hr
 exact FinMW.normal [] ((Wk.gc [] [(0, true), (1, true), (2, false), (5, false)] rfl (pKt (pKt (pKo api_Spot.c api_Spot.pure p (pKo A3_3_int.c A3_3_int.pure (p' ++ [A3.mk a (wrapF .i64 (a + p'')) (wrapF .i64 (b + p'')), A3.mk a (wrapF .i64 (b + p'')) b]) trivial))))).to)
end Go.L
