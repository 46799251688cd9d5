/- The program's functions compute what the plain Lean programs compute, part 3; printed by a program. -/
import Derived.Test.YtlajgmapmocpbabGreatMergLP2
import Derived.Test.YtlajgmapmocpbabGreatL0d
import Derived.Test.YtlajgmapmocpbabGreatChecked
import Derived.KernelRfl
set_option linter.unusedVariables false
set_option linter.unusedSimpArgs false
set_option maxRecDepth 100000
set_option maxHeartbeats 4000000
namespace Go.L
open Go Go.Eng Go.Proofs
theorem fiducialref02_reduced_ok (n : Nat) (num : api_Int) (den : api_Int) (r : api_Rat) (hr : fiducialref02_reduced n num den = some r) : FnOk Tryz.prog 102 [.agg [.at (.bool num.Negative), slT (iC .u32) num.Groups], .agg [.at (.bool den.Negative), slT (iC .u32) den.Groups]] (.agg [.at (.bool r.Num.Negative), slT (iC .u32) r.Num.Groups, .at (.bool r.Den.Negative), slT (iC .u32) r.Den.Groups]) := by
 unfold fiducialref02_reduced at hr
 refine FnOk.body fine Tryz.func102 (c := (Tryz.f102.body).getD .skip) rfl (s := mkS 37 0 [(0, .agg (api_Int.c num)), (1, .agg (api_Int.c den))]) (by kernel_rfl) (rs := [.cell 4 39]) rfl ?_
 unfold Tryz.f102
 simp only [Option.getD_some]
 refine .seq <| .rn fine [2, 3, 4] (mkS 37 0 [(2, .hp 0 0), (3, .hp 1 0), (4, .hp 2 0)]) [.own (api_Int.c num), .own (api_Int.c den), .own [aB false, .at (.slice none 0 0), aB false, .at (.slice none 0 0)]] <| .seq ?_
 obtain ⟨v1, hc2, hr⟩ := bd hr
 refine .g1 fine (callOk_ref (l := []) (SnL.cons (Sn.pure rfl) (SnL.cons (Sn.pure rfl) SnL.nil)) (fiducialref01_Gcd_ok n num den v1 hc2)) <| .mu 2 <| .c0 (by kernel_rfl) (callOf_at (by kernel_rfl)) <| .mu 2 <| .done <| .n1 [2, 3, 4, 5] (mkS 37 0 [(2, .hp 0 0), (3, .hp 1 0), (4, .hp 2 0), (5, .hp 3 0)]) [.own (api_Int.c num), .own (api_Int.c den), .own [aB false, .at (.slice none 0 0), aB false, .at (.slice none 0 0)], .own (api_Int.c v1)] <| .seq <| .seq ?_
 obtain ⟨v3, hc4, hr⟩ := bd hr
 refine .g1 fine (callOk_val (l := []) rfl (SnL.cons (Sn.pure rfl) SnL.nil) (fiducialref01_Sign_ok n den v3 hc4)) <| .mu 1 <| .c0 (by kernel_rfl) (callOf_at (by kernel_rfl)) <| .mu 1 <| .done <| .n1 [2, 3, 4, 5, 17] (mkS 37 0 [(2, .hp 0 0), (3, .hp 1 0), (4, .hp 2 0), (5, .hp 3 0), (17, aB (decide (v3 < 0)))]) [.own (api_Int.c num), .own (api_Int.c den), .own [aB false, .at (.slice none 0 0), aB false, .at (.slice none 0 0)], .own (api_Int.c v1)] ?_
 refine .cond (t := decide (v3 < 0)) (by kernel_rfl) (fun hb5 => ?_) (fun hb5 => ?_)
 ·replace hr := cd_t hb5 hr
  obtain ⟨v6, hc7, hr⟩ := bd hr
  refine .g1 fine (callOk_ref (l := []) (SnL.cons (Sn.pure rfl) SnL.nil) (fiducialref01_Neg_ok n v1 v6 hc7)) <| .mu 1 <| .c0 (by kernel_rfl) (callOf_at (by kernel_rfl)) <| .mu 1 <| .done <| .n1 [2, 3, 4, 5] (mkS 37 0 [(2, .hp 0 0), (3, .hp 1 0), (4, .hp 2 0), (5, .hp 3 0)]) [.own (api_Int.c num), .own (api_Int.c den), .own [aB false, .at (.slice none 0 0), aB false, .at (.slice none 0 0)], .own (api_Int.c v6)] <| .seq ?_
  obtain ⟨v8, hc9, hr⟩ := bd hr
  refine .g1 fine (callOk_ref (l := []) (SnL.cons (Sn.pure rfl) (SnL.cons (Sn.pure rfl) SnL.nil)) (fiducialref01_Divide_ok n num v6 v8 hc9)) <| .mu 2 <| .c0 (by kernel_rfl) (callOf_at (by kernel_rfl)) <| .mu 9 <| .done <| .n1 [3, 4, 5, 6] (mkS 37 0 [(3, .hp 1 0), (4, .hp 2 0), (5, .hp 3 0), (6, .hp 4 0)]) [.own (api_Int.c num), .own (api_Int.c den), .own [aB false, .at (.slice none 0 0), aB false, .at (.slice none 0 0)], .own (api_Int.c v6), .own (api_Int.c v8.1), .own (api_Int.c v8.2.1)] <| .seq ?_
  obtain ⟨v10, hc11, hr⟩ := bd hr
  refine .g1 fine (callOk_ref (l := []) (SnL.cons (Sn.pure rfl) (SnL.cons (Sn.pure rfl) SnL.nil)) (fiducialref01_Divide_ok n den v6 v10 hc11)) <| .mu 2 <| .c0 (by kernel_rfl) (callOf_at (by kernel_rfl)) <| .mu 9 <| .done <| .n1 [4, 6, 9] (mkS 37 0 [(4, .hp 2 0), (6, .hp 4 0), (9, .hp 6 0)]) [.own (api_Int.c num), .own (api_Int.c den), .own [aB false, .at (.slice none 0 0), aB false, .at (.slice none 0 0)], .own (api_Int.c v6), .own (api_Int.c v8.1), .own (api_Int.c v8.2.1), .own (api_Int.c v10.1), .own (api_Int.c v10.2.1)] <| .seq <| .rn fine [4] (mkS 37 0 [(4, .hp 2 0)]) [.own (api_Int.c num), .own (api_Int.c den), .own [aB v8.1.Negative, sU32 v8.1.Groups, aB v10.1.Negative, sU32 v10.1.Groups], .own (api_Int.c v6), .own (api_Int.c v8.1), .own (api_Int.c v8.2.1), .own (api_Int.c v10.1), .own (api_Int.c v10.2.1)] <| .ret ?_
  obtain rfl := Option.some.inj hr
  exact FinQ.r1 [.agg [aB v8.1.Negative, sU32 v8.1.Groups, aB v10.1.Negative, sU32 v10.1.Groups]]
 ·replace hr := cd_f hb5 hr
  refine .skip <| .seq ?_
  obtain ⟨v12, hc13, hr⟩ := bd hr
  refine .g1 fine (callOk_ref (l := []) (SnL.cons (Sn.pure rfl) (SnL.cons (Sn.pure rfl) SnL.nil)) (fiducialref01_Divide_ok n num v1 v12 hc13)) <| .mu 2 <| .c0 (by kernel_rfl) (callOf_at (by kernel_rfl)) <| .mu 9 <| .done <| .n1 [3, 4, 5, 6] (mkS 37 0 [(3, .hp 1 0), (4, .hp 2 0), (5, .hp 3 0), (6, .hp 4 0)]) [.own (api_Int.c num), .own (api_Int.c den), .own [aB false, .at (.slice none 0 0), aB false, .at (.slice none 0 0)], .own (api_Int.c v1), .own (api_Int.c v12.1), .own (api_Int.c v12.2.1)] <| .seq ?_
  obtain ⟨v14, hc15, hr⟩ := bd hr
  refine .g1 fine (callOk_ref (l := []) (SnL.cons (Sn.pure rfl) (SnL.cons (Sn.pure rfl) SnL.nil)) (fiducialref01_Divide_ok n den v1 v14 hc15)) <| .mu 2 <| .c0 (by kernel_rfl) (callOf_at (by kernel_rfl)) <| .mu 9 <| .done <| .n1 [4, 6, 9] (mkS 37 0 [(4, .hp 2 0), (6, .hp 4 0), (9, .hp 6 0)]) [.own (api_Int.c num), .own (api_Int.c den), .own [aB false, .at (.slice none 0 0), aB false, .at (.slice none 0 0)], .own (api_Int.c v1), .own (api_Int.c v12.1), .own (api_Int.c v12.2.1), .own (api_Int.c v14.1), .own (api_Int.c v14.2.1)] <| .seq <| .rn fine [4] (mkS 37 0 [(4, .hp 2 0)]) [.own (api_Int.c num), .own (api_Int.c den), .own [aB v12.1.Negative, sU32 v12.1.Groups, aB v14.1.Negative, sU32 v14.1.Groups], .own (api_Int.c v1), .own (api_Int.c v12.1), .own (api_Int.c v12.2.1), .own (api_Int.c v14.1), .own (api_Int.c v14.2.1)] <| .ret ?_
  obtain rfl := Option.some.inj hr
  exact FinQ.r1 [.agg [aB v12.1.Negative, sU32 v12.1.Groups, aB v14.1.Negative, sU32 v14.1.Groups]]

theorem fiducialref02_Add_ok (n : Nat) (x' : api_Rat) (y : api_Rat) (r : api_Rat) (hr : fiducialref02_Add n x' y = some r) : FnOk Tryz.prog 57 [.agg [.at (.bool x'.Num.Negative), slT (iC .u32) x'.Num.Groups, .at (.bool x'.Den.Negative), slT (iC .u32) x'.Den.Groups], .agg [.at (.bool y.Num.Negative), slT (iC .u32) y.Num.Groups, .at (.bool y.Den.Negative), slT (iC .u32) y.Den.Groups]] (.agg [.at (.bool r.Num.Negative), slT (iC .u32) r.Num.Groups, .at (.bool r.Den.Negative), slT (iC .u32) r.Den.Groups]) := by
 unfold fiducialref02_Add at hr
 refine FnOk.body fine Tryz.func57 (c := (Tryz.f57.body).getD .skip) rfl (s := mkS 28 0 [(0, .agg (api_Rat.c x')), (1, .agg (api_Rat.c y))]) (by kernel_rfl) (rs := [.cell 4 39]) rfl ?_
 unfold Tryz.f57
 simp only [Option.getD_some]
 refine .seq <| .rn fine [2, 3, 4] (mkS 28 0 [(2, .hp 0 0), (3, .hp 1 0), (4, .hp 2 0)]) [.own (api_Rat.c x'), .own (api_Rat.c y), .own [aB false, .at (.slice none 0 0), aB false, .at (.slice none 0 0)]] <| .seq ?_
 obtain ⟨v1, hc2, hr⟩ := bd hr
 refine .g1 fine (callOk_ref (l := []) (SnL.cons (Sn.pure rfl) SnL.nil) (fiducialref02_Value_ok n x' v1 hc2)) <| .mu 1 <| .c0 (by kernel_rfl) (callOf_at (by kernel_rfl)) <| .mu 2 <| .done <| .n1 [3, 4, 5] (mkS 28 0 [(3, .hp 1 0), (4, .hp 2 0), (5, .hp 3 0)]) [.own (api_Rat.c x'), .own (api_Rat.c y), .own [aB false, .at (.slice none 0 0), aB false, .at (.slice none 0 0)], .own (api_Rat.c v1)] <| .seq ?_
 obtain ⟨v3, hc4, hr⟩ := bd hr
 refine .g1 fine (callOk_ref (l := []) (SnL.cons (Sn.pure rfl) SnL.nil) (fiducialref02_Value_ok n y v3 hc4)) <| .mu 1 <| .c0 (by kernel_rfl) (callOf_at (by kernel_rfl)) <| .mu 2 <| .done <| .n1 [4, 5, 6] (mkS 28 0 [(4, .hp 2 0), (5, .hp 3 0), (6, .hp 4 0)]) [.own (api_Rat.c x'), .own (api_Rat.c y), .own [aB false, .at (.slice none 0 0), aB false, .at (.slice none 0 0)], .own (api_Rat.c v1), .own (api_Rat.c v3)] <| .seq ?_
 obtain ⟨v5, hc6, hr⟩ := bd hr
 obtain ⟨v7, hc8, hr⟩ := bd hr
 obtain ⟨v9, hc10, hr⟩ := bd hr
 obtain ⟨v11, hc12, hr⟩ := bd hr
 obtain ⟨v13, hc14, hr⟩ := bd hr
 refine .regionT fine (callOf_cons (callOk_ref (H := [.own (api_Rat.c x'), .own (api_Rat.c y), .own [aB false, .at (.slice none 0 0), aB false, .at (.slice none 0 0)], .own (api_Rat.c v1), .own (api_Rat.c v3)]) (l := []) (SnL.cons (Sn.pure rfl) (SnL.cons (Sn.pure rfl) SnL.nil)) (fiducialref01_Mul_ok n v1.Num v3.Den v5 hc6)) (callOf_cons (callOk_ref (H := [.own (api_Rat.c x'), .own (api_Rat.c y), .own [aB false, .at (.slice none 0 0), aB false, .at (.slice none 0 0)], .own (api_Rat.c v1), .own (api_Rat.c v3)]) (l := []) (SnL.cons (Sn.pure rfl) (SnL.cons (Sn.pure rfl) SnL.nil)) (fiducialref01_Mul_ok n v3.Num v1.Den v7 hc8)) (callOf_cons (callOk_ref (H := [.own (api_Rat.c x'), .own (api_Rat.c y), .own [aB false, .at (.slice none 0 0), aB false, .at (.slice none 0 0)], .own (api_Rat.c v1), .own (api_Rat.c v3)]) (l := []) (SnL.cons (Sn.pure rfl) (SnL.cons (Sn.pure rfl) SnL.nil)) (fiducialref01_Add_ok n v5 v7 v9 hc10)) (callOf_cons (callOk_ref (H := [.own (api_Rat.c x'), .own (api_Rat.c y), .own [aB false, .at (.slice none 0 0), aB false, .at (.slice none 0 0)], .own (api_Rat.c v1), .own (api_Rat.c v3)]) (l := []) (SnL.cons (Sn.pure rfl) (SnL.cons (Sn.pure rfl) SnL.nil)) (fiducialref01_Mul_ok n v1.Den v3.Den v11 hc12)) (callOf_cons (callOk_ref (H := [.own (api_Rat.c x'), .own (api_Rat.c y), .own [aB false, .at (.slice none 0 0), aB false, .at (.slice none 0 0)], .own (api_Rat.c v1), .own (api_Rat.c v3)]) (l := []) (SnL.cons (Sn.pure rfl) (SnL.cons (Sn.pure rfl) SnL.nil)) (fiducialref02_reduced_ok n v9 v11 v13 hc14)) callOf_nil))))) <| .mu 4 <| .cal (by kernel_rfl) (by kernel_rfl) (callOf_at (by kernel_rfl)) (by kernel_rfl) <| .mu 4 <| .cal (by kernel_rfl) (by kernel_rfl) (callOf_skip (fun _ h => by obtain ⟨e0, e1⟩ := fiducialref01_Mul_inj h; rw [show v7 = v5 from Option.some.inj (hc8.symm.trans ((show fiducialref01_Mul n v3.Num v1.Den = fiducialref01_Mul n v1.Num v3.Den from (congr (congr rfl e0) e1)).trans hc6))]) (callOf_at (by kernel_rfl))) (by kernel_rfl) <| .cal (by kernel_rfl) (by kernel_rfl) (callOf_skip (fun h _ => absurd (show (109 : Nat) = 110 from h) (by decide)) (callOf_skip (fun h _ => absurd (show (109 : Nat) = 110 from h) (by decide)) (callOf_at (by kernel_rfl)))) (by kernel_rfl) <| .mu 4 <| .cal (by kernel_rfl) (by kernel_rfl) (callOf_skip (fun _ h => by obtain ⟨e0, e1⟩ := fiducialref01_Mul_inj h; rw [show v11 = v5 from Option.some.inj (hc12.symm.trans ((show fiducialref01_Mul n v1.Den v3.Den = fiducialref01_Mul n v1.Num v3.Den from (congr (congr rfl e0) e1)).trans hc6))]) (callOf_skip (fun _ h => by obtain ⟨e0, e1⟩ := fiducialref01_Mul_inj h; rw [show v11 = v7 from Option.some.inj (hc12.symm.trans ((show fiducialref01_Mul n v1.Den v3.Den = fiducialref01_Mul n v3.Num v1.Den from (congr (congr rfl e0) e1)).trans hc8))]) (callOf_skip (fun h _ => absurd (show (110 : Nat) = 109 from h) (by decide)) (callOf_at (by kernel_rfl))))) (by kernel_rfl) <| .cal (by kernel_rfl) (by kernel_rfl) (callOf_skip (fun h _ => absurd (show (102 : Nat) = 110 from h) (by decide)) (callOf_skip (fun h _ => absurd (show (102 : Nat) = 110 from h) (by decide)) (callOf_skip (fun h _ => absurd (show (102 : Nat) = 109 from h) (by decide)) (callOf_skip (fun h _ => absurd (show (102 : Nat) = 110 from h) (by decide)) (callOf_at (by kernel_rfl)))))) (by kernel_rfl) <| .mu 1 ?_
 refine .done ⟨by kernel_rfl, ?_⟩
 refine .n1 [4] (mkS 28 0 [(4, .hp 2 0)]) [.own (api_Rat.c x'), .own (api_Rat.c y), .own (api_Rat.c v13), .own (api_Rat.c v1), .own (api_Rat.c v3)] <| .ret ?_
 obtain rfl := Option.some.inj hr
 exact FinQ.r1 [.agg (api_Rat.c v13)]

theorem fiducialref02_Sub_ok (n : Nat) (x' : api_Rat) (y : api_Rat) (r : api_Rat) (hr : fiducialref02_Sub n x' y = some r) : FnOk Tryz.prog 56 [.agg [.at (.bool x'.Num.Negative), slT (iC .u32) x'.Num.Groups, .at (.bool x'.Den.Negative), slT (iC .u32) x'.Den.Groups], .agg [.at (.bool y.Num.Negative), slT (iC .u32) y.Num.Groups, .at (.bool y.Den.Negative), slT (iC .u32) y.Den.Groups]] (.agg [.at (.bool r.Num.Negative), slT (iC .u32) r.Num.Groups, .at (.bool r.Den.Negative), slT (iC .u32) r.Den.Groups]) := by
 unfold fiducialref02_Sub at hr
 refine FnOk.body fine Tryz.func56 (c := (Tryz.f56.body).getD .skip) rfl (s := mkS 9 0 [(0, .agg (api_Rat.c x')), (1, .agg (api_Rat.c y))]) (by kernel_rfl) (rs := [.cell 4 39]) rfl ?_
 unfold Tryz.f56
 simp only [Option.getD_some]
 refine .seq <| .rn fine [2, 3, 4] (mkS 9 0 [(2, .hp 0 0), (3, .hp 1 0), (4, .hp 2 0)]) [.own (api_Rat.c x'), .own (api_Rat.c y), .own [aB false, .at (.slice none 0 0), aB false, .at (.slice none 0 0)]] <| .seq ?_
 obtain ⟨v1, hc2, hr⟩ := bd hr
 obtain ⟨v3, hc4, hr⟩ := bd hr
 refine .regionT fine (callOf_cons (callOk_ref (H := [.own (api_Rat.c x'), .own (api_Rat.c y), .own [aB false, .at (.slice none 0 0), aB false, .at (.slice none 0 0)]]) (l := []) (SnL.cons (Sn.pure rfl) SnL.nil) (fiducialref02_Neg_ok n y v1 hc2)) (callOf_cons (callOk_ref (H := [.own (api_Rat.c x'), .own (api_Rat.c y), .own [aB false, .at (.slice none 0 0), aB false, .at (.slice none 0 0)]]) (l := []) (SnL.cons (Sn.pure rfl) (SnL.cons (Sn.pure rfl) SnL.nil)) (fiducialref02_Add_ok n x' v1 v3 hc4)) callOf_nil)) <| .mu 2 <| .cal (by kernel_rfl) (by kernel_rfl) (callOf_at (by kernel_rfl)) (by kernel_rfl) <| .cal (by kernel_rfl) (by kernel_rfl) (callOf_skip (fun h _ => absurd (show (57 : Nat) = 108 from h) (by decide)) (callOf_at (by kernel_rfl))) (by kernel_rfl) <| .mu 1 ?_
 refine .done ⟨by kernel_rfl, ?_⟩
 refine .n1 [4] (mkS 9 0 [(4, .hp 2 0)]) [.own (api_Rat.c x'), .own (api_Rat.c y), .own (api_Rat.c v3)] <| .ret ?_
 obtain rfl := Option.some.inj hr
 exact FinQ.r1 [.agg (api_Rat.c v3)]

theorem fiducialref02_Sign_ok (n : Nat) (x' : api_Rat) (r : Int) (hr : fiducialref02_Sign n x' = some r) : FnOk Tryz.prog 55 [.agg [.at (.bool x'.Num.Negative), slT (iC .u32) x'.Num.Groups, .at (.bool x'.Den.Negative), slT (iC .u32) x'.Den.Groups]] (.at (.int .i64 r)) := by
 unfold fiducialref02_Sign at hr
 refine FnOk.body fine Tryz.func55 (c := (Tryz.f55.body).getD .skip) rfl (s := mkS 7 0 [(0, .agg (api_Rat.c x'))]) (by kernel_rfl) (rs := [.tmp 2]) rfl ?_
 unfold Tryz.f55
 simp only [Option.getD_some]
 refine .seq <| .rn fine [1] (mkS 7 0 [(1, .hp 0 0)]) [.own (api_Rat.c x')] <| .seq ?_
 obtain ⟨v1, hc2, hr⟩ := bd hr
 obtain ⟨v3, hc4, hr⟩ := bd hr
 refine .region fine (callOf_cons (callOk_ref (H := [.own (api_Rat.c x')]) (l := []) (SnL.cons (Sn.pure rfl) SnL.nil) (fiducialref02_Value_ok n x' v1 hc2)) (callOf_cons (callOk_val (H := [.own (api_Rat.c x')]) (l := []) rfl (SnL.cons (Sn.pure rfl) SnL.nil) (fiducialref01_Sign_ok n v1.Num v3 hc4)) callOf_nil)) <| .mu 1 <| .c0 (by kernel_rfl) (callOf_at (by kernel_rfl)) <| .mu 1 <| .c0 (by kernel_rfl) (callOf_skip (fun h _ => absurd (show (101 : Nat) = 107 from h) (by decide)) (callOf_at (by kernel_rfl))) <| .mu 1 <| .done <| .ret ?_
 obtain rfl := Option.some.inj hr
 exact FinQ.r1 [aI64 v3]

theorem fiducialref02_Compare_ok (n : Nat) (x' : api_Rat) (y : api_Rat) (r : Int) (hr : fiducialref02_Compare n x' y = some r) : FnOk Tryz.prog 18 [.agg [.at (.bool x'.Num.Negative), slT (iC .u32) x'.Num.Groups, .at (.bool x'.Den.Negative), slT (iC .u32) x'.Den.Groups], .agg [.at (.bool y.Num.Negative), slT (iC .u32) y.Num.Groups, .at (.bool y.Den.Negative), slT (iC .u32) y.Den.Groups]] (.at (.int .i64 r)) := by
 unfold fiducialref02_Compare at hr
 refine FnOk.body fine Tryz.func18 (c := (Tryz.f18.body).getD .skip) rfl (s := mkS 9 0 [(0, .agg (api_Rat.c x')), (1, .agg (api_Rat.c y))]) (by kernel_rfl) (rs := [.tmp 4]) rfl ?_
 unfold Tryz.f18
 simp only [Option.getD_some]
 refine .seq <| .rn fine [2, 3] (mkS 9 0 [(2, .hp 0 0), (3, .hp 1 0)]) [.own (api_Rat.c x'), .own (api_Rat.c y)] <| .seq ?_
 obtain ⟨v1, hc2, hr⟩ := bd hr
 obtain ⟨v3, hc4, hr⟩ := bd hr
 refine .region fine (callOf_cons (callOk_ref (H := [.own (api_Rat.c x'), .own (api_Rat.c y)]) (l := []) (SnL.cons (Sn.pure rfl) (SnL.cons (Sn.pure rfl) SnL.nil)) (fiducialref02_Sub_ok n x' y v1 hc2)) (callOf_cons (callOk_val (H := [.own (api_Rat.c x'), .own (api_Rat.c y)]) (l := []) rfl (SnL.cons (Sn.pure rfl) SnL.nil) (fiducialref02_Sign_ok n v1 v3 hc4)) callOf_nil)) <| .mu 2 <| .c0 (by kernel_rfl) (callOf_at (by kernel_rfl)) <| .c0 (by kernel_rfl) (callOf_skip (fun h _ => absurd (show (55 : Nat) = 56 from h) (by decide)) (callOf_at (by kernel_rfl))) <| .mu 1 <| .done <| .ret ?_
 obtain rfl := Option.some.inj hr
 exact FinQ.r1 [aI64 v3]

theorem fiducialref03_Valid_inj {a : api_Range} {a_ : api_Range} (h : ([.agg [.at (.bool a.Low.Num.Negative), slT (iC .u32) a.Low.Num.Groups, .at (.bool a.Low.Den.Negative), slT (iC .u32) a.Low.Den.Groups, .at (.bool a.High.Num.Negative), slT (iC .u32) a.High.Num.Groups, .at (.bool a.High.Den.Negative), slT (iC .u32) a.High.Den.Groups]] : List AV) = [.agg [.at (.bool a_.Low.Num.Negative), slT (iC .u32) a_.Low.Num.Groups, .at (.bool a_.Low.Den.Negative), slT (iC .u32) a_.Low.Den.Groups, .at (.bool a_.High.Num.Negative), slT (iC .u32) a_.High.Num.Groups, .at (.bool a_.High.Den.Negative), slT (iC .u32) a_.High.Den.Groups]]) : a = a_ := by
 obtain ⟨⟨⟨_, _⟩, ⟨_, _⟩⟩, ⟨⟨_, _⟩, ⟨_, _⟩⟩⟩ := a
 obtain ⟨⟨⟨_, _⟩, ⟨_, _⟩⟩, ⟨⟨_, _⟩, ⟨_, _⟩⟩⟩ := a_
 simp only [List.cons.injEq, AV.agg.injEq, AV.at.injEq, Value.int.injEq, Value.bool.injEq, AV.fn.injEq, AV.pp.injEq, true_and, and_true, slT_inj_int] at h
 simp_all
theorem fiducialref03_Valid_ok (n : Nat) (a : api_Range) (r : Bool) (hr : fiducialref03_Valid n a = some r) : FnOk Tryz.prog 113 [.agg [.at (.bool a.Low.Num.Negative), slT (iC .u32) a.Low.Num.Groups, .at (.bool a.Low.Den.Negative), slT (iC .u32) a.Low.Den.Groups, .at (.bool a.High.Num.Negative), slT (iC .u32) a.High.Num.Groups, .at (.bool a.High.Den.Negative), slT (iC .u32) a.High.Den.Groups]] (.at (.bool r)) := by
 unfold fiducialref03_Valid at hr
 refine FnOk.body fine Tryz.func113 (c := (Tryz.f113.body).getD .skip) rfl (s := mkS 19 0 [(0, .agg (api_Range.c a))]) (by kernel_rfl) (rs := [.tmp 2]) rfl ?_
 unfold Tryz.f113
 simp only [Option.getD_some]
 refine .seq <| .rn fine [1] (mkS 19 0 [(1, .hp 0 0)]) [.own (api_Range.c a)] <| .seq ?_
 obtain ⟨v1, hc2, hr⟩ := bd hr
 rcases Bool.eq_false_or_eq_true v1 with hb3 | hb3
 ·subst hb3
  replace hr := cd_t rfl hr
  obtain ⟨v4, hc5, hr⟩ := bd hr
  rcases Bool.eq_false_or_eq_true v4 with hb6 | hb6
  ·subst hb6
   replace hr := cd_t rfl hr
   obtain ⟨v7, hc8, hr⟩ := bd hr
   refine .region fine (callOf_cons (callOk_val (H := [.own (api_Range.c a)]) (l := []) rfl (SnL.cons (Sn.pure rfl) SnL.nil) (fiducialref02_Valid_ok n a.Low true hc2)) (callOf_cons (callOk_val (H := [.own (api_Range.c a)]) (l := []) rfl (SnL.cons (Sn.pure rfl) SnL.nil) (fiducialref02_Valid_ok n a.High true hc5)) (callOf_cons (callOk_val (H := [.own (api_Range.c a)]) (l := []) rfl (SnL.cons (Sn.pure rfl) (SnL.cons (Sn.pure rfl) SnL.nil)) (fiducialref02_Compare_ok n a.Low a.High v7 hc8)) callOf_nil))) <| .mu 2 <| .c0 (by kernel_rfl) (callOf_at (by kernel_rfl)) <| .mu 3 <| .cal (by kernel_rfl) (by kernel_rfl) (callOf_skip (fun _ h => by obtain e0 := fiducialref02_Valid_inj h; rw [show true = true from Option.some.inj (hc5.symm.trans ((show fiducialref02_Valid n a.High = fiducialref02_Valid n a.Low from (congr rfl e0)).trans hc2))]) (callOf_at (by kernel_rfl))) <| .mu 6 <| .cal (by kernel_rfl) (by kernel_rfl) (callOf_skip (fun h _ => absurd (show (18 : Nat) = 54 from h) (by decide)) (callOf_skip (fun h _ => absurd (show (18 : Nat) = 54 from h) (by decide)) (callOf_at (by kernel_rfl)))) <| .mu 3 <| .done <| .ret ?_
   obtain rfl := Option.some.inj hr
   exact FinQ.r1 [aB (decide (v7 ≤ 0))]
  ·subst hb6
   replace hr := cd_f rfl hr
   refine .region fine (callOf_cons (callOk_val (H := [.own (api_Range.c a)]) (l := []) rfl (SnL.cons (Sn.pure rfl) SnL.nil) (fiducialref02_Valid_ok n a.Low true hc2)) (callOf_cons (callOk_val (H := [.own (api_Range.c a)]) (l := []) rfl (SnL.cons (Sn.pure rfl) SnL.nil) (fiducialref02_Valid_ok n a.High false hc5)) callOf_nil)) <| .mu 2 <| .c0 (by kernel_rfl) (callOf_at (by kernel_rfl)) <| .mu 3 <| .cal (by kernel_rfl) (by kernel_rfl) (callOf_skip (fun _ h => by obtain e0 := fiducialref02_Valid_inj h; rw [show false = true from Option.some.inj (hc5.symm.trans ((show fiducialref02_Valid n a.High = fiducialref02_Valid n a.Low from (congr rfl e0)).trans hc2))]) (callOf_at (by kernel_rfl))) <| .mu 10 <| .done <| .ret ?_
   obtain rfl := Option.some.inj hr
   exact FinQ.r1 [aB false]
 ·subst hb3
  replace hr := cd_f rfl hr
  refine .g1 fine (callOk_val (l := []) rfl (SnL.cons (Sn.pure rfl) SnL.nil) (fiducialref02_Valid_ok n a.Low false hc2)) <| .mu 2 <| .c0 (by kernel_rfl) (callOf_at (by kernel_rfl)) <| .mu 14 <| .done <| .ret ?_
  obtain rfl := Option.some.inj hr
  exact FinQ.r1 [aB false]

theorem fiducialref02_Same_inj {x' : api_Rat} {y : api_Rat} {x'_ : api_Rat} {y_ : api_Rat} (h : ([.agg [.at (.bool x'.Num.Negative), slT (iC .u32) x'.Num.Groups, .at (.bool x'.Den.Negative), slT (iC .u32) x'.Den.Groups], .agg [.at (.bool y.Num.Negative), slT (iC .u32) y.Num.Groups, .at (.bool y.Den.Negative), slT (iC .u32) y.Den.Groups]] : List AV) = [.agg [.at (.bool x'_.Num.Negative), slT (iC .u32) x'_.Num.Groups, .at (.bool x'_.Den.Negative), slT (iC .u32) x'_.Den.Groups], .agg [.at (.bool y_.Num.Negative), slT (iC .u32) y_.Num.Groups, .at (.bool y_.Den.Negative), slT (iC .u32) y_.Den.Groups]]) : x' = x'_ ∧ y = y_ := by
 obtain ⟨⟨_, _⟩, ⟨_, _⟩⟩ := x'
 obtain ⟨⟨_, _⟩, ⟨_, _⟩⟩ := x'_
 obtain ⟨⟨_, _⟩, ⟨_, _⟩⟩ := y
 obtain ⟨⟨_, _⟩, ⟨_, _⟩⟩ := y_
 simp only [List.cons.injEq, AV.agg.injEq, AV.at.injEq, Value.int.injEq, Value.bool.injEq, AV.fn.injEq, AV.pp.injEq, true_and, and_true, slT_inj_int] at h
 simp_all
theorem fiducialref02_Same_ok (n : Nat) (x' : api_Rat) (y : api_Rat) (r : Bool) (hr : fiducialref02_Same n x' y = some r) : FnOk Tryz.prog 16 [.agg [.at (.bool x'.Num.Negative), slT (iC .u32) x'.Num.Groups, .at (.bool x'.Den.Negative), slT (iC .u32) x'.Den.Groups], .agg [.at (.bool y.Num.Negative), slT (iC .u32) y.Num.Groups, .at (.bool y.Den.Negative), slT (iC .u32) y.Den.Groups]] (.at (.bool r)) := by
 unfold fiducialref02_Same at hr
 refine FnOk.body fine Tryz.func16 (c := (Tryz.f16.body).getD .skip) rfl (s := mkS 17 0 [(0, .agg (api_Rat.c x')), (1, .agg (api_Rat.c y))]) (by kernel_rfl) (rs := [.tmp 4]) rfl ?_
 unfold Tryz.f16
 simp only [Option.getD_some]
 refine .seq <| .rn fine [2, 3] (mkS 17 0 [(2, .hp 0 0), (3, .hp 1 0)]) [.own (api_Rat.c x'), .own (api_Rat.c y)] <| .seq ?_
 obtain ⟨v1, hc2, hr⟩ := bd hr
 rcases Bool.eq_false_or_eq_true v1 with hb3 | hb3
 ·subst hb3
  replace hr := cd_t rfl hr
  obtain ⟨v4, hc5, hr⟩ := bd hr
  rcases Bool.eq_false_or_eq_true v4 with hb6 | hb6
  ·subst hb6
   replace hr := cd_t rfl hr
   obtain ⟨v7, hc8, hr⟩ := bd hr
   refine .region fine (callOf_cons (callOk_val (H := [.own (api_Rat.c x'), .own (api_Rat.c y)]) (l := []) rfl (SnL.cons (Sn.pure rfl) SnL.nil) (fiducialref02_Valid_ok n x' true hc2)) (callOf_cons (callOk_val (H := [.own (api_Rat.c x'), .own (api_Rat.c y)]) (l := []) rfl (SnL.cons (Sn.pure rfl) SnL.nil) (fiducialref02_Valid_ok n y true hc5)) (callOf_cons (callOk_val (H := [.own (api_Rat.c x'), .own (api_Rat.c y)]) (l := []) rfl (SnL.cons (Sn.pure rfl) (SnL.cons (Sn.pure rfl) SnL.nil)) (fiducialref02_Compare_ok n x' y v7 hc8)) callOf_nil))) <| .mu 1 <| .c0 (by kernel_rfl) (callOf_at (by kernel_rfl)) <| .mu 2 <| .cal (by kernel_rfl) (by kernel_rfl) (callOf_skip (fun _ h => by obtain e0 := fiducialref02_Valid_inj h; rw [show true = true from Option.some.inj (hc5.symm.trans ((show fiducialref02_Valid n y = fiducialref02_Valid n x' from (congr rfl e0)).trans hc2))]) (callOf_at (by kernel_rfl))) <| .mu 4 <| .cal (by kernel_rfl) (by kernel_rfl) (callOf_skip (fun h _ => absurd (show (18 : Nat) = 54 from h) (by decide)) (callOf_skip (fun h _ => absurd (show (18 : Nat) = 54 from h) (by decide)) (callOf_at (by kernel_rfl)))) <| .mu 3 <| .done <| .ret ?_
   obtain rfl := Option.some.inj hr
   exact FinQ.r1 [aB ((v7 : Int) == 0)]
  ·subst hb6
   replace hr := cd_f rfl hr
   refine .region fine (callOf_cons (callOk_val (H := [.own (api_Rat.c x'), .own (api_Rat.c y)]) (l := []) rfl (SnL.cons (Sn.pure rfl) SnL.nil) (fiducialref02_Valid_ok n x' true hc2)) (callOf_cons (callOk_val (H := [.own (api_Rat.c x'), .own (api_Rat.c y)]) (l := []) rfl (SnL.cons (Sn.pure rfl) SnL.nil) (fiducialref02_Valid_ok n y false hc5)) callOf_nil)) <| .mu 1 <| .c0 (by kernel_rfl) (callOf_at (by kernel_rfl)) <| .mu 2 <| .cal (by kernel_rfl) (by kernel_rfl) (callOf_skip (fun _ h => by obtain e0 := fiducialref02_Valid_inj h; rw [show false = true from Option.some.inj (hc5.symm.trans ((show fiducialref02_Valid n y = fiducialref02_Valid n x' from (congr rfl e0)).trans hc2))]) (callOf_at (by kernel_rfl))) <| .mu 8 <| .done <| .ret ?_
   obtain rfl := Option.some.inj hr
   exact FinQ.r1 [aB false]
 ·subst hb3
  replace hr := cd_f rfl hr
  refine .g1 fine (callOk_val (l := []) rfl (SnL.cons (Sn.pure rfl) SnL.nil) (fiducialref02_Valid_ok n x' false hc2)) <| .mu 1 <| .c0 (by kernel_rfl) (callOf_at (by kernel_rfl)) <| .mu 11 <| .done <| .ret ?_
  obtain rfl := Option.some.inj hr
  exact FinQ.r1 [aB false]

theorem fiducialref02_SameRange_ok (n : Nat) (a : api_Range) (b : api_Range) (r : Bool) (hr : fiducialref02_SameRange n a b = some r) : FnOk Tryz.prog 114 [.agg [.at (.bool a.Low.Num.Negative), slT (iC .u32) a.Low.Num.Groups, .at (.bool a.Low.Den.Negative), slT (iC .u32) a.Low.Den.Groups, .at (.bool a.High.Num.Negative), slT (iC .u32) a.High.Num.Groups, .at (.bool a.High.Den.Negative), slT (iC .u32) a.High.Den.Groups], .agg [.at (.bool b.Low.Num.Negative), slT (iC .u32) b.Low.Num.Groups, .at (.bool b.Low.Den.Negative), slT (iC .u32) b.Low.Den.Groups, .at (.bool b.High.Num.Negative), slT (iC .u32) b.High.Num.Groups, .at (.bool b.High.Den.Negative), slT (iC .u32) b.High.Den.Groups]] (.at (.bool r)) := by
 unfold fiducialref02_SameRange at hr
 refine FnOk.body fine Tryz.func114 (c := (Tryz.f114.body).getD .skip) rfl (s := mkS 17 0 [(0, .agg (api_Range.c a)), (1, .agg (api_Range.c b))]) (by kernel_rfl) (rs := [.tmp 4]) rfl ?_
 unfold Tryz.f114
 simp only [Option.getD_some]
 refine .seq <| .rn fine [2, 3] (mkS 17 0 [(2, .hp 0 0), (3, .hp 1 0)]) [.own (api_Range.c a), .own (api_Range.c b)] <| .seq ?_
 obtain ⟨v1, hc2, hr⟩ := bd hr
 rcases Bool.eq_false_or_eq_true v1 with hb3 | hb3
 ·subst hb3
  replace hr := cd_t rfl hr
  obtain ⟨v4, hc5, hr⟩ := bd hr
  refine .region fine (callOf_cons (callOk_val (H := [.own (api_Range.c a), .own (api_Range.c b)]) (l := []) rfl (SnL.cons (Sn.pure rfl) (SnL.cons (Sn.pure rfl) SnL.nil)) (fiducialref02_Same_ok n a.Low b.Low true hc2)) (callOf_cons (callOk_val (H := [.own (api_Range.c a), .own (api_Range.c b)]) (l := []) rfl (SnL.cons (Sn.pure rfl) (SnL.cons (Sn.pure rfl) SnL.nil)) (fiducialref02_Same_ok n a.High b.High v4 hc5)) callOf_nil)) <| .mu 4 <| .c0 (by kernel_rfl) (callOf_at (by kernel_rfl)) <| .mu 5 <| .cal (by kernel_rfl) (by kernel_rfl) (callOf_skip (fun _ h => by obtain ⟨e0, e1⟩ := fiducialref02_Same_inj h; rw [show v4 = true from Option.some.inj (hc5.symm.trans ((show fiducialref02_Same n a.High b.High = fiducialref02_Same n a.Low b.Low from (congr (congr rfl e0) e1)).trans hc2))]) (callOf_at (by kernel_rfl))) <| .mu 2 <| .done <| .ret ?_
  obtain rfl := Option.some.inj hr
  exact FinQ.r1 [aB v4]
 ·subst hb3
  replace hr := cd_f rfl hr
  refine .g1 fine (callOk_val (l := []) rfl (SnL.cons (Sn.pure rfl) (SnL.cons (Sn.pure rfl) SnL.nil)) (fiducialref02_Same_ok n a.Low b.Low false hc2)) <| .mu 4 <| .c0 (by kernel_rfl) (callOf_at (by kernel_rfl)) <| .mu 8 <| .done <| .ret ?_
  obtain rfl := Option.some.inj hr
  exact FinQ.r1 [aB false]

theorem fiducialref03_Same_inj {a : api_Range} {b : api_Range} {a_ : api_Range} {b_ : api_Range} (h : ([.agg [.at (.bool a.Low.Num.Negative), slT (iC .u32) a.Low.Num.Groups, .at (.bool a.Low.Den.Negative), slT (iC .u32) a.Low.Den.Groups, .at (.bool a.High.Num.Negative), slT (iC .u32) a.High.Num.Groups, .at (.bool a.High.Den.Negative), slT (iC .u32) a.High.Den.Groups], .agg [.at (.bool b.Low.Num.Negative), slT (iC .u32) b.Low.Num.Groups, .at (.bool b.Low.Den.Negative), slT (iC .u32) b.Low.Den.Groups, .at (.bool b.High.Num.Negative), slT (iC .u32) b.High.Num.Groups, .at (.bool b.High.Den.Negative), slT (iC .u32) b.High.Den.Groups]] : List AV) = [.agg [.at (.bool a_.Low.Num.Negative), slT (iC .u32) a_.Low.Num.Groups, .at (.bool a_.Low.Den.Negative), slT (iC .u32) a_.Low.Den.Groups, .at (.bool a_.High.Num.Negative), slT (iC .u32) a_.High.Num.Groups, .at (.bool a_.High.Den.Negative), slT (iC .u32) a_.High.Den.Groups], .agg [.at (.bool b_.Low.Num.Negative), slT (iC .u32) b_.Low.Num.Groups, .at (.bool b_.Low.Den.Negative), slT (iC .u32) b_.Low.Den.Groups, .at (.bool b_.High.Num.Negative), slT (iC .u32) b_.High.Num.Groups, .at (.bool b_.High.Den.Negative), slT (iC .u32) b_.High.Den.Groups]]) : a = a_ ∧ b = b_ := by
 obtain ⟨⟨⟨_, _⟩, ⟨_, _⟩⟩, ⟨⟨_, _⟩, ⟨_, _⟩⟩⟩ := a
 obtain ⟨⟨⟨_, _⟩, ⟨_, _⟩⟩, ⟨⟨_, _⟩, ⟨_, _⟩⟩⟩ := a_
 obtain ⟨⟨⟨_, _⟩, ⟨_, _⟩⟩, ⟨⟨_, _⟩, ⟨_, _⟩⟩⟩ := b
 obtain ⟨⟨⟨_, _⟩, ⟨_, _⟩⟩, ⟨⟨_, _⟩, ⟨_, _⟩⟩⟩ := b_
 simp only [List.cons.injEq, AV.agg.injEq, AV.at.injEq, Value.int.injEq, Value.bool.injEq, AV.fn.injEq, AV.pp.injEq, true_and, and_true, slT_inj_int] at h
 simp_all
theorem fiducialref03_Same_ok (n : Nat) (a : api_Range) (b : api_Range) (r : Bool) (hr : fiducialref03_Same n a b = some r) : FnOk Tryz.prog 64 [.agg [.at (.bool a.Low.Num.Negative), slT (iC .u32) a.Low.Num.Groups, .at (.bool a.Low.Den.Negative), slT (iC .u32) a.Low.Den.Groups, .at (.bool a.High.Num.Negative), slT (iC .u32) a.High.Num.Groups, .at (.bool a.High.Den.Negative), slT (iC .u32) a.High.Den.Groups], .agg [.at (.bool b.Low.Num.Negative), slT (iC .u32) b.Low.Num.Groups, .at (.bool b.Low.Den.Negative), slT (iC .u32) b.Low.Den.Groups, .at (.bool b.High.Num.Negative), slT (iC .u32) b.High.Num.Groups, .at (.bool b.High.Den.Negative), slT (iC .u32) b.High.Den.Groups]] (.at (.bool r)) := by
 unfold fiducialref03_Same at hr
 refine FnOk.body fine Tryz.func64 (c := (Tryz.f64.body).getD .skip) rfl (s := mkS 16 0 [(0, .agg (api_Range.c a)), (1, .agg (api_Range.c b))]) (by kernel_rfl) (rs := [.tmp 4]) rfl ?_
 unfold Tryz.f64
 simp only [Option.getD_some]
 refine .seq <| .rn fine [2, 3] (mkS 16 0 [(2, .hp 0 0), (3, .hp 1 0)]) [.own (api_Range.c a), .own (api_Range.c b)] <| .seq ?_
 obtain ⟨v1, hc2, hr⟩ := bd hr
 rcases Bool.eq_false_or_eq_true v1 with hb3 | hb3
 ·subst hb3
  replace hr := cd_t rfl hr
  obtain ⟨v4, hc5, hr⟩ := bd hr
  rcases Bool.eq_false_or_eq_true v4 with hb6 | hb6
  ·subst hb6
   replace hr := cd_t rfl hr
   obtain ⟨v7, hc8, hr⟩ := bd hr
   refine .region fine (callOf_cons (callOk_val (H := [.own (api_Range.c a), .own (api_Range.c b)]) (l := []) rfl (SnL.cons (Sn.pure rfl) SnL.nil) (fiducialref03_Valid_ok n a true hc2)) (callOf_cons (callOk_val (H := [.own (api_Range.c a), .own (api_Range.c b)]) (l := []) rfl (SnL.cons (Sn.pure rfl) SnL.nil) (fiducialref03_Valid_ok n b true hc5)) (callOf_cons (callOk_val (H := [.own (api_Range.c a), .own (api_Range.c b)]) (l := []) rfl (SnL.cons (Sn.pure rfl) (SnL.cons (Sn.pure rfl) SnL.nil)) (fiducialref02_SameRange_ok n a b v7 hc8)) callOf_nil))) <| .mu 1 <| .c0 (by kernel_rfl) (callOf_at (by kernel_rfl)) <| .mu 2 <| .cal (by kernel_rfl) (by kernel_rfl) (callOf_skip (fun _ h => by obtain e0 := fiducialref03_Valid_inj h; rw [show true = true from Option.some.inj (hc5.symm.trans ((show fiducialref03_Valid n b = fiducialref03_Valid n a from (congr rfl e0)).trans hc2))]) (callOf_at (by kernel_rfl))) <| .mu 4 <| .cal (by kernel_rfl) (by kernel_rfl) (callOf_skip (fun h _ => absurd (show (114 : Nat) = 113 from h) (by decide)) (callOf_skip (fun h _ => absurd (show (114 : Nat) = 113 from h) (by decide)) (callOf_at (by kernel_rfl)))) <| .mu 2 <| .done <| .ret ?_
   obtain rfl := Option.some.inj hr
   exact FinQ.r1 [aB v7]
  ·subst hb6
   replace hr := cd_f rfl hr
   refine .region fine (callOf_cons (callOk_val (H := [.own (api_Range.c a), .own (api_Range.c b)]) (l := []) rfl (SnL.cons (Sn.pure rfl) SnL.nil) (fiducialref03_Valid_ok n a true hc2)) (callOf_cons (callOk_val (H := [.own (api_Range.c a), .own (api_Range.c b)]) (l := []) rfl (SnL.cons (Sn.pure rfl) SnL.nil) (fiducialref03_Valid_ok n b false hc5)) callOf_nil)) <| .mu 1 <| .c0 (by kernel_rfl) (callOf_at (by kernel_rfl)) <| .mu 2 <| .cal (by kernel_rfl) (by kernel_rfl) (callOf_skip (fun _ h => by obtain e0 := fiducialref03_Valid_inj h; rw [show false = true from Option.some.inj (hc5.symm.trans ((show fiducialref03_Valid n b = fiducialref03_Valid n a from (congr rfl e0)).trans hc2))]) (callOf_at (by kernel_rfl))) <| .mu 7 <| .done <| .ret ?_
   obtain rfl := Option.some.inj hr
   exact FinQ.r1 [aB false]
 ·subst hb3
  replace hr := cd_f rfl hr
  refine .g1 fine (callOk_val (l := []) rfl (SnL.cons (Sn.pure rfl) SnL.nil) (fiducialref03_Valid_ok n a false hc2)) <| .mu 1 <| .c0 (by kernel_rfl) (callOf_at (by kernel_rfl)) <| .mu 10 <| .done <| .ret ?_
  obtain rfl := Option.some.inj hr
  exact FinQ.r1 [aB false]

theorem fiduciallaw59_known_ok (n : Nat) (r : Bool) (hr : fiduciallaw59_known n = some r) : FnOk Tryz.prog 21 [] (.at (.bool r)) := by
 unfold fiduciallaw59_known at hr
 refine FnOk.body fine Tryz.func21 (c := (Tryz.f21.body).getD .skip) rfl (s := mkS 64 0 []) (by kernel_rfl) (rs := [.tmp 0]) rfl ?_
 unfold Tryz.f21
 simp only [Option.getD_some]
 refine .seq <| .rn fine [] (mkS 64 0 []) [] <| .seq ?_
 obtain ⟨v1, hc2, hr⟩ := bd hr
 obtain ⟨v3, hc4, hr⟩ := bd hr
 refine .region fine (callOf_cons (callOk_ref (H := [.own [aI64 0, aI64 0, aI64 0, aI64 0]]) (args := [aI64 1, .hs 0 0 4 1]) (l := [0]) (SnL.cons (Sn.pure rfl) (SnL.cons (Sn.hs rfl (.inl rfl) (SnC.cons (Sn.pure rfl) (SnC.cons (Sn.pure rfl) (SnC.cons (Sn.pure rfl) (SnC.cons (Sn.pure rfl) SnC.nil)))) (fun h => nomatch h)) SnL.nil)) (fiduciallaw59_banded_ok n 1 [0, 0, 0, 0] v1 hc2)) (callOf_cons (callOk_ref (H := [.fix [aI64 0, aI64 0, aI64 0, aI64 0], .own [aI64 0, aI64 5, aI64 (-3), aI64 2]]) (args := [aI64 1, .hs 1 0 4 1]) (l := [1]) (SnL.cons (Sn.pure rfl) (SnL.cons (Sn.hs rfl (.inl rfl) (SnC.cons (Sn.pure rfl) (SnC.cons (Sn.pure rfl) (SnC.cons (Sn.pure rfl) (SnC.cons (Sn.pure rfl) SnC.nil)))) (fun h => nomatch h)) SnL.nil)) (fiduciallaw59_banded_ok n 1 [0, 5, (-3), 2] v3 hc4)) callOf_nil)) <| .mu 1 <| .c0 (by kernel_rfl) (callOf_at (by kernel_rfl)) <| .mu 1 <| .c0 (by kernel_rfl) (callOf_skipH 0 2 1 (by kernel_rfl) (by kernel_rfl) (by decide) (callOf_at (by kernel_rfl))) <| .mu 4 <| .done <| .n1 [1, 2] (mkS 64 0 [(1, .hp 2 0), (2, .hp 3 0)]) [.fix [aI64 0, aI64 0, aI64 0, aI64 0], .fix [aI64 0, aI64 5, aI64 (-3), aI64 2], .own (api_Banded.c v1), .own (api_Banded.c v3)] <| .seq ?_
 obtain ⟨v5, hc6, hr⟩ := bd hr
 refine .g1 fine (callOk_ref (l := []) (SnL.cons (Sn.pure rfl) (SnL.cons (Sn.pure rfl) SnL.nil)) (change_Compare_ok n v1 v3 v5 hc6)) <| .mu 2 <| .c0 (by kernel_rfl) (callOf_at (by kernel_rfl)) <| .mu 5 <| .done <| .n1 [1, 2, 3, 4] (mkS 64 0 [(1, .hp 2 0), (2, .hp 3 0), (3, sI64 v5.1), (4, aI64 v5.2)]) [.fix [aI64 0, aI64 0, aI64 0, aI64 0], .fix [aI64 0, aI64 5, aI64 (-3), aI64 2], .own (api_Banded.c v1), .own (api_Banded.c v3)] <| .seq ?_
 obtain ⟨v7, hc8, hr⟩ := bd hr
 refine .region fine (callOf_cons (callOk_ref (H := [.fix [aI64 0, aI64 0, aI64 0, aI64 0], .fix [aI64 0, aI64 5, aI64 (-3), aI64 2], .own (api_Banded.c v1), .own (api_Banded.c v3), .own [aB true, aB true, aB true, aB true]]) (args := [.agg (api_Banded.c v1), .agg (api_Banded.c v3), .hs 4 0 4 1]) (l := [4]) (SnL.cons (Sn.pure rfl) (SnL.cons (Sn.pure rfl) (SnL.cons (Sn.hs rfl (.inl rfl) (SnC.cons (Sn.pure rfl) (SnC.cons (Sn.pure rfl) (SnC.cons (Sn.pure rfl) (SnC.cons (Sn.pure rfl) SnC.nil)))) (fun h => nomatch h)) SnL.nil))) (change_Volume_ok n v1 v3 [true, true, true, true] v7 hc8)) callOf_nil) <| .mu 3 <| .c0 (by kernel_rfl) (callOf_at (by kernel_rfl)) <| .mu 6 <| .done <| .n1 [1, 2, 3, 4, 5, 6] (mkS 64 0 [(1, .hp 2 0), (2, .hp 3 0), (3, sI64 v5.1), (4, aI64 v5.2), (5, .hp 5 0), (6, aI64 v7.2)]) [.fix [aI64 0, aI64 0, aI64 0, aI64 0], .fix [aI64 0, aI64 5, aI64 (-3), aI64 2], .own (api_Banded.c v1), .own (api_Banded.c v3), .fix [aB true, aB true, aB true, aB true], .own (api_Range.c v7.1)] <| .seq ?_
 obtain ⟨v9, hc10, hr⟩ := bd hr
 refine .g1 fine (callOk_ref (l := []) (SnL.cons (Sn.pure rfl) (SnL.cons (Sn.pure rfl) SnL.nil)) (change_Total_ok n v1 v3 v9 hc10)) <| .mu 2 <| .c0 (by kernel_rfl) (callOf_at (by kernel_rfl)) <| .mu 9 <| .done <| .n1 [3, 4, 5, 6, 7, 8, 9] (mkS 64 0 [(3, sI64 v5.1), (4, aI64 v5.2), (5, .hp 5 0), (6, aI64 v7.2), (7, .hp 6 0), (8, .hp 7 0), (9, aI64 v9.2.2)]) [.fix [aI64 0, aI64 0, aI64 0, aI64 0], .fix [aI64 0, aI64 5, aI64 (-3), aI64 2], .own (api_Banded.c v1), .own (api_Banded.c v3), .fix [aB true, aB true, aB true, aB true], .own (api_Range.c v7.1), .own (api_Range.c v9.1), .own (api_Range.c v9.2.1)] <| .seq ?_
 rcases Bool.eq_false_or_eq_true ((v5.2 : Int) == 0) with hb11 | hb11
 ·replace hr := cd_t hb11 hr
  rcases Bool.eq_false_or_eq_true ((v7.2 : Int) == 0) with hb12 | hb12
  ·replace hr := cd_t hb12 hr
   rcases Bool.eq_false_or_eq_true ((v9.2.2 : Int) == 0) with hb13 | hb13
   ·replace hr := cd_t hb13 hr
    obtain ⟨v14, hc15, hr⟩ := bd hr
    rcases Bool.eq_false_or_eq_true v14 with hb16 | hb16
    ·subst hb16
     replace hr := cd_t rfl hr
     obtain ⟨v17, hc18, hr⟩ := bd hr
     obtain ⟨v19, hc20, hr⟩ := bd hr
     rcases Bool.eq_false_or_eq_true v19 with hb21 | hb21
     ·subst hb21
      replace hr := cd_t rfl hr
      obtain ⟨v22, hc23, hr⟩ := bd hr
      obtain ⟨v24, hc25, hr⟩ := bd hr
      rcases Bool.eq_false_or_eq_true v24 with hb26 | hb26
      ·subst hb26
       replace hr := cd_t rfl hr
       obtain ⟨v27, hc28, hr⟩ := bd hr
       obtain ⟨v29, hc30, hr⟩ := bd hr
       refine .regionT fine (callOf_cons (callOk_val (H := [.fix [aI64 0, aI64 0, aI64 0, aI64 0], .fix [aI64 0, aI64 5, aI64 (-3), aI64 2], .own (api_Banded.c v1), .own (api_Banded.c v3), .fix [aB true, aB true, aB true, aB true], .own (api_Range.c v7.1), .own (api_Range.c v9.1), .own (api_Range.c v9.2.1), .own [aI64 0, aI64 1, aI64 2, aI64 0]]) (args := [sI64 v5.1, .hs 8 0 4 1]) (l := [8]) rfl (SnL.cons (Sn.pure rfl) (SnL.cons (Sn.hs rfl (.inl rfl) (SnC.cons (Sn.pure rfl) (SnC.cons (Sn.pure rfl) (SnC.cons (Sn.pure rfl) (SnC.cons (Sn.pure rfl) SnC.nil)))) (fun h => nomatch h)) SnL.nil)) (slices_Equal_fiducial_api_Verdict_fiducial_api_Verdict_ok n v5.1 [0, 1, 2, 0] true hc15)) (callOf_cons (callOk_ref (H := [.fix [aI64 0, aI64 0, aI64 0, aI64 0], .fix [aI64 0, aI64 5, aI64 (-3), aI64 2], .own (api_Banded.c v1), .own (api_Banded.c v3), .fix [aB true, aB true, aB true, aB true], .own (api_Range.c v7.1), .own (api_Range.c v9.1), .own (api_Range.c v9.2.1), .own [aI64 0, aI64 1, aI64 2, aI64 0]]) (l := []) (SnL.cons (Sn.pure rfl) (SnL.cons (Sn.pure rfl) SnL.nil)) (fiducialref03_Whole_ok n (-16) 48 v17 hc18)) (callOf_cons (callOk_val (H := [.fix [aI64 0, aI64 0, aI64 0, aI64 0], .fix [aI64 0, aI64 5, aI64 (-3), aI64 2], .own (api_Banded.c v1), .own (api_Banded.c v3), .fix [aB true, aB true, aB true, aB true], .own (api_Range.c v7.1), .own (api_Range.c v9.1), .own (api_Range.c v9.2.1), .own [aI64 0, aI64 1, aI64 2, aI64 0]]) (l := []) rfl (SnL.cons (Sn.pure rfl) (SnL.cons (Sn.pure rfl) SnL.nil)) (fiducialref03_Same_ok n v7.1 v17 true hc20)) (callOf_cons (callOk_ref (H := [.fix [aI64 0, aI64 0, aI64 0, aI64 0], .fix [aI64 0, aI64 5, aI64 (-3), aI64 2], .own (api_Banded.c v1), .own (api_Banded.c v3), .fix [aB true, aB true, aB true, aB true], .own (api_Range.c v7.1), .own (api_Range.c v9.1), .own (api_Range.c v9.2.1), .own [aI64 0, aI64 1, aI64 2, aI64 0]]) (l := []) (SnL.cons (Sn.pure rfl) (SnL.cons (Sn.pure rfl) SnL.nil)) (fiducialref03_Whole_ok n 12 52 v22 hc23)) (callOf_cons (callOk_val (H := [.fix [aI64 0, aI64 0, aI64 0, aI64 0], .fix [aI64 0, aI64 5, aI64 (-3), aI64 2], .own (api_Banded.c v1), .own (api_Banded.c v3), .fix [aB true, aB true, aB true, aB true], .own (api_Range.c v7.1), .own (api_Range.c v9.1), .own (api_Range.c v9.2.1), .own [aI64 0, aI64 1, aI64 2, aI64 0]]) (l := []) rfl (SnL.cons (Sn.pure rfl) (SnL.cons (Sn.pure rfl) SnL.nil)) (fiducialref03_Same_ok n v9.1 v22 true hc25)) (callOf_cons (callOk_ref (H := [.fix [aI64 0, aI64 0, aI64 0, aI64 0], .fix [aI64 0, aI64 5, aI64 (-3), aI64 2], .own (api_Banded.c v1), .own (api_Banded.c v3), .fix [aB true, aB true, aB true, aB true], .own (api_Range.c v7.1), .own (api_Range.c v9.1), .own (api_Range.c v9.2.1), .own [aI64 0, aI64 1, aI64 2, aI64 0]]) (l := []) (SnL.cons (Sn.pure rfl) (SnL.cons (Sn.pure rfl) SnL.nil)) (fiducialref03_Whole_ok n 4 28 v27 hc28)) (callOf_cons (callOk_val (H := [.fix [aI64 0, aI64 0, aI64 0, aI64 0], .fix [aI64 0, aI64 5, aI64 (-3), aI64 2], .own (api_Banded.c v1), .own (api_Banded.c v3), .fix [aB true, aB true, aB true, aB true], .own (api_Range.c v7.1), .own (api_Range.c v9.1), .own (api_Range.c v9.2.1), .own [aI64 0, aI64 1, aI64 2, aI64 0]]) (l := []) rfl (SnL.cons (Sn.pure rfl) (SnL.cons (Sn.pure rfl) SnL.nil)) (fiducialref03_Same_ok n v9.2.1 v27 v29 hc30)) callOf_nil))))))) <| .mu 1 <| .pure (v := aB true) (by kernel_rfl) (Eq.trans (b := some (.pure (aB ((v5.2 : Int) == 0)))) (by kernel_rfl) (by rw [hb11])) (by kernel_rfl) <| .mu 2 <| .pure (v := aB true) (by kernel_rfl) (Eq.trans (b := some (.pure (aB ((v7.2 : Int) == 0)))) (by kernel_rfl) (by rw [hb12])) (by kernel_rfl) <| .mu 3 <| .pure (v := aB true) (by kernel_rfl) (Eq.trans (b := some (.pure (aB ((v9.2.2 : Int) == 0)))) (by kernel_rfl) (by rw [hb13])) (by kernel_rfl) <| .mu 4 <| .cal (by kernel_rfl) (by kernel_rfl) (callOf_at (by kernel_rfl)) (by kernel_rfl) <| .mu 3 ?_
       refine .cal (by kernel_rfl) (by kernel_rfl) (callOf_skip (fun h _ => absurd (show (65 : Nat) = 63 from h) (by decide)) (callOf_at (by kernel_rfl))) (by kernel_rfl) <| .cal (by kernel_rfl) (by kernel_rfl) (callOf_skip (fun h _ => absurd (show (64 : Nat) = 63 from h) (by decide)) (callOf_skip (fun h _ => absurd (show (64 : Nat) = 65 from h) (by decide)) (callOf_at (by kernel_rfl)))) (by kernel_rfl) <| .mu 3 <| .cal (by kernel_rfl) (by kernel_rfl) (callOf_skip (fun h _ => absurd (show (65 : Nat) = 63 from h) (by decide)) (callOf_skip (fun _ h => by obtain ⟨e0, e1⟩ := fiducialref03_Whole_inj h; rw [show v22 = v17 from Option.some.inj (hc23.symm.trans ((show fiducialref03_Whole n 12 52 = fiducialref03_Whole n (-16) 48 from (congr (congr rfl e0) e1)).trans hc18))]) (callOf_skip (fun h _ => absurd (show (65 : Nat) = 64 from h) (by decide)) (callOf_at (by kernel_rfl))))) (by kernel_rfl) <| .cal (by kernel_rfl) (by kernel_rfl) (callOf_skip (fun h _ => absurd (show (64 : Nat) = 63 from h) (by decide)) (callOf_skip (fun h _ => absurd (show (64 : Nat) = 65 from h) (by decide)) (callOf_skip (fun _ h => by obtain ⟨e0, e1⟩ := fiducialref03_Same_inj h; rw [show true = true from Option.some.inj (hc25.symm.trans ((show fiducialref03_Same n v9.1 v22 = fiducialref03_Same n v7.1 v17 from (congr (congr rfl e0) e1)).trans hc20))]) (callOf_skip (fun h _ => absurd (show (64 : Nat) = 65 from h) (by decide)) (callOf_at (by kernel_rfl)))))) (by kernel_rfl) <| .mu 3 <| .cal (by kernel_rfl) (by kernel_rfl) (callOf_skip (fun h _ => absurd (show (65 : Nat) = 63 from h) (by decide)) (callOf_skip (fun _ h => by obtain ⟨e0, e1⟩ := fiducialref03_Whole_inj h; rw [show v27 = v17 from Option.some.inj (hc28.symm.trans ((show fiducialref03_Whole n 4 28 = fiducialref03_Whole n (-16) 48 from (congr (congr rfl e0) e1)).trans hc18))]) (callOf_skip (fun h _ => absurd (show (65 : Nat) = 64 from h) (by decide)) (callOf_skip (fun _ h => by obtain ⟨e0, e1⟩ := fiducialref03_Whole_inj h; rw [show v27 = v22 from Option.some.inj (hc28.symm.trans ((show fiducialref03_Whole n 4 28 = fiducialref03_Whole n 12 52 from (congr (congr rfl e0) e1)).trans hc23))]) (callOf_skip (fun h _ => absurd (show (65 : Nat) = 64 from h) (by decide)) (callOf_at (by kernel_rfl))))))) (by kernel_rfl) <| .cal (by kernel_rfl) (by kernel_rfl) (callOf_skip (fun h _ => absurd (show (64 : Nat) = 63 from h) (by decide)) (callOf_skip (fun h _ => absurd (show (64 : Nat) = 65 from h) (by decide)) (callOf_skip (fun _ h => by obtain ⟨e0, e1⟩ := fiducialref03_Same_inj h; rw [show v29 = true from Option.some.inj (hc30.symm.trans ((show fiducialref03_Same n v9.2.1 v27 = fiducialref03_Same n v7.1 v17 from (congr (congr rfl e0) e1)).trans hc20))]) (callOf_skip (fun h _ => absurd (show (64 : Nat) = 65 from h) (by decide)) (callOf_skip (fun _ h => by obtain ⟨e0, e1⟩ := fiducialref03_Same_inj h; rw [show v29 = true from Option.some.inj (hc30.symm.trans ((show fiducialref03_Same n v9.2.1 v27 = fiducialref03_Same n v9.1 v22 from (congr (congr rfl e0) e1)).trans hc25))]) (callOf_skip (fun h _ => absurd (show (64 : Nat) = 65 from h) (by decide)) (callOf_at (by kernel_rfl)))))))) (by kernel_rfl) <| .mu 2 ?_
       refine .done ⟨by kernel_rfl, ?_⟩
       refine .ret ?_
       obtain rfl := Option.some.inj hr
       exact FinQ.r1 [aB v29]
      ·subst hb26
       replace hr := cd_f rfl hr
       refine .regionT fine (callOf_cons (callOk_val (H := [.fix [aI64 0, aI64 0, aI64 0, aI64 0], .fix [aI64 0, aI64 5, aI64 (-3), aI64 2], .own (api_Banded.c v1), .own (api_Banded.c v3), .fix [aB true, aB true, aB true, aB true], .own (api_Range.c v7.1), .own (api_Range.c v9.1), .own (api_Range.c v9.2.1), .own [aI64 0, aI64 1, aI64 2, aI64 0]]) (args := [sI64 v5.1, .hs 8 0 4 1]) (l := [8]) rfl (SnL.cons (Sn.pure rfl) (SnL.cons (Sn.hs rfl (.inl rfl) (SnC.cons (Sn.pure rfl) (SnC.cons (Sn.pure rfl) (SnC.cons (Sn.pure rfl) (SnC.cons (Sn.pure rfl) SnC.nil)))) (fun h => nomatch h)) SnL.nil)) (slices_Equal_fiducial_api_Verdict_fiducial_api_Verdict_ok n v5.1 [0, 1, 2, 0] true hc15)) (callOf_cons (callOk_ref (H := [.fix [aI64 0, aI64 0, aI64 0, aI64 0], .fix [aI64 0, aI64 5, aI64 (-3), aI64 2], .own (api_Banded.c v1), .own (api_Banded.c v3), .fix [aB true, aB true, aB true, aB true], .own (api_Range.c v7.1), .own (api_Range.c v9.1), .own (api_Range.c v9.2.1), .own [aI64 0, aI64 1, aI64 2, aI64 0]]) (l := []) (SnL.cons (Sn.pure rfl) (SnL.cons (Sn.pure rfl) SnL.nil)) (fiducialref03_Whole_ok n (-16) 48 v17 hc18)) (callOf_cons (callOk_val (H := [.fix [aI64 0, aI64 0, aI64 0, aI64 0], .fix [aI64 0, aI64 5, aI64 (-3), aI64 2], .own (api_Banded.c v1), .own (api_Banded.c v3), .fix [aB true, aB true, aB true, aB true], .own (api_Range.c v7.1), .own (api_Range.c v9.1), .own (api_Range.c v9.2.1), .own [aI64 0, aI64 1, aI64 2, aI64 0]]) (l := []) rfl (SnL.cons (Sn.pure rfl) (SnL.cons (Sn.pure rfl) SnL.nil)) (fiducialref03_Same_ok n v7.1 v17 true hc20)) (callOf_cons (callOk_ref (H := [.fix [aI64 0, aI64 0, aI64 0, aI64 0], .fix [aI64 0, aI64 5, aI64 (-3), aI64 2], .own (api_Banded.c v1), .own (api_Banded.c v3), .fix [aB true, aB true, aB true, aB true], .own (api_Range.c v7.1), .own (api_Range.c v9.1), .own (api_Range.c v9.2.1), .own [aI64 0, aI64 1, aI64 2, aI64 0]]) (l := []) (SnL.cons (Sn.pure rfl) (SnL.cons (Sn.pure rfl) SnL.nil)) (fiducialref03_Whole_ok n 12 52 v22 hc23)) (callOf_cons (callOk_val (H := [.fix [aI64 0, aI64 0, aI64 0, aI64 0], .fix [aI64 0, aI64 5, aI64 (-3), aI64 2], .own (api_Banded.c v1), .own (api_Banded.c v3), .fix [aB true, aB true, aB true, aB true], .own (api_Range.c v7.1), .own (api_Range.c v9.1), .own (api_Range.c v9.2.1), .own [aI64 0, aI64 1, aI64 2, aI64 0]]) (l := []) rfl (SnL.cons (Sn.pure rfl) (SnL.cons (Sn.pure rfl) SnL.nil)) (fiducialref03_Same_ok n v9.1 v22 false hc25)) callOf_nil))))) <| .mu 1 <| .pure (v := aB true) (by kernel_rfl) (Eq.trans (b := some (.pure (aB ((v5.2 : Int) == 0)))) (by kernel_rfl) (by rw [hb11])) (by kernel_rfl) <| .mu 2 <| .pure (v := aB true) (by kernel_rfl) (Eq.trans (b := some (.pure (aB ((v7.2 : Int) == 0)))) (by kernel_rfl) (by rw [hb12])) (by kernel_rfl) <| .mu 3 <| .pure (v := aB true) (by kernel_rfl) (Eq.trans (b := some (.pure (aB ((v9.2.2 : Int) == 0)))) (by kernel_rfl) (by rw [hb13])) (by kernel_rfl) <| .mu 4 <| .cal (by kernel_rfl) (by kernel_rfl) (callOf_at (by kernel_rfl)) (by kernel_rfl) <| .mu 3 <| .cal (by kernel_rfl) (by kernel_rfl) (callOf_skip (fun h _ => absurd (show (65 : Nat) = 63 from h) (by decide)) (callOf_at (by kernel_rfl))) (by kernel_rfl) <| .cal (by kernel_rfl) (by kernel_rfl) (callOf_skip (fun h _ => absurd (show (64 : Nat) = 63 from h) (by decide)) (callOf_skip (fun h _ => absurd (show (64 : Nat) = 65 from h) (by decide)) (callOf_at (by kernel_rfl)))) (by kernel_rfl) <| .mu 3 <| .cal (by kernel_rfl) (by kernel_rfl) (callOf_skip (fun h _ => absurd (show (65 : Nat) = 63 from h) (by decide)) (callOf_skip (fun _ h => by obtain ⟨e0, e1⟩ := fiducialref03_Whole_inj h; rw [show v22 = v17 from Option.some.inj (hc23.symm.trans ((show fiducialref03_Whole n 12 52 = fiducialref03_Whole n (-16) 48 from (congr (congr rfl e0) e1)).trans hc18))]) (callOf_skip (fun h _ => absurd (show (65 : Nat) = 64 from h) (by decide)) (callOf_at (by kernel_rfl))))) (by kernel_rfl) ?_
       refine .cal (by kernel_rfl) (by kernel_rfl) (callOf_skip (fun h _ => absurd (show (64 : Nat) = 63 from h) (by decide)) (callOf_skip (fun h _ => absurd (show (64 : Nat) = 65 from h) (by decide)) (callOf_skip (fun _ h => by obtain ⟨e0, e1⟩ := fiducialref03_Same_inj h; rw [show false = true from Option.some.inj (hc25.symm.trans ((show fiducialref03_Same n v9.1 v22 = fiducialref03_Same n v7.1 v17 from (congr (congr rfl e0) e1)).trans hc20))]) (callOf_skip (fun h _ => absurd (show (64 : Nat) = 65 from h) (by decide)) (callOf_at (by kernel_rfl)))))) (by kernel_rfl) <| .mu 7 ?_
       refine .done ⟨by kernel_rfl, ?_⟩
       refine .ret ?_
       obtain rfl := Option.some.inj hr
       exact FinQ.r1 [aB false]
     ·subst hb21
      replace hr := cd_f rfl hr
      refine .regionT fine (callOf_cons (callOk_val (H := [.fix [aI64 0, aI64 0, aI64 0, aI64 0], .fix [aI64 0, aI64 5, aI64 (-3), aI64 2], .own (api_Banded.c v1), .own (api_Banded.c v3), .fix [aB true, aB true, aB true, aB true], .own (api_Range.c v7.1), .own (api_Range.c v9.1), .own (api_Range.c v9.2.1), .own [aI64 0, aI64 1, aI64 2, aI64 0]]) (args := [sI64 v5.1, .hs 8 0 4 1]) (l := [8]) rfl (SnL.cons (Sn.pure rfl) (SnL.cons (Sn.hs rfl (.inl rfl) (SnC.cons (Sn.pure rfl) (SnC.cons (Sn.pure rfl) (SnC.cons (Sn.pure rfl) (SnC.cons (Sn.pure rfl) SnC.nil)))) (fun h => nomatch h)) SnL.nil)) (slices_Equal_fiducial_api_Verdict_fiducial_api_Verdict_ok n v5.1 [0, 1, 2, 0] true hc15)) (callOf_cons (callOk_ref (H := [.fix [aI64 0, aI64 0, aI64 0, aI64 0], .fix [aI64 0, aI64 5, aI64 (-3), aI64 2], .own (api_Banded.c v1), .own (api_Banded.c v3), .fix [aB true, aB true, aB true, aB true], .own (api_Range.c v7.1), .own (api_Range.c v9.1), .own (api_Range.c v9.2.1), .own [aI64 0, aI64 1, aI64 2, aI64 0]]) (l := []) (SnL.cons (Sn.pure rfl) (SnL.cons (Sn.pure rfl) SnL.nil)) (fiducialref03_Whole_ok n (-16) 48 v17 hc18)) (callOf_cons (callOk_val (H := [.fix [aI64 0, aI64 0, aI64 0, aI64 0], .fix [aI64 0, aI64 5, aI64 (-3), aI64 2], .own (api_Banded.c v1), .own (api_Banded.c v3), .fix [aB true, aB true, aB true, aB true], .own (api_Range.c v7.1), .own (api_Range.c v9.1), .own (api_Range.c v9.2.1), .own [aI64 0, aI64 1, aI64 2, aI64 0]]) (l := []) rfl (SnL.cons (Sn.pure rfl) (SnL.cons (Sn.pure rfl) SnL.nil)) (fiducialref03_Same_ok n v7.1 v17 false hc20)) callOf_nil))) <| .mu 1 <| .pure (v := aB true) (by kernel_rfl) (Eq.trans (b := some (.pure (aB ((v5.2 : Int) == 0)))) (by kernel_rfl) (by rw [hb11])) (by kernel_rfl) <| .mu 2 <| .pure (v := aB true) (by kernel_rfl) (Eq.trans (b := some (.pure (aB ((v7.2 : Int) == 0)))) (by kernel_rfl) (by rw [hb12])) (by kernel_rfl) <| .mu 3 <| .pure (v := aB true) (by kernel_rfl) (Eq.trans (b := some (.pure (aB ((v9.2.2 : Int) == 0)))) (by kernel_rfl) (by rw [hb13])) (by kernel_rfl) <| .mu 4 <| .cal (by kernel_rfl) (by kernel_rfl) (callOf_at (by kernel_rfl)) (by kernel_rfl) <| .mu 3 <| .cal (by kernel_rfl) (by kernel_rfl) (callOf_skip (fun h _ => absurd (show (65 : Nat) = 63 from h) (by decide)) (callOf_at (by kernel_rfl))) (by kernel_rfl) <| .cal (by kernel_rfl) (by kernel_rfl) (callOf_skip (fun h _ => absurd (show (64 : Nat) = 63 from h) (by decide)) (callOf_skip (fun h _ => absurd (show (64 : Nat) = 65 from h) (by decide)) (callOf_at (by kernel_rfl)))) (by kernel_rfl) <| .mu 12 ?_
      refine .done ⟨by kernel_rfl, ?_⟩
      refine .ret ?_
      obtain rfl := Option.some.inj hr
      exact FinQ.r1 [aB false]
    ·subst hb16
     replace hr := cd_f rfl hr
     refine .regionT fine (callOf_cons (callOk_val (H := [.fix [aI64 0, aI64 0, aI64 0, aI64 0], .fix [aI64 0, aI64 5, aI64 (-3), aI64 2], .own (api_Banded.c v1), .own (api_Banded.c v3), .fix [aB true, aB true, aB true, aB true], .own (api_Range.c v7.1), .own (api_Range.c v9.1), .own (api_Range.c v9.2.1), .own [aI64 0, aI64 1, aI64 2, aI64 0]]) (args := [sI64 v5.1, .hs 8 0 4 1]) (l := [8]) rfl (SnL.cons (Sn.pure rfl) (SnL.cons (Sn.hs rfl (.inl rfl) (SnC.cons (Sn.pure rfl) (SnC.cons (Sn.pure rfl) (SnC.cons (Sn.pure rfl) (SnC.cons (Sn.pure rfl) SnC.nil)))) (fun h => nomatch h)) SnL.nil)) (slices_Equal_fiducial_api_Verdict_fiducial_api_Verdict_ok n v5.1 [0, 1, 2, 0] false hc15)) callOf_nil) <| .mu 1 <| .pure (v := aB true) (by kernel_rfl) (Eq.trans (b := some (.pure (aB ((v5.2 : Int) == 0)))) (by kernel_rfl) (by rw [hb11])) (by kernel_rfl) <| .mu 2 <| .pure (v := aB true) (by kernel_rfl) (Eq.trans (b := some (.pure (aB ((v7.2 : Int) == 0)))) (by kernel_rfl) (by rw [hb12])) (by kernel_rfl) <| .mu 3 <| .pure (v := aB true) (by kernel_rfl) (Eq.trans (b := some (.pure (aB ((v9.2.2 : Int) == 0)))) (by kernel_rfl) (by rw [hb13])) (by kernel_rfl) <| .mu 4 <| .cal (by kernel_rfl) (by kernel_rfl) (callOf_at (by kernel_rfl)) (by kernel_rfl) <| .mu 17 ?_
     refine .done ⟨by kernel_rfl, ?_⟩
     refine .ret ?_
     obtain rfl := Option.some.inj hr
     exact FinQ.r1 [aB false]
   ·replace hr := cd_f hb13 hr
    refine .regionT fine callOf_nil <| .mu 1 <| .pure (v := aB true) (by kernel_rfl) (Eq.trans (b := some (.pure (aB ((v5.2 : Int) == 0)))) (by kernel_rfl) (by rw [hb11])) (by kernel_rfl) <| .mu 2 <| .pure (v := aB true) (by kernel_rfl) (Eq.trans (b := some (.pure (aB ((v7.2 : Int) == 0)))) (by kernel_rfl) (by rw [hb12])) (by kernel_rfl) <| .mu 3 <| .pure (v := aB false) (by kernel_rfl) (Eq.trans (b := some (.pure (aB ((v9.2.2 : Int) == 0)))) (by kernel_rfl) (by rw [hb13])) (by kernel_rfl) <| .mu 22 ?_
    refine .done ⟨by kernel_rfl, ?_⟩
    refine .ret ?_
    obtain rfl := Option.some.inj hr
    exact FinQ.r1 [aB false]
  ·replace hr := cd_f hb12 hr
   refine .regionT fine callOf_nil <| .mu 1 <| .pure (v := aB true) (by kernel_rfl) (Eq.trans (b := some (.pure (aB ((v5.2 : Int) == 0)))) (by kernel_rfl) (by rw [hb11])) (by kernel_rfl) <| .mu 2 <| .pure (v := aB false) (by kernel_rfl) (Eq.trans (b := some (.pure (aB ((v7.2 : Int) == 0)))) (by kernel_rfl) (by rw [hb12])) (by kernel_rfl) <| .mu 26 ?_
   refine .done ⟨by kernel_rfl, ?_⟩
   refine .ret ?_
   obtain rfl := Option.some.inj hr
   exact FinQ.r1 [aB false]
 ·replace hr := cd_f hb11 hr
  refine .regionT fine callOf_nil <| .mu 1 <| .pure (v := aB false) (by kernel_rfl) (Eq.trans (b := some (.pure (aB ((v5.2 : Int) == 0)))) (by kernel_rfl) (by rw [hb11])) (by kernel_rfl) <| .mu 29 ?_
  refine .done ⟨by kernel_rfl, ?_⟩
  refine .ret ?_
  obtain rfl := Option.some.inj hr
  exact FinQ.r1 [aB false]

theorem fiduciallaw59_few_ok (n : Nat) (l : List api_Banded) (r : Bool) (hr : fiduciallaw59_few n l = some r) : FnOk Tryz.prog 22 [slT api_Banded.c l] (.at (.bool r)) := by
 unfold fiduciallaw59_few at hr
 refine FnOk.body fine Tryz.func22 (c := (Tryz.f22.body).getD .skip) rfl (s := mkS 23 0 [(0, slT api_Banded.c l)]) (by kernel_rfl) (rs := [.tmp 2]) rfl ?_
 unfold Tryz.f22
 simp only [Option.getD_some]
 refine .seq <| .rn fine [0] (mkS 23 0 [(0, slT api_Banded.c l)]) [] <| .seq <| .seq <| .rn fine [5, 6, 7] (mkS 23 0 [(5, slT api_Banded.c l), (6, aI64 (l.length : Int)), (7, aI64 0)]) [] <| .block ?_
 replace hr := bd hr; obtain ⟨o11, hL12, hr⟩ := hr
 refine .loopO (σ := fun z0 => match z0 with | x_1 => ⟨mkS 23 0 [(5, slT api_Banded.c l), (6, aI64 (l.length : Int)), (7, aI64 x_1)], []⟩) (Q := fun x st' => match (generalizing := false) o11 with | .inl _ => x = .exit 0 ∧ Wk 0 st' ⟨mkS 23 0 [], []⟩ | .inr (r0) => x = .ret ∧ FinQ Tryz.prog [.tmp 2] (aB r0) .ret st') hL12 ((Wk.gc [5, 6, 7] [] rfl pK0).to (by kernel_rfl)) ?_ ?_
 ·clear hr
  rintro m x_1 hr
  show CQ _ _ _ _ _ ⟨_, _⟩
  refine .seq <| .rn fine [5, 6, 7, 8] (mkS 23 0 [(5, slT api_Banded.c l), (6, aI64 (l.length : Int)), (7, aI64 x_1), (8, aB (decide (x_1 < (l.length : Int))))]) [] <| .seq ?_
  refine .cond (t := decide (x_1 < (l.length : Int))) (by kernel_rfl) (fun hb7 => ?_) (fun hb7 => ?_)
  ·replace hr := cd_t hb7 hr
   refine .skip <| .seq <| .block <| .seq ?_
   obtain ⟨hg8, hr⟩ := gd hr
   refine .r0 fine <| .p0 (v := .pp (l.flatMap api_Banded.c) (x_1.toNat * 7)) (Eq.trans (b := ORes.ofP (guardV (inR x_1 l.length) (.pp (l.flatMap api_Banded.c) (x_1.toNat * 7)))) (by kernel_rfl) (ofP_guard hg8)) <| .p0 (v := .agg (api_Banded.c (gt l x_1))) (Eq.trans (b := ORes.ofP (guardV (decide (7 ≤ ((l.flatMap api_Banded.c).drop (x_1.toNat * 7)).length)) (.agg (((l.flatMap api_Banded.c).drop (x_1.toNat * 7)).take 7)))) (by kernel_rfl) (flat_load api_Banded.len (inR_lt hg8) (by decide) (by omega : x_1.toNat * 7 = x_1.toNat * 7 + 0) (by kernel_rfl))) <| .mu 2 <| .done <| .n1 [4, 5, 6, 7] (mkS 23 0 [(4, .hp 0 0), (5, slT api_Banded.c l), (6, aI64 (l.length : Int)), (7, aI64 x_1)]) [.own (api_Banded.c (gt l x_1))] <| .seq ?_
   rcases Bool.eq_false_or_eq_true (decide (((gt l x_1).Grid.Z.length : Int) > 64)) with hb9 | hb9
   ·replace hr := cd_t hb9 hr
    refine .r0 fine <| .mu 4 <| .p0 (v := aB true) (Eq.trans (b := some (.pure (aB (decide (((gt l x_1).Grid.Z.length : Int) > 64))))) (by kernel_rfl) (by rw [hb9])) <| .mu 6 <| .done <| .n1 [5, 6, 7, 21] (mkS 23 0 [(5, slT api_Banded.c l), (6, aI64 (l.length : Int)), (7, aI64 x_1), (21, aB true)]) [.own (api_Banded.c (gt l x_1))] <| .cT (by kernel_rfl) <| .seq <| .ru fine <| .ret ?_
    obtain rfl := Option.some.inj hr
    exact ⟨rfl, FinQ.ret (vs := [aB false]) (by kernel_rfl) (Sn.pure rfl)⟩
   ·replace hr := cd_f hb9 hr
    refine .r0 fine <| .mu 4 <| .p0 (v := aB false) (Eq.trans (b := some (.pure (aB (decide (((gt l x_1).Grid.Z.length : Int) > 64))))) (by kernel_rfl) (by rw [hb9])) <| .mu 6 <| .done <| .n1 [5, 6, 7, 21] (mkS 23 0 [(5, slT api_Banded.c l), (6, aI64 (l.length : Int)), (7, aI64 x_1), (21, aB (decide (((gt l x_1).Err.length : Int) > 70)))]) [.own (api_Banded.c (gt l x_1))] ?_
    refine .cond (t := decide (((gt l x_1).Err.length : Int) > 70)) (by kernel_rfl) (fun hb10 => ?_) (fun hb10 => ?_)
    ·replace hr := cd_t hb10 hr
     refine .seq <| .ru fine <| .ret ?_
     obtain rfl := Option.some.inj hr
     exact ⟨rfl, FinQ.ret (vs := [aB false]) (by kernel_rfl) (Sn.pure rfl)⟩
    ·replace hr := cd_f hb10 hr
     refine .skip <| .pop <| .ru fine ?_
     exact loopF_back (wrapF .i64 (x_1 + 1)) hr ((Wk.gc [5, 6, 7] [] rfl pK0).to (by kernel_rfl))
  ·replace hr := cd_f hb7 hr
   refine .leave rfl ?_
   obtain rfl := Option.some.inj hr
   exact ⟨rfl, ((Wk.gc [] [] rfl pK0).to (by kernel_rfl))⟩
 ·rcases o11 with ⟨⟩ | r0
  ·rintro x st' hq13
   clear hL12
   obtain ⟨rfl, hq13⟩ := hq13
   refine CQ_exit _ rfl <| .wk hq13 <| .seq <| .ru fine <| .ret ?_
   obtain rfl := Option.some.inj hr
   exact FinQ.r1 [aB true]
  ·rintro x st' hq13
   clear hL12
   obtain ⟨rfl, hq13⟩ := hq13
   obtain rfl := Option.some.inj hr
   exact CQ_ret _ hq13

theorem change_Merge_ok (n : Nat) (a : api_Banded) (b : api_Banded) (r : api_Banded × List Int × Int) (hr : change_Merge n a b = some r) : FnOk Tryz.prog 23 [.agg [.at (.int .i64 a.Grid.X0), .at (.int .i64 a.Grid.Y0), .at (.int .i64 a.Grid.Step), .at (.int .i64 a.Grid.Width), .at (.int .i64 a.Grid.Height), slT (iC .i64) a.Grid.Z, slT (iC .i64) a.Err], .agg [.at (.int .i64 b.Grid.X0), .at (.int .i64 b.Grid.Y0), .at (.int .i64 b.Grid.Step), .at (.int .i64 b.Grid.Width), .at (.int .i64 b.Grid.Height), slT (iC .i64) b.Grid.Z, slT (iC .i64) b.Err]] (.tup [.agg [.at (.int .i64 r.1.Grid.X0), .at (.int .i64 r.1.Grid.Y0), .at (.int .i64 r.1.Grid.Step), .at (.int .i64 r.1.Grid.Width), .at (.int .i64 r.1.Grid.Height), slT (iC .i64) r.1.Grid.Z, slT (iC .i64) r.1.Err], slT (iC .i64) r.2.1, .at (.int .i64 r.2.2)]) := by
 unfold change_Merge at hr
 refine FnOk.body fine Tryz.func23 (c := (Tryz.f23.body).getD .skip) rfl (s := mkS 115 0 [(0, .agg (api_Banded.c a)), (1, .agg (api_Banded.c b))]) (by kernel_rfl) (rs := [.cell 4 56, .tmp 5, .tmp 6]) rfl ?_
 unfold Tryz.f23
 simp only [Option.getD_some]
 refine .seq <| .rn fine [2, 3, 4] (mkS 115 0 [(2, .hp 0 0), (3, .hp 1 0), (4, .hp 2 0)]) [.own (api_Banded.c a), .own (api_Banded.c b), .own [aI64 0, aI64 0, aI64 0, aI64 0, aI64 0, .at (.slice none 0 0), .at (.slice none 0 0)]] <| .seq <| .seq ?_
 obtain ⟨v1, hc2, hr⟩ := bd hr
 refine .region fine (callOf_cons (callOk_val (H := [.own (api_Banded.c a), .own (api_Banded.c b), .own [aI64 0, aI64 0, aI64 0, aI64 0, aI64 0, .at (.slice none 0 0), .at (.slice none 0 0)], .own [aI64 a.Grid.X0, aI64 a.Grid.Y0, aI64 a.Grid.Step, aI64 a.Grid.Width, aI64 a.Grid.Height, sI64 a.Grid.Z, sI64 a.Err, aI64 b.Grid.X0, aI64 b.Grid.Y0, aI64 b.Grid.Step, aI64 b.Grid.Width, aI64 b.Grid.Height, sI64 b.Grid.Z, sI64 b.Err]]) (args := [.hs 3 0 2 7]) (l := [3]) rfl (SnL.cons (Sn.hs rfl (.inl rfl) (SnC.cons (Sn.pure rfl) (SnC.cons (Sn.pure rfl) (SnC.cons (Sn.pure rfl) (SnC.cons (Sn.pure rfl) (SnC.cons (Sn.pure rfl) (SnC.cons (Sn.pure rfl) (SnC.cons (Sn.pure rfl) (SnC.cons (Sn.pure rfl) (SnC.cons (Sn.pure rfl) (SnC.cons (Sn.pure rfl) (SnC.cons (Sn.pure rfl) (SnC.cons (Sn.pure rfl) (SnC.cons (Sn.pure rfl) (SnC.cons (Sn.pure rfl) SnC.nil)))))))))))))) (fun h => nomatch h)) SnL.nil) (change_fit_ok n [a, b] v1 hc2)) callOf_nil) <| .mu 3 <| .c0 (by kernel_rfl) (callOf_at (by kernel_rfl)) <| .mu 1 <| .done <| .n1 [2, 3, 4, 7] (mkS 115 0 [(2, .hp 0 0), (3, .hp 1 0), (4, .hp 2 0), (7, aI64 v1)]) [.own (api_Banded.c a), .own (api_Banded.c b), .own [aI64 0, aI64 0, aI64 0, aI64 0, aI64 0, .at (.slice none 0 0), .at (.slice none 0 0)], .own [aI64 a.Grid.X0, aI64 a.Grid.Y0, aI64 a.Grid.Step, aI64 a.Grid.Width, aI64 a.Grid.Height, sI64 a.Grid.Z, sI64 a.Err, aI64 b.Grid.X0, aI64 b.Grid.Y0, aI64 b.Grid.Step, aI64 b.Grid.Width, aI64 b.Grid.Height, sI64 b.Grid.Z, sI64 b.Err]] <| .seq <| .rn fine [2, 3, 4, 7, 22] (mkS 115 0 [(2, .hp 0 0), (3, .hp 1 0), (4, .hp 2 0), (7, aI64 v1), (22, aB ((v1 : Int) != 0))]) [.own (api_Banded.c a), .own (api_Banded.c b), .own [aI64 0, aI64 0, aI64 0, aI64 0, aI64 0, .at (.slice none 0 0), .at (.slice none 0 0)], .own [aI64 a.Grid.X0, aI64 a.Grid.Y0, aI64 a.Grid.Step, aI64 a.Grid.Width, aI64 a.Grid.Height, sI64 a.Grid.Z, sI64 a.Err, aI64 b.Grid.X0, aI64 b.Grid.Y0, aI64 b.Grid.Step, aI64 b.Grid.Width, aI64 b.Grid.Height, sI64 b.Grid.Z, sI64 b.Err]] ?_
 refine .cond (t := (v1 : Int) != 0) (by kernel_rfl) (fun hb3 => ?_) (fun hb3 => ?_)
 ·replace hr := cd_t hb3 hr
  refine .seq <| .rn fine [4, 5, 6] (mkS 115 0 [(4, .hp 2 0), (5, .at (.slice none 0 0)), (6, aI64 v1)]) [.own (api_Banded.c a), .own (api_Banded.c b), .own [aI64 0, aI64 0, aI64 0, aI64 0, aI64 0, .at (.slice none 0 0), .at (.slice none 0 0)], .own [aI64 a.Grid.X0, aI64 a.Grid.Y0, aI64 a.Grid.Step, aI64 a.Grid.Width, aI64 a.Grid.Height, sI64 a.Grid.Z, sI64 a.Err, aI64 b.Grid.X0, aI64 b.Grid.Y0, aI64 b.Grid.Step, aI64 b.Grid.Width, aI64 b.Grid.Height, sI64 b.Grid.Z, sI64 b.Err]] <| .ret ?_
  obtain rfl := Option.some.inj hr
  exact FinQ.ret (vs := [.agg [aI64 0, aI64 0, aI64 0, aI64 0, aI64 0, .at (.slice none 0 0), .at (.slice none 0 0)], .at (.slice none 0 0), aI64 v1]) (by kernel_rfl) (Sn.tup (SnL.cons (Sn.agg (SnL.cons (Sn.pure rfl) (SnL.cons (Sn.pure rfl) (SnL.cons (Sn.pure rfl) (SnL.cons (Sn.pure rfl) (SnL.cons (Sn.pure rfl) (SnL.cons Sn.nilsl (SnL.cons Sn.nilsl SnL.nil)))))))) (SnL.cons Sn.nilsl (SnL.cons (Sn.pure rfl) SnL.nil))))
 ·replace hr := cd_f hb3 hr
  refine .skip <| .seq <| .rn fine [2, 3, 4, 8] (mkS 115 0 [(2, .hp 0 0), (3, .hp 1 0), (4, .hp 2 0), (8, .hp 4 0)]) [.own (api_Banded.c a), .own (api_Banded.c b), .own [aI64 0, aI64 0, aI64 0, aI64 0, aI64 0, .at (.slice none 0 0), .at (.slice none 0 0)], .own [aI64 a.Grid.X0, aI64 a.Grid.Y0, aI64 a.Grid.Step, aI64 a.Grid.Width, aI64 a.Grid.Height, sI64 a.Grid.Z, sI64 a.Err, aI64 b.Grid.X0, aI64 b.Grid.Y0, aI64 b.Grid.Step, aI64 b.Grid.Width, aI64 b.Grid.Height, sI64 b.Grid.Z, sI64 b.Err], .own [aI64 a.Grid.X0, aI64 a.Grid.Y0, aI64 a.Grid.Step, aI64 a.Grid.Width, aI64 a.Grid.Height, sI64 a.Grid.Z, .at (.slice none 0 0)]] <| .seq <| .rn fine [2, 3, 4, 8] (mkS 115 0 [(2, .hp 0 0), (3, .hp 1 0), (4, .hp 2 0), (8, .hp 4 0)]) [.own (api_Banded.c a), .own (api_Banded.c b), .own [aI64 0, aI64 0, aI64 0, aI64 0, aI64 0, .at (.slice none 0 0), .at (.slice none 0 0)], .own [aI64 a.Grid.X0, aI64 a.Grid.Y0, aI64 a.Grid.Step, aI64 a.Grid.Width, aI64 a.Grid.Height, sI64 a.Grid.Z, sI64 a.Err, aI64 b.Grid.X0, aI64 b.Grid.Y0, aI64 b.Grid.Step, aI64 b.Grid.Width, aI64 b.Grid.Height, sI64 b.Grid.Z, sI64 b.Err], .own [aI64 a.Grid.X0, aI64 a.Grid.Y0, aI64 a.Grid.Step, aI64 a.Grid.Width, aI64 a.Grid.Height, .at (.slice none 0 0), .at (.slice none 0 0)]] <| .seq <| .rn fine [2, 3, 4, 8, 9] (mkS 115 0 [(2, .hp 0 0), (3, .hp 1 0), (4, .hp 2 0), (8, .hp 4 0), (9, .at (.slice none 0 0))]) [.own (api_Banded.c a), .own (api_Banded.c b), .own [aI64 0, aI64 0, aI64 0, aI64 0, aI64 0, .at (.slice none 0 0), .at (.slice none 0 0)], .own [aI64 a.Grid.X0, aI64 a.Grid.Y0, aI64 a.Grid.Step, aI64 a.Grid.Width, aI64 a.Grid.Height, sI64 a.Grid.Z, sI64 a.Err, aI64 b.Grid.X0, aI64 b.Grid.Y0, aI64 b.Grid.Step, aI64 b.Grid.Width, aI64 b.Grid.Height, sI64 b.Grid.Z, sI64 b.Err], .own [aI64 a.Grid.X0, aI64 a.Grid.Y0, aI64 a.Grid.Step, aI64 a.Grid.Width, aI64 a.Grid.Height, .at (.slice none 0 0), .at (.slice none 0 0)]] <| .seq <| .seq <| .rn fine [2, 3, 4, 8, 9, 32, 33, 34] (mkS 115 0 [(2, .hp 0 0), (3, .hp 1 0), (4, .hp 2 0), (8, .hp 4 0), (9, .at (.slice none 0 0)), (32, sI64 a.Grid.Z), (33, aI64 (a.Grid.Z.length : Int)), (34, aI64 0)]) [.own (api_Banded.c a), .own (api_Banded.c b), .own [aI64 0, aI64 0, aI64 0, aI64 0, aI64 0, .at (.slice none 0 0), .at (.slice none 0 0)], .own [aI64 a.Grid.X0, aI64 a.Grid.Y0, aI64 a.Grid.Step, aI64 a.Grid.Width, aI64 a.Grid.Height, sI64 a.Grid.Z, sI64 a.Err, aI64 b.Grid.X0, aI64 b.Grid.Y0, aI64 b.Grid.Step, aI64 b.Grid.Width, aI64 b.Grid.Height, sI64 b.Grid.Z, sI64 b.Err], .own [aI64 a.Grid.X0, aI64 a.Grid.Y0, aI64 a.Grid.Step, aI64 a.Grid.Width, aI64 a.Grid.Height, .at (.slice none 0 0), .at (.slice none 0 0)]] <| .block ?_
  replace hr := bd hr; obtain ⟨o74, hL75, hr⟩ := hr
  refine .loopO (σ := fun z0 => match z0 with | (out_4, out_5, contradictions_6, x_7) => ⟨mkS 115 0 [(2, .hp 0 0), (3, .hp 1 0), (4, .hp 2 0), (8, .hp 3 0), (9, .hs 6 0 contradictions_6.length 1), (32, sI64 a.Grid.Z), (33, aI64 (a.Grid.Z.length : Int)), (34, aI64 x_7)], [.own (api_Banded.c a), .own (api_Banded.c b), .own [aI64 0, aI64 0, aI64 0, aI64 0, aI64 0, .at (.slice none 0 0), .at (.slice none 0 0)], .own [aI64 a.Grid.X0, aI64 a.Grid.Y0, aI64 a.Grid.Step, aI64 a.Grid.Width, aI64 a.Grid.Height, .hs 4 0 out_4.length 1, .hs 5 0 out_5.length 1], .own (out_4.flatMap (iC .i64)), .own (out_5.flatMap (iC .i64)), .own (contradictions_6.flatMap (iC .i64))]⟩) (Q := fun x st' => match (generalizing := false) o74 with | (out_39, out_40, contradictions_41) => x = .exit 0 ∧ Wk 0 st' ⟨mkS 115 0 [(4, .hp 0 0), (8, .hp 1 0), (9, .hs 4 0 contradictions_41.length 1)], [.own [aI64 0, aI64 0, aI64 0, aI64 0, aI64 0, .at (.slice none 0 0), .at (.slice none 0 0)], .own [aI64 a.Grid.X0, aI64 a.Grid.Y0, aI64 a.Grid.Step, aI64 a.Grid.Width, aI64 a.Grid.Height, .hs 2 0 out_39.length 1, .hs 3 0 out_40.length 1], .own (out_39.flatMap (iC .i64)), .own (out_40.flatMap (iC .i64)), .own (contradictions_41.flatMap (iC .i64))]⟩) hL75 ((Wk.nilcell 4 5 1 (cs := [aI64 a.Grid.X0, aI64 a.Grid.Y0, aI64 a.Grid.Step, aI64 a.Grid.Width, aI64 a.Grid.Height, .at (.slice none 0 0), .at (.slice none 0 0)]) (by kernel_rfl) (by kernel_rfl)).trans ((Wk.nilcell 4 6 1 (cs := [aI64 a.Grid.X0, aI64 a.Grid.Y0, aI64 a.Grid.Step, aI64 a.Grid.Width, aI64 a.Grid.Height, .hs 5 0 0 1, .at (.slice none 0 0)]) (by kernel_rfl) (by kernel_rfl)).trans ((Wk.nil 9 1 (by kernel_rfl)).trans ((Wk.gc [2, 3, 4, 8, 9, 32, 33, 34] [(0, true), (1, true), (2, true), (4, true), (5, false), (6, false), (7, false)] rfl (pKt (pKt (pKt (pKt (pKc (pKc (pKc trivial)))))))).to (by kernel_rfl))))) ?_ ?_
  ·clear hr
   rintro m ⟨out_4, out_5, contradictions_6, x_7⟩ hr
   show CQ _ _ _ _ _ ⟨_, _⟩
   refine .seq <| .rn fine [2, 3, 4, 8, 9, 32, 33, 34, 35] (mkS 115 0 [(2, .hp 0 0), (3, .hp 1 0), (4, .hp 2 0), (8, .hp 3 0), (9, .hs 6 0 contradictions_6.length 1), (32, sI64 a.Grid.Z), (33, aI64 (a.Grid.Z.length : Int)), (34, aI64 x_7), (35, aB (decide (x_7 < (a.Grid.Z.length : Int))))]) [.own (api_Banded.c a), .own (api_Banded.c b), .own [aI64 0, aI64 0, aI64 0, aI64 0, aI64 0, .at (.slice none 0 0), .at (.slice none 0 0)], .own [aI64 a.Grid.X0, aI64 a.Grid.Y0, aI64 a.Grid.Step, aI64 a.Grid.Width, aI64 a.Grid.Height, .hs 4 0 out_4.length 1, .hs 5 0 out_5.length 1], .own (out_4.flatMap (iC .i64)), .own (out_5.flatMap (iC .i64)), .own (contradictions_6.flatMap (iC .i64))] <| .seq ?_
   refine .cond (t := decide (x_7 < (a.Grid.Z.length : Int))) (by kernel_rfl) (fun hb43 => ?_) (fun hb43 => ?_)
   ·replace hr := cd_t hb43 hr
    refine .skip <| .seq <| .block <| .seq ?_
    obtain ⟨hg44, hr⟩ := gd hr
    refine .r0 fine <| .mu 1 <| .p0 (v := .pp (a.Grid.Z.flatMap (iC .i64)) (x_7.toNat * 1)) (Eq.trans (b := ORes.ofP (guardV (inR x_7 a.Grid.Z.length) (.pp (a.Grid.Z.flatMap (iC .i64)) (x_7.toNat * 1)))) (by kernel_rfl) (ofP_guard hg44)) <| .p0 (v := aI64 (gt a.Grid.Z x_7)) (Eq.trans (b := ORes.ofP ((a.Grid.Z.flatMap (iC .i64))[x_7.toNat * 1]?)) (by kernel_rfl) (ofP_some (flat_get (iC_len _) (inR_lt hg44) (by decide : 0 < 1) (by omega : x_7.toNat * 1 = x_7.toNat * 1 + 0) (by kernel_rfl)))) <| .mu 2 <| .done <| .n1 [2, 3, 4, 8, 9, 10, 11, 32, 33, 34] (mkS 115 0 [(2, .hp 0 0), (3, .hp 1 0), (4, .hp 2 0), (8, .hp 3 0), (9, .hs 6 0 contradictions_6.length 1), (10, aI64 x_7), (11, aI64 (gt a.Grid.Z x_7)), (32, sI64 a.Grid.Z), (33, aI64 (a.Grid.Z.length : Int)), (34, aI64 x_7)]) [.own (api_Banded.c a), .own (api_Banded.c b), .own [aI64 0, aI64 0, aI64 0, aI64 0, aI64 0, .at (.slice none 0 0), .at (.slice none 0 0)], .own [aI64 a.Grid.X0, aI64 a.Grid.Y0, aI64 a.Grid.Step, aI64 a.Grid.Width, aI64 a.Grid.Height, .hs 4 0 out_4.length 1, .hs 5 0 out_5.length 1], .own (out_4.flatMap (iC .i64)), .own (out_5.flatMap (iC .i64)), .own (contradictions_6.flatMap (iC .i64))] <| .seq ?_
    obtain ⟨hg45, hr⟩ := gd hr
    refine .r0 fine <| .mu 3 <| .p0 (v := .pp (a.Err.flatMap (iC .i64)) (x_7.toNat * 1)) (Eq.trans (b := ORes.ofP (guardV (inR x_7 a.Err.length) (.pp (a.Err.flatMap (iC .i64)) (x_7.toNat * 1)))) (by kernel_rfl) (ofP_guard hg45)) <| .p0 (v := aI64 (gt a.Err x_7)) (Eq.trans (b := ORes.ofP ((a.Err.flatMap (iC .i64))[x_7.toNat * 1]?)) (by kernel_rfl) (ofP_some (flat_get (iC_len _) (inR_lt hg45) (by decide : 0 < 1) (by omega : x_7.toNat * 1 = x_7.toNat * 1 + 0) (by kernel_rfl)))) <| .mu 1 <| .done <| .n1 [2, 3, 4, 8, 9, 10, 11, 12, 32, 33, 34] (mkS 115 0 [(2, .hp 0 0), (3, .hp 1 0), (4, .hp 2 0), (8, .hp 3 0), (9, .hs 6 0 contradictions_6.length 1), (10, aI64 x_7), (11, aI64 (gt a.Grid.Z x_7)), (12, aI64 (gt a.Err x_7)), (32, sI64 a.Grid.Z), (33, aI64 (a.Grid.Z.length : Int)), (34, aI64 x_7)]) [.own (api_Banded.c a), .own (api_Banded.c b), .own [aI64 0, aI64 0, aI64 0, aI64 0, aI64 0, .at (.slice none 0 0), .at (.slice none 0 0)], .own [aI64 a.Grid.X0, aI64 a.Grid.Y0, aI64 a.Grid.Step, aI64 a.Grid.Width, aI64 a.Grid.Height, .hs 4 0 out_4.length 1, .hs 5 0 out_5.length 1], .own (out_4.flatMap (iC .i64)), .own (out_5.flatMap (iC .i64)), .own (contradictions_6.flatMap (iC .i64))] <| .seq ?_
    obtain ⟨hg46, hr⟩ := gd hr
    obtain ⟨hg47, hr⟩ := gd hr
    refine .regionT fine callOf_nil <| .mu 4 <| .pure (v := .pp (b.Grid.Z.flatMap (iC .i64)) (x_7.toNat * 1)) (by kernel_rfl) (Eq.trans (b := ORes.ofP (guardV (inR x_7 b.Grid.Z.length) (.pp (b.Grid.Z.flatMap (iC .i64)) (x_7.toNat * 1)))) (by kernel_rfl) (ofP_guard hg46)) (by kernel_rfl) <| .pure (v := aI64 (gt b.Grid.Z x_7)) (by kernel_rfl) (Eq.trans (b := ORes.ofP ((b.Grid.Z.flatMap (iC .i64))[x_7.toNat * 1]?)) (by kernel_rfl) (ofP_some (flat_get (iC_len _) (inR_lt hg46) (by decide : 0 < 1) (by omega : x_7.toNat * 1 = x_7.toNat * 1 + 0) (by kernel_rfl)))) (by kernel_rfl) <| .mu 3 <| .pure (v := .pp (b.Err.flatMap (iC .i64)) (x_7.toNat * 1)) (by kernel_rfl) (Eq.trans (b := ORes.ofP (guardV (inR x_7 b.Err.length) (.pp (b.Err.flatMap (iC .i64)) (x_7.toNat * 1)))) (by kernel_rfl) (ofP_guard hg47)) (by kernel_rfl) <| .pure (v := aI64 (gt b.Err x_7)) (by kernel_rfl) (Eq.trans (b := ORes.ofP ((b.Err.flatMap (iC .i64))[x_7.toNat * 1]?)) (by kernel_rfl) (ofP_some (flat_get (iC_len _) (inR_lt hg47) (by decide : 0 < 1) (by omega : x_7.toNat * 1 = x_7.toNat * 1 + 0) (by kernel_rfl)))) (by kernel_rfl) <| .mu 2 ?_
    refine .done ⟨by kernel_rfl, ?_⟩
    refine .n1 [2, 3, 4, 8, 9, 10, 11, 12, 13, 14, 32, 33, 34] (mkS 115 0 [(2, .hp 0 0), (3, .hp 1 0), (4, .hp 2 0), (8, .hp 3 0), (9, .hs 6 0 contradictions_6.length 1), (10, aI64 x_7), (11, aI64 (gt a.Grid.Z x_7)), (12, aI64 (gt a.Err x_7)), (13, aI64 (gt b.Grid.Z x_7)), (14, aI64 (gt b.Err x_7)), (32, sI64 a.Grid.Z), (33, aI64 (a.Grid.Z.length : Int)), (34, aI64 x_7)]) [.own (api_Banded.c a), .own (api_Banded.c b), .own [aI64 0, aI64 0, aI64 0, aI64 0, aI64 0, .at (.slice none 0 0), .at (.slice none 0 0)], .own [aI64 a.Grid.X0, aI64 a.Grid.Y0, aI64 a.Grid.Step, aI64 a.Grid.Width, aI64 a.Grid.Height, .hs 4 0 out_4.length 1, .hs 5 0 out_5.length 1], .own (out_4.flatMap (iC .i64)), .own (out_5.flatMap (iC .i64)), .own (contradictions_6.flatMap (iC .i64))] <| .seq <| .block <| .seq ?_
    rcases Bool.eq_false_or_eq_true (((gt a.Grid.Z x_7) : Int) == (-2147483648)) with hb48 | hb48
    ·replace hr := cd_t hb48 hr
     refine .r0 fine <| .mu 1 <| .p0 (v := aB true) (Eq.trans (b := some (.pure (aB (((gt a.Grid.Z x_7) : Int) == (-2147483648))))) (by kernel_rfl) (by rw [hb48])) <| .mu 5 <| .done <| .n1 [2, 3, 4, 8, 9, 10, 11, 12, 13, 14, 32, 33, 34, 83] (mkS 115 0 [(2, .hp 0 0), (3, .hp 1 0), (4, .hp 2 0), (8, .hp 3 0), (9, .hs 6 0 contradictions_6.length 1), (10, aI64 x_7), (11, aI64 (gt a.Grid.Z x_7)), (12, aI64 (gt a.Err x_7)), (13, aI64 (gt b.Grid.Z x_7)), (14, aI64 (gt b.Err x_7)), (32, sI64 a.Grid.Z), (33, aI64 (a.Grid.Z.length : Int)), (34, aI64 x_7), (83, aB (((gt b.Grid.Z x_7) : Int) == (-2147483648)))]) [.own (api_Banded.c a), .own (api_Banded.c b), .own [aI64 0, aI64 0, aI64 0, aI64 0, aI64 0, .at (.slice none 0 0), .at (.slice none 0 0)], .own [aI64 a.Grid.X0, aI64 a.Grid.Y0, aI64 a.Grid.Step, aI64 a.Grid.Width, aI64 a.Grid.Height, .hs 4 0 out_4.length 1, .hs 5 0 out_5.length 1], .own (out_4.flatMap (iC .i64)), .own (out_5.flatMap (iC .i64)), .own (contradictions_6.flatMap (iC .i64))] ?_
     refine .cond (t := ((gt b.Grid.Z x_7) : Int) == (-2147483648)) (by kernel_rfl) (fun hb49 => ?_) (fun hb49 => ?_)
     ·replace hr := cd_t hb49 hr
      refine .ru fine <| .pop ?_
      obtain ⟨hg50, hr⟩ := gd hr
      obtain ⟨hg51, hr⟩ := gd hr
      obtain ⟨hg52, hr⟩ := gd hr
      obtain ⟨hg53, hr⟩ := gd hr
      refine .regionT fine callOf_nil <| .mu 5 <| .eff (v := .hs 8 0 (out_4 ++ [(gt a.Grid.Z x_7)]).length 1) (ws := [(4, .dead), (8, .own ((out_4 ++ [(gt a.Grid.Z x_7)]).flatMap (iC .i64)))]) (by kernel_rfl) (Eq.trans (b := guardO (decide (0 + out_4.length * 1 ≤ (out_4.flatMap (iC .i64)).length) && decide ((out_4.length + 1) * 8 ≤ 140737488355328) && decide (out_4.length + 1 ≤ 4611686018427387904)) (some (.eff (.hs 8 0 (out_4.length + 1) 1) [(4, .dead), (8, .own (((out_4.flatMap (iC .i64)).drop 0).take (out_4.length * 1) ++ [aI64 (gt a.Grid.Z x_7)]))]))) (by kernel_rfl) (app_own (l := out_4) (xs := [(gt a.Grid.Z x_7)]) (iC_len _) rfl rfl (by kernel_rfl) hg50 hg51)) (by kernel_rfl) <| .mu 4 <| .eff (v := .hs 10 0 (out_5 ++ [0]).length 1) (ws := [(5, .dead), (10, .own ((out_5 ++ [0]).flatMap (iC .i64)))]) (by kernel_rfl) (Eq.trans (b := guardO (decide (0 + out_5.length * 1 ≤ (out_5.flatMap (iC .i64)).length) && decide ((out_5.length + 1) * 8 ≤ 140737488355328) && decide (out_5.length + 1 ≤ 4611686018427387904)) (some (.eff (.hs 10 0 (out_5.length + 1) 1) [(5, .dead), (10, .own (((out_5.flatMap (iC .i64)).drop 0).take (out_5.length * 1) ++ [aI64 0]))]))) (by kernel_rfl) (app_own (l := out_5) (xs := [0]) (iC_len _) rfl rfl (by kernel_rfl) hg52 hg53)) (by kernel_rfl) <| .mu 5 ?_
      refine .done ⟨by kernel_rfl, ?_⟩
      refine .pop <| .ru fine ?_
      exact loopF_back (out_4 ++ [(gt a.Grid.Z x_7)], out_5 ++ [0], contradictions_6, wrapF .i64 (x_7 + 1)) hr ((Wk.gc [2, 3, 4, 8, 9, 32, 33, 34] [(0, true), (1, true), (2, true), (3, true), (8, false), (10, false), (6, false)] rfl (pKt (pKt (pKt (pKt (pKo (iC .i64) (iC_pure _) (out_4 ++ [(gt a.Grid.Z x_7)]) (pKo (iC .i64) (iC_pure _) (out_5 ++ [0]) (pKo (iC .i64) (iC_pure _) contradictions_6 trivial)))))))).to (by kernel_rfl))
     ·replace hr := cd_f hb49 hr
      refine .seq <| .r0 fine <| .mu 1 <| .p0 (v := aB true) (Eq.trans (b := some (.pure (aB (((gt a.Grid.Z x_7) : Int) == (-2147483648))))) (by kernel_rfl) (by rw [hb48])) <| .mu 1 <| .done <| .n1 [2, 3, 4, 8, 9, 10, 11, 12, 13, 14, 32, 33, 34, 90] (mkS 115 0 [(2, .hp 0 0), (3, .hp 1 0), (4, .hp 2 0), (8, .hp 3 0), (9, .hs 6 0 contradictions_6.length 1), (10, aI64 x_7), (11, aI64 (gt a.Grid.Z x_7)), (12, aI64 (gt a.Err x_7)), (13, aI64 (gt b.Grid.Z x_7)), (14, aI64 (gt b.Err x_7)), (32, sI64 a.Grid.Z), (33, aI64 (a.Grid.Z.length : Int)), (34, aI64 x_7), (90, aB true)]) [.own (api_Banded.c a), .own (api_Banded.c b), .own [aI64 0, aI64 0, aI64 0, aI64 0, aI64 0, .at (.slice none 0 0), .at (.slice none 0 0)], .own [aI64 a.Grid.X0, aI64 a.Grid.Y0, aI64 a.Grid.Step, aI64 a.Grid.Width, aI64 a.Grid.Height, .hs 4 0 out_4.length 1, .hs 5 0 out_5.length 1], .own (out_4.flatMap (iC .i64)), .own (out_5.flatMap (iC .i64)), .own (contradictions_6.flatMap (iC .i64))] <| .cT (by kernel_rfl) <| .ru fine <| .pop ?_
      obtain ⟨hg54, hr⟩ := gd hr
      obtain ⟨hg55, hr⟩ := gd hr
      obtain ⟨hg56, hr⟩ := gd hr
      obtain ⟨hg57, hr⟩ := gd hr
      refine .regionT fine callOf_nil <| .mu 5 <| .eff (v := .hs 8 0 (out_4 ++ [(gt b.Grid.Z x_7)]).length 1) (ws := [(4, .dead), (8, .own ((out_4 ++ [(gt b.Grid.Z x_7)]).flatMap (iC .i64)))]) (by kernel_rfl) (Eq.trans (b := guardO (decide (0 + out_4.length * 1 ≤ (out_4.flatMap (iC .i64)).length) && decide ((out_4.length + 1) * 8 ≤ 140737488355328) && decide (out_4.length + 1 ≤ 4611686018427387904)) (some (.eff (.hs 8 0 (out_4.length + 1) 1) [(4, .dead), (8, .own (((out_4.flatMap (iC .i64)).drop 0).take (out_4.length * 1) ++ [aI64 (gt b.Grid.Z x_7)]))]))) (by kernel_rfl) (app_own (l := out_4) (xs := [(gt b.Grid.Z x_7)]) (iC_len _) rfl rfl (by kernel_rfl) hg54 hg55)) (by kernel_rfl) <| .mu 4 <| .eff (v := .hs 10 0 (out_5 ++ [(gt b.Err x_7)]).length 1) (ws := [(5, .dead), (10, .own ((out_5 ++ [(gt b.Err x_7)]).flatMap (iC .i64)))]) (by kernel_rfl) (Eq.trans (b := guardO (decide (0 + out_5.length * 1 ≤ (out_5.flatMap (iC .i64)).length) && decide ((out_5.length + 1) * 8 ≤ 140737488355328) && decide (out_5.length + 1 ≤ 4611686018427387904)) (some (.eff (.hs 10 0 (out_5.length + 1) 1) [(5, .dead), (10, .own (((out_5.flatMap (iC .i64)).drop 0).take (out_5.length * 1) ++ [aI64 (gt b.Err x_7)]))]))) (by kernel_rfl) (app_own (l := out_5) (xs := [(gt b.Err x_7)]) (iC_len _) rfl rfl (by kernel_rfl) hg56 hg57)) (by kernel_rfl) <| .mu 5 ?_
      refine .done ⟨by kernel_rfl, ?_⟩
      refine .pop <| .ru fine ?_
      exact loopF_back (out_4 ++ [(gt b.Grid.Z x_7)], out_5 ++ [(gt b.Err x_7)], contradictions_6, wrapF .i64 (x_7 + 1)) hr ((Wk.gc [2, 3, 4, 8, 9, 32, 33, 34] [(0, true), (1, true), (2, true), (3, true), (8, false), (10, false), (6, false)] rfl (pKt (pKt (pKt (pKt (pKo (iC .i64) (iC_pure _) (out_4 ++ [(gt b.Grid.Z x_7)]) (pKo (iC .i64) (iC_pure _) (out_5 ++ [(gt b.Err x_7)]) (pKo (iC .i64) (iC_pure _) contradictions_6 trivial)))))))).to (by kernel_rfl))
    ·replace hr := cd_f hb48 hr
     refine .r0 fine <| .mu 1 <| .p0 (v := aB false) (Eq.trans (b := some (.pure (aB (((gt a.Grid.Z x_7) : Int) == (-2147483648))))) (by kernel_rfl) (by rw [hb48])) <| .mu 5 <| .done <| .n1 [2, 3, 4, 8, 9, 10, 11, 12, 13, 14, 32, 33, 34, 83] (mkS 115 0 [(2, .hp 0 0), (3, .hp 1 0), (4, .hp 2 0), (8, .hp 3 0), (9, .hs 6 0 contradictions_6.length 1), (10, aI64 x_7), (11, aI64 (gt a.Grid.Z x_7)), (12, aI64 (gt a.Err x_7)), (13, aI64 (gt b.Grid.Z x_7)), (14, aI64 (gt b.Err x_7)), (32, sI64 a.Grid.Z), (33, aI64 (a.Grid.Z.length : Int)), (34, aI64 x_7), (83, aB false)]) [.own (api_Banded.c a), .own (api_Banded.c b), .own [aI64 0, aI64 0, aI64 0, aI64 0, aI64 0, .at (.slice none 0 0), .at (.slice none 0 0)], .own [aI64 a.Grid.X0, aI64 a.Grid.Y0, aI64 a.Grid.Step, aI64 a.Grid.Width, aI64 a.Grid.Height, .hs 4 0 out_4.length 1, .hs 5 0 out_5.length 1], .own (out_4.flatMap (iC .i64)), .own (out_5.flatMap (iC .i64)), .own (contradictions_6.flatMap (iC .i64))] <| .cF (by kernel_rfl) <| .seq <| .r0 fine <| .mu 1 <| .p0 (v := aB false) (Eq.trans (b := some (.pure (aB (((gt a.Grid.Z x_7) : Int) == (-2147483648))))) (by kernel_rfl) (by rw [hb48])) <| .mu 1 <| .done <| .n1 [2, 3, 4, 8, 9, 10, 11, 12, 13, 14, 32, 33, 34, 90] (mkS 115 0 [(2, .hp 0 0), (3, .hp 1 0), (4, .hp 2 0), (8, .hp 3 0), (9, .hs 6 0 contradictions_6.length 1), (10, aI64 x_7), (11, aI64 (gt a.Grid.Z x_7)), (12, aI64 (gt a.Err x_7)), (13, aI64 (gt b.Grid.Z x_7)), (14, aI64 (gt b.Err x_7)), (32, sI64 a.Grid.Z), (33, aI64 (a.Grid.Z.length : Int)), (34, aI64 x_7), (90, aB false)]) [.own (api_Banded.c a), .own (api_Banded.c b), .own [aI64 0, aI64 0, aI64 0, aI64 0, aI64 0, .at (.slice none 0 0), .at (.slice none 0 0)], .own [aI64 a.Grid.X0, aI64 a.Grid.Y0, aI64 a.Grid.Step, aI64 a.Grid.Width, aI64 a.Grid.Height, .hs 4 0 out_4.length 1, .hs 5 0 out_5.length 1], .own (out_4.flatMap (iC .i64)), .own (out_5.flatMap (iC .i64)), .own (contradictions_6.flatMap (iC .i64))] <| .cF (by kernel_rfl) <| .seq <| .rn fine [2, 3, 4, 8, 9, 10, 11, 12, 13, 14, 32, 33, 34, 95] (mkS 115 0 [(2, .hp 0 0), (3, .hp 1 0), (4, .hp 2 0), (8, .hp 3 0), (9, .hs 6 0 contradictions_6.length 1), (10, aI64 x_7), (11, aI64 (gt a.Grid.Z x_7)), (12, aI64 (gt a.Err x_7)), (13, aI64 (gt b.Grid.Z x_7)), (14, aI64 (gt b.Err x_7)), (32, sI64 a.Grid.Z), (33, aI64 (a.Grid.Z.length : Int)), (34, aI64 x_7), (95, aB (((gt b.Grid.Z x_7) : Int) == (-2147483648)))]) [.own (api_Banded.c a), .own (api_Banded.c b), .own [aI64 0, aI64 0, aI64 0, aI64 0, aI64 0, .at (.slice none 0 0), .at (.slice none 0 0)], .own [aI64 a.Grid.X0, aI64 a.Grid.Y0, aI64 a.Grid.Step, aI64 a.Grid.Width, aI64 a.Grid.Height, .hs 4 0 out_4.length 1, .hs 5 0 out_5.length 1], .own (out_4.flatMap (iC .i64)), .own (out_5.flatMap (iC .i64)), .own (contradictions_6.flatMap (iC .i64))] ?_
     refine .cond (t := ((gt b.Grid.Z x_7) : Int) == (-2147483648)) (by kernel_rfl) (fun hb58 => ?_) (fun hb58 => ?_)
     ·replace hr := cd_t hb58 hr
      refine .skip <| .pop ?_
      obtain ⟨hg59, hr⟩ := gd hr
      obtain ⟨hg60, hr⟩ := gd hr
      obtain ⟨hg61, hr⟩ := gd hr
      obtain ⟨hg62, hr⟩ := gd hr
      refine .regionT fine callOf_nil <| .mu 5 <| .eff (v := .hs 8 0 (out_4 ++ [(gt a.Grid.Z x_7)]).length 1) (ws := [(4, .dead), (8, .own ((out_4 ++ [(gt a.Grid.Z x_7)]).flatMap (iC .i64)))]) (by kernel_rfl) (Eq.trans (b := guardO (decide (0 + out_4.length * 1 ≤ (out_4.flatMap (iC .i64)).length) && decide ((out_4.length + 1) * 8 ≤ 140737488355328) && decide (out_4.length + 1 ≤ 4611686018427387904)) (some (.eff (.hs 8 0 (out_4.length + 1) 1) [(4, .dead), (8, .own (((out_4.flatMap (iC .i64)).drop 0).take (out_4.length * 1) ++ [aI64 (gt a.Grid.Z x_7)]))]))) (by kernel_rfl) (app_own (l := out_4) (xs := [(gt a.Grid.Z x_7)]) (iC_len _) rfl rfl (by kernel_rfl) hg59 hg60)) (by kernel_rfl) <| .mu 4 <| .eff (v := .hs 10 0 (out_5 ++ [(gt a.Err x_7)]).length 1) (ws := [(5, .dead), (10, .own ((out_5 ++ [(gt a.Err x_7)]).flatMap (iC .i64)))]) (by kernel_rfl) (Eq.trans (b := guardO (decide (0 + out_5.length * 1 ≤ (out_5.flatMap (iC .i64)).length) && decide ((out_5.length + 1) * 8 ≤ 140737488355328) && decide (out_5.length + 1 ≤ 4611686018427387904)) (some (.eff (.hs 10 0 (out_5.length + 1) 1) [(5, .dead), (10, .own (((out_5.flatMap (iC .i64)).drop 0).take (out_5.length * 1) ++ [aI64 (gt a.Err x_7)]))]))) (by kernel_rfl) (app_own (l := out_5) (xs := [(gt a.Err x_7)]) (iC_len _) rfl rfl (by kernel_rfl) hg61 hg62)) (by kernel_rfl) <| .mu 5 ?_
      refine .done ⟨by kernel_rfl, ?_⟩
      refine .pop <| .ru fine ?_
      exact loopF_back (out_4 ++ [(gt a.Grid.Z x_7)], out_5 ++ [(gt a.Err x_7)], contradictions_6, wrapF .i64 (x_7 + 1)) hr ((Wk.gc [2, 3, 4, 8, 9, 32, 33, 34] [(0, true), (1, true), (2, true), (3, true), (8, false), (10, false), (6, false)] rfl (pKt (pKt (pKt (pKt (pKo (iC .i64) (iC_pure _) (out_4 ++ [(gt a.Grid.Z x_7)]) (pKo (iC .i64) (iC_pure _) (out_5 ++ [(gt a.Err x_7)]) (pKo (iC .i64) (iC_pure _) contradictions_6 trivial)))))))).to (by kernel_rfl))
     ·replace hr := cd_f hb58 hr
      refine .seq <| .rn fine [2, 3, 4, 8, 9, 10, 15, 16, 32, 33, 34] (mkS 115 0 [(2, .hp 0 0), (3, .hp 1 0), (4, .hp 2 0), (8, .hp 3 0), (9, .hs 6 0 contradictions_6.length 1), (10, aI64 x_7), (15, aI64 (mx (wrapF .i64 ((gt a.Grid.Z x_7) - (gt a.Err x_7))) (wrapF .i64 ((gt b.Grid.Z x_7) - (gt b.Err x_7))))), (16, aI64 (mn (wrapF .i64 ((gt a.Grid.Z x_7) + (gt a.Err x_7))) (wrapF .i64 ((gt b.Grid.Z x_7) + (gt b.Err x_7))))), (32, sI64 a.Grid.Z), (33, aI64 (a.Grid.Z.length : Int)), (34, aI64 x_7)]) [.own (api_Banded.c a), .own (api_Banded.c b), .own [aI64 0, aI64 0, aI64 0, aI64 0, aI64 0, .at (.slice none 0 0), .at (.slice none 0 0)], .own [aI64 a.Grid.X0, aI64 a.Grid.Y0, aI64 a.Grid.Step, aI64 a.Grid.Width, aI64 a.Grid.Height, .hs 4 0 out_4.length 1, .hs 5 0 out_5.length 1], .own (out_4.flatMap (iC .i64)), .own (out_5.flatMap (iC .i64)), .own (contradictions_6.flatMap (iC .i64))] <| .seq <| .rn fine [2, 3, 4, 8, 9, 10, 15, 16, 32, 33, 34, 71] (mkS 115 0 [(2, .hp 0 0), (3, .hp 1 0), (4, .hp 2 0), (8, .hp 3 0), (9, .hs 6 0 contradictions_6.length 1), (10, aI64 x_7), (15, aI64 (mx (wrapF .i64 ((gt a.Grid.Z x_7) - (gt a.Err x_7))) (wrapF .i64 ((gt b.Grid.Z x_7) - (gt b.Err x_7))))), (16, aI64 (mn (wrapF .i64 ((gt a.Grid.Z x_7) + (gt a.Err x_7))) (wrapF .i64 ((gt b.Grid.Z x_7) + (gt b.Err x_7))))), (32, sI64 a.Grid.Z), (33, aI64 (a.Grid.Z.length : Int)), (34, aI64 x_7), (71, aB (decide ((mx (wrapF .i64 ((gt a.Grid.Z x_7) - (gt a.Err x_7))) (wrapF .i64 ((gt b.Grid.Z x_7) - (gt b.Err x_7)))) ≤ (mn (wrapF .i64 ((gt a.Grid.Z x_7) + (gt a.Err x_7))) (wrapF .i64 ((gt b.Grid.Z x_7) + (gt b.Err x_7)))))))]) [.own (api_Banded.c a), .own (api_Banded.c b), .own [aI64 0, aI64 0, aI64 0, aI64 0, aI64 0, .at (.slice none 0 0), .at (.slice none 0 0)], .own [aI64 a.Grid.X0, aI64 a.Grid.Y0, aI64 a.Grid.Step, aI64 a.Grid.Width, aI64 a.Grid.Height, .hs 4 0 out_4.length 1, .hs 5 0 out_5.length 1], .own (out_4.flatMap (iC .i64)), .own (out_5.flatMap (iC .i64)), .own (contradictions_6.flatMap (iC .i64))] ?_
      refine .cond (t := decide ((mx (wrapF .i64 ((gt a.Grid.Z x_7) - (gt a.Err x_7))) (wrapF .i64 ((gt b.Grid.Z x_7) - (gt b.Err x_7)))) ≤ (mn (wrapF .i64 ((gt a.Grid.Z x_7) + (gt a.Err x_7))) (wrapF .i64 ((gt b.Grid.Z x_7) + (gt b.Err x_7)))))) (by kernel_rfl) (fun hb63 => ?_) (fun hb63 => ?_)
      ·replace hr := cd_t hb63 hr
       refine .seq <| .rn fine [2, 3, 4, 8, 9, 11, 16, 32, 33, 34] (mkS 115 0 [(2, .hp 0 0), (3, .hp 1 0), (4, .hp 2 0), (8, .hp 3 0), (9, .hs 6 0 contradictions_6.length 1), (11, aI64 ((wrapF .i64 ((mx (wrapF .i64 ((gt a.Grid.Z x_7) - (gt a.Err x_7))) (wrapF .i64 ((gt b.Grid.Z x_7) - (gt b.Err x_7)))) + (mn (wrapF .i64 ((gt a.Grid.Z x_7) + (gt a.Err x_7))) (wrapF .i64 ((gt b.Grid.Z x_7) + (gt b.Err x_7)))))).fdiv (2 ^ 1))), (16, aI64 (mn (wrapF .i64 ((gt a.Grid.Z x_7) + (gt a.Err x_7))) (wrapF .i64 ((gt b.Grid.Z x_7) + (gt b.Err x_7))))), (32, sI64 a.Grid.Z), (33, aI64 (a.Grid.Z.length : Int)), (34, aI64 x_7)]) [.own (api_Banded.c a), .own (api_Banded.c b), .own [aI64 0, aI64 0, aI64 0, aI64 0, aI64 0, .at (.slice none 0 0), .at (.slice none 0 0)], .own [aI64 a.Grid.X0, aI64 a.Grid.Y0, aI64 a.Grid.Step, aI64 a.Grid.Width, aI64 a.Grid.Height, .hs 4 0 out_4.length 1, .hs 5 0 out_5.length 1], .own (out_4.flatMap (iC .i64)), .own (out_5.flatMap (iC .i64)), .own (contradictions_6.flatMap (iC .i64))] <| .ru fine <| .pop ?_
       obtain ⟨hg64, hr⟩ := gd hr
       obtain ⟨hg65, hr⟩ := gd hr
       obtain ⟨hg66, hr⟩ := gd hr
       obtain ⟨hg67, hr⟩ := gd hr
       refine .regionT fine callOf_nil <| .mu 5 <| .eff (v := .hs 8 0 (out_4 ++ [(wrapF .i64 ((mx (wrapF .i64 ((gt a.Grid.Z x_7) - (gt a.Err x_7))) (wrapF .i64 ((gt b.Grid.Z x_7) - (gt b.Err x_7)))) + (mn (wrapF .i64 ((gt a.Grid.Z x_7) + (gt a.Err x_7))) (wrapF .i64 ((gt b.Grid.Z x_7) + (gt b.Err x_7)))))).fdiv (2 ^ 1)]).length 1) (ws := [(4, .dead), (8, .own ((out_4 ++ [(wrapF .i64 ((mx (wrapF .i64 ((gt a.Grid.Z x_7) - (gt a.Err x_7))) (wrapF .i64 ((gt b.Grid.Z x_7) - (gt b.Err x_7)))) + (mn (wrapF .i64 ((gt a.Grid.Z x_7) + (gt a.Err x_7))) (wrapF .i64 ((gt b.Grid.Z x_7) + (gt b.Err x_7)))))).fdiv (2 ^ 1)]).flatMap (iC .i64)))]) (by kernel_rfl) (Eq.trans (b := guardO (decide (0 + out_4.length * 1 ≤ (out_4.flatMap (iC .i64)).length) && decide ((out_4.length + 1) * 8 ≤ 140737488355328) && decide (out_4.length + 1 ≤ 4611686018427387904)) (some (.eff (.hs 8 0 (out_4.length + 1) 1) [(4, .dead), (8, .own (((out_4.flatMap (iC .i64)).drop 0).take (out_4.length * 1) ++ [aI64 ((wrapF .i64 ((mx (wrapF .i64 ((gt a.Grid.Z x_7) - (gt a.Err x_7))) (wrapF .i64 ((gt b.Grid.Z x_7) - (gt b.Err x_7)))) + (mn (wrapF .i64 ((gt a.Grid.Z x_7) + (gt a.Err x_7))) (wrapF .i64 ((gt b.Grid.Z x_7) + (gt b.Err x_7)))))).fdiv (2 ^ 1))]))]))) (by kernel_rfl) (app_own (l := out_4) (xs := [(wrapF .i64 ((mx (wrapF .i64 ((gt a.Grid.Z x_7) - (gt a.Err x_7))) (wrapF .i64 ((gt b.Grid.Z x_7) - (gt b.Err x_7)))) + (mn (wrapF .i64 ((gt a.Grid.Z x_7) + (gt a.Err x_7))) (wrapF .i64 ((gt b.Grid.Z x_7) + (gt b.Err x_7)))))).fdiv (2 ^ 1)]) (iC_len _) rfl rfl (by kernel_rfl) hg64 hg65)) (by kernel_rfl) <| .mu 4 <| .eff (v := .hs 10 0 (out_5 ++ [wrapF .i64 ((mn (wrapF .i64 ((gt a.Grid.Z x_7) + (gt a.Err x_7))) (wrapF .i64 ((gt b.Grid.Z x_7) + (gt b.Err x_7)))) - ((wrapF .i64 ((mx (wrapF .i64 ((gt a.Grid.Z x_7) - (gt a.Err x_7))) (wrapF .i64 ((gt b.Grid.Z x_7) - (gt b.Err x_7)))) + (mn (wrapF .i64 ((gt a.Grid.Z x_7) + (gt a.Err x_7))) (wrapF .i64 ((gt b.Grid.Z x_7) + (gt b.Err x_7)))))).fdiv (2 ^ 1)))]).length 1) (ws := [(5, .dead), (10, .own ((out_5 ++ [wrapF .i64 ((mn (wrapF .i64 ((gt a.Grid.Z x_7) + (gt a.Err x_7))) (wrapF .i64 ((gt b.Grid.Z x_7) + (gt b.Err x_7)))) - ((wrapF .i64 ((mx (wrapF .i64 ((gt a.Grid.Z x_7) - (gt a.Err x_7))) (wrapF .i64 ((gt b.Grid.Z x_7) - (gt b.Err x_7)))) + (mn (wrapF .i64 ((gt a.Grid.Z x_7) + (gt a.Err x_7))) (wrapF .i64 ((gt b.Grid.Z x_7) + (gt b.Err x_7)))))).fdiv (2 ^ 1)))]).flatMap (iC .i64)))]) (by kernel_rfl) (Eq.trans (b := guardO (decide (0 + out_5.length * 1 ≤ (out_5.flatMap (iC .i64)).length) && decide ((out_5.length + 1) * 8 ≤ 140737488355328) && decide (out_5.length + 1 ≤ 4611686018427387904)) (some (.eff (.hs 10 0 (out_5.length + 1) 1) [(5, .dead), (10, .own (((out_5.flatMap (iC .i64)).drop 0).take (out_5.length * 1) ++ [aI64 (wrapF .i64 ((mn (wrapF .i64 ((gt a.Grid.Z x_7) + (gt a.Err x_7))) (wrapF .i64 ((gt b.Grid.Z x_7) + (gt b.Err x_7)))) - ((wrapF .i64 ((mx (wrapF .i64 ((gt a.Grid.Z x_7) - (gt a.Err x_7))) (wrapF .i64 ((gt b.Grid.Z x_7) - (gt b.Err x_7)))) + (mn (wrapF .i64 ((gt a.Grid.Z x_7) + (gt a.Err x_7))) (wrapF .i64 ((gt b.Grid.Z x_7) + (gt b.Err x_7)))))).fdiv (2 ^ 1))))]))]))) (by kernel_rfl) (app_own (l := out_5) (xs := [wrapF .i64 ((mn (wrapF .i64 ((gt a.Grid.Z x_7) + (gt a.Err x_7))) (wrapF .i64 ((gt b.Grid.Z x_7) + (gt b.Err x_7)))) - ((wrapF .i64 ((mx (wrapF .i64 ((gt a.Grid.Z x_7) - (gt a.Err x_7))) (wrapF .i64 ((gt b.Grid.Z x_7) - (gt b.Err x_7)))) + (mn (wrapF .i64 ((gt a.Grid.Z x_7) + (gt a.Err x_7))) (wrapF .i64 ((gt b.Grid.Z x_7) + (gt b.Err x_7)))))).fdiv (2 ^ 1)))]) (iC_len _) rfl rfl (by kernel_rfl) hg66 hg67)) (by kernel_rfl) <| .mu 5 ?_
       refine .done ⟨by kernel_rfl, ?_⟩
       refine .pop <| .ru fine ?_
       exact loopF_back (out_4 ++ [(wrapF .i64 ((mx (wrapF .i64 ((gt a.Grid.Z x_7) - (gt a.Err x_7))) (wrapF .i64 ((gt b.Grid.Z x_7) - (gt b.Err x_7)))) + (mn (wrapF .i64 ((gt a.Grid.Z x_7) + (gt a.Err x_7))) (wrapF .i64 ((gt b.Grid.Z x_7) + (gt b.Err x_7)))))).fdiv (2 ^ 1)], out_5 ++ [wrapF .i64 ((mn (wrapF .i64 ((gt a.Grid.Z x_7) + (gt a.Err x_7))) (wrapF .i64 ((gt b.Grid.Z x_7) + (gt b.Err x_7)))) - ((wrapF .i64 ((mx (wrapF .i64 ((gt a.Grid.Z x_7) - (gt a.Err x_7))) (wrapF .i64 ((gt b.Grid.Z x_7) - (gt b.Err x_7)))) + (mn (wrapF .i64 ((gt a.Grid.Z x_7) + (gt a.Err x_7))) (wrapF .i64 ((gt b.Grid.Z x_7) + (gt b.Err x_7)))))).fdiv (2 ^ 1)))], contradictions_6, wrapF .i64 (x_7 + 1)) hr ((Wk.gc [2, 3, 4, 8, 9, 32, 33, 34] [(0, true), (1, true), (2, true), (3, true), (8, false), (10, false), (6, false)] rfl (pKt (pKt (pKt (pKt (pKo (iC .i64) (iC_pure _) (out_4 ++ [(wrapF .i64 ((mx (wrapF .i64 ((gt a.Grid.Z x_7) - (gt a.Err x_7))) (wrapF .i64 ((gt b.Grid.Z x_7) - (gt b.Err x_7)))) + (mn (wrapF .i64 ((gt a.Grid.Z x_7) + (gt a.Err x_7))) (wrapF .i64 ((gt b.Grid.Z x_7) + (gt b.Err x_7)))))).fdiv (2 ^ 1)]) (pKo (iC .i64) (iC_pure _) (out_5 ++ [wrapF .i64 ((mn (wrapF .i64 ((gt a.Grid.Z x_7) + (gt a.Err x_7))) (wrapF .i64 ((gt b.Grid.Z x_7) + (gt b.Err x_7)))) - ((wrapF .i64 ((mx (wrapF .i64 ((gt a.Grid.Z x_7) - (gt a.Err x_7))) (wrapF .i64 ((gt b.Grid.Z x_7) - (gt b.Err x_7)))) + (mn (wrapF .i64 ((gt a.Grid.Z x_7) + (gt a.Err x_7))) (wrapF .i64 ((gt b.Grid.Z x_7) + (gt b.Err x_7)))))).fdiv (2 ^ 1)))]) (pKo (iC .i64) (iC_pure _) contradictions_6 trivial)))))))).to (by kernel_rfl))
      ·replace hr := cd_f hb63 hr
       refine .seq <| .rn fine [2, 3, 4, 8, 9, 10, 11, 12, 32, 33, 34] (mkS 115 0 [(2, .hp 0 0), (3, .hp 1 0), (4, .hp 2 0), (8, .hp 3 0), (9, .hs 6 0 contradictions_6.length 1), (10, aI64 x_7), (11, aI64 (-2147483648)), (12, aI64 0), (32, sI64 a.Grid.Z), (33, aI64 (a.Grid.Z.length : Int)), (34, aI64 x_7)]) [.own (api_Banded.c a), .own (api_Banded.c b), .own [aI64 0, aI64 0, aI64 0, aI64 0, aI64 0, .at (.slice none 0 0), .at (.slice none 0 0)], .own [aI64 a.Grid.X0, aI64 a.Grid.Y0, aI64 a.Grid.Step, aI64 a.Grid.Width, aI64 a.Grid.Height, .hs 4 0 out_4.length 1, .hs 5 0 out_5.length 1], .own (out_4.flatMap (iC .i64)), .own (out_5.flatMap (iC .i64)), .own (contradictions_6.flatMap (iC .i64))] ?_
       obtain ⟨hg68, hr⟩ := gd hr
       obtain ⟨hg69, hr⟩ := gd hr
       refine .r0 fine <| .mu 3 <| .e0 (v := .hs 8 0 (contradictions_6 ++ [x_7]).length 1) (ws := [(6, .dead), (8, .own ((contradictions_6 ++ [x_7]).flatMap (iC .i64)))]) (Eq.trans (b := guardO (decide (0 + contradictions_6.length * 1 ≤ (contradictions_6.flatMap (iC .i64)).length) && decide ((contradictions_6.length + 1) * 8 ≤ 140737488355328) && decide (contradictions_6.length + 1 ≤ 4611686018427387904)) (some (.eff (.hs 8 0 (contradictions_6.length + 1) 1) [(6, .dead), (8, .own (((contradictions_6.flatMap (iC .i64)).drop 0).take (contradictions_6.length * 1) ++ [aI64 x_7]))]))) (by kernel_rfl) (app_own (l := contradictions_6) (xs := [x_7]) (iC_len _) rfl rfl (by kernel_rfl) hg68 hg69)) <| .mu 1 <| .done <| .pop ?_
       obtain ⟨hg70, hr⟩ := gd hr
       obtain ⟨hg71, hr⟩ := gd hr
       obtain ⟨hg72, hr⟩ := gd hr
       obtain ⟨hg73, hr⟩ := gd hr
       refine .regionT fine callOf_nil <| .mu 5 <| .eff (v := .hs 10 0 (out_4 ++ [(-2147483648)]).length 1) (ws := [(4, .dead), (10, .own ((out_4 ++ [(-2147483648)]).flatMap (iC .i64)))]) (by kernel_rfl) (Eq.trans (b := guardO (decide (0 + out_4.length * 1 ≤ (out_4.flatMap (iC .i64)).length) && decide ((out_4.length + 1) * 8 ≤ 140737488355328) && decide (out_4.length + 1 ≤ 4611686018427387904)) (some (.eff (.hs 10 0 (out_4.length + 1) 1) [(4, .dead), (10, .own (((out_4.flatMap (iC .i64)).drop 0).take (out_4.length * 1) ++ [aI64 (-2147483648)]))]))) (by kernel_rfl) (app_own (l := out_4) (xs := [(-2147483648)]) (iC_len _) rfl rfl (by kernel_rfl) hg70 hg71)) (by kernel_rfl) <| .mu 4 <| .eff (v := .hs 12 0 (out_5 ++ [0]).length 1) (ws := [(5, .dead), (12, .own ((out_5 ++ [0]).flatMap (iC .i64)))]) (by kernel_rfl) (Eq.trans (b := guardO (decide (0 + out_5.length * 1 ≤ (out_5.flatMap (iC .i64)).length) && decide ((out_5.length + 1) * 8 ≤ 140737488355328) && decide (out_5.length + 1 ≤ 4611686018427387904)) (some (.eff (.hs 12 0 (out_5.length + 1) 1) [(5, .dead), (12, .own (((out_5.flatMap (iC .i64)).drop 0).take (out_5.length * 1) ++ [aI64 0]))]))) (by kernel_rfl) (app_own (l := out_5) (xs := [0]) (iC_len _) rfl rfl (by kernel_rfl) hg72 hg73)) (by kernel_rfl) <| .mu 5 ?_
       refine .done ⟨by kernel_rfl, ?_⟩
       refine .pop <| .ru fine ?_
       exact loopF_back (out_4 ++ [(-2147483648)], out_5 ++ [0], contradictions_6 ++ [x_7], wrapF .i64 (x_7 + 1)) hr ((Wk.gc [2, 3, 4, 8, 9, 32, 33, 34] [(0, true), (1, true), (2, true), (3, true), (10, false), (12, false), (8, false)] rfl (pKt (pKt (pKt (pKt (pKo (iC .i64) (iC_pure _) (out_4 ++ [(-2147483648)]) (pKo (iC .i64) (iC_pure _) (out_5 ++ [0]) (pKo (iC .i64) (iC_pure _) (contradictions_6 ++ [x_7]) trivial)))))))).to (by kernel_rfl))
   ·replace hr := cd_f hb43 hr
    refine .leave rfl ?_
    obtain rfl := Option.some.inj hr
    exact ⟨rfl, ((Wk.gc [4, 8, 9] [(2, true), (3, true), (4, false), (5, false), (6, false)] rfl (pKt (pKt (pKo (iC .i64) (iC_pure _) out_4 (pKo (iC .i64) (iC_pure _) out_5 (pKo (iC .i64) (iC_pure _) contradictions_6 trivial)))))).to (by kernel_rfl))⟩
  ·rcases o74 with ⟨out_39, out_40, contradictions_41⟩
   rintro x st' hq76
   clear hL75
   obtain ⟨rfl, hq76⟩ := hq76
   refine CQ_exit _ rfl <| .wk hq76 <| .seq <| .rn fine [4, 5, 6] (mkS 115 0 [(4, .hp 0 0), (5, .hs 4 0 contradictions_41.length 1), (6, aI64 0)]) [.own [aI64 a.Grid.X0, aI64 a.Grid.Y0, aI64 a.Grid.Step, aI64 a.Grid.Width, aI64 a.Grid.Height, .hs 2 0 out_39.length 1, .hs 3 0 out_40.length 1], .own [aI64 a.Grid.X0, aI64 a.Grid.Y0, aI64 a.Grid.Step, aI64 a.Grid.Width, aI64 a.Grid.Height, .hs 2 0 out_39.length 1, .hs 3 0 out_40.length 1], .own (out_39.flatMap (iC .i64)), .own (out_40.flatMap (iC .i64)), .own (contradictions_41.flatMap (iC .i64))] <| .ret ?_
   obtain rfl := Option.some.inj hr
   exact FinQ.ret (vs := [.agg [aI64 a.Grid.X0, aI64 a.Grid.Y0, aI64 a.Grid.Step, aI64 a.Grid.Width, aI64 a.Grid.Height, .hs 2 0 out_39.length 1, .hs 3 0 out_40.length 1], .hs 4 0 contradictions_41.length 1, aI64 0]) (by kernel_rfl) (Sn.tup (SnL.cons (Sn.agg (SnL.cons (Sn.pure rfl) (SnL.cons (Sn.pure rfl) (SnL.cons (Sn.pure rfl) (SnL.cons (Sn.pure rfl) (SnL.cons (Sn.pure rfl) (SnL.cons (Sn.hs rfl (.inl rfl) (SnC.pure (ids_flat (iC_pure _) _)) (fun h => flat_nil0 h)) (SnL.cons (Sn.hs rfl (.inl rfl) (SnC.pure (ids_flat (iC_pure _) _)) (fun h => flat_nil0 h)) SnL.nil)))))))) (SnL.cons (Sn.hs rfl (.inl rfl) (SnC.pure (ids_flat (iC_pure _) _)) (fun h => flat_nil0 h)) (SnL.cons (Sn.pure rfl) SnL.nil))))

theorem fiduciallaw51_out_inj {n' : Int} {n'_ : Int} (h : ([.at (.int .i64 n')] : List AV) = [.at (.int .i64 n'_)]) : n' = n'_ := by
 simp only [List.cons.injEq, AV.agg.injEq, AV.at.injEq, Value.int.injEq, Value.bool.injEq, AV.fn.injEq, AV.pp.injEq, true_and, and_true] at h
 simp_all
theorem fiduciallaw51_out_ok (n : Nat) (n' : Int) (r : Bool) (hr : fiduciallaw51_out n n' = some r) : FnOk Tryz.prog 187 [.at (.int .i64 n')] (.at (.bool r)) := by
 unfold fiduciallaw51_out at hr
 refine FnOk.body fine Tryz.func187 (c := (Tryz.f187.body).getD .skip) rfl (s := mkS 9 0 [(0, aI64 n')]) (by kernel_rfl) (rs := [.tmp 2]) rfl ?_
 unfold Tryz.f187
 simp only [Option.getD_some]
 refine .seq <| .rn fine [0] (mkS 9 0 [(0, aI64 n')]) [] <| .seq ?_
 rcases Bool.eq_false_or_eq_true (decide (n' < (-1048576))) with hb1 | hb1
 ·replace hr := cd_t hb1 hr
  refine .r0 fine <| .mu 1 <| .p0 (v := aB true) (Eq.trans (b := some (.pure (aB (decide (n' < (-1048576)))))) (by kernel_rfl) (by rw [hb1])) <| .mu 5 <| .done <| .ret ?_
  obtain rfl := Option.some.inj hr
  exact FinQ.r1 [aB true]
 ·replace hr := cd_f hb1 hr
  refine .r0 fine <| .mu 1 <| .p0 (v := aB false) (Eq.trans (b := some (.pure (aB (decide (n' < (-1048576)))))) (by kernel_rfl) (by rw [hb1])) <| .mu 5 <| .done <| .ret ?_
  obtain rfl := Option.some.inj hr
  exact FinQ.r1 [aB (decide (n' > 1048576))]

theorem fiduciallaw51_check_ok (n : Nat) (g : api_Grid) (r : Int) (hr : fiduciallaw51_check n g = some r) : FnOk Tryz.prog 148 [.agg [.at (.int .i64 g.X0), .at (.int .i64 g.Y0), .at (.int .i64 g.Step), .at (.int .i64 g.Width), .at (.int .i64 g.Height), slT (iC .i64) g.Z]] (.at (.int .i64 r)) := by
 unfold fiduciallaw51_check at hr
 refine FnOk.body fine Tryz.func148 (c := (Tryz.f148.body).getD .skip) rfl (s := mkS 72 0 [(0, .agg (api_Grid.c g))]) (by kernel_rfl) (rs := [.tmp 2]) rfl ?_
 unfold Tryz.f148
 simp only [Option.getD_some]
 refine .seq <| .rn fine [1] (mkS 72 0 [(1, .hp 0 0)]) [.own (api_Grid.c g)] <| .seq <| .seq ?_
 rcases Bool.eq_false_or_eq_true (decide (g.Width < 2)) with hb1 | hb1
 ·replace hr := cd_t hb1 hr
  refine .r0 fine <| .mu 2 <| .p0 (v := aB true) (Eq.trans (b := some (.pure (aB (decide (g.Width < 2))))) (by kernel_rfl) (by rw [hb1])) <| .mu 41 <| .done <| .n1 [1, 48] (mkS 72 0 [(1, .hp 0 0), (48, aB true)]) [.own (api_Grid.c g)] <| .cT (by kernel_rfl) <| .seq <| .ru fine <| .ret ?_
  obtain rfl := Option.some.inj hr
  exact FinQ.r1 [aI64 2]
 ·replace hr := cd_f hb1 hr
  rcases Bool.eq_false_or_eq_true (decide (g.Width > 64)) with hb2 | hb2
  ·replace hr := cd_t hb2 hr
   refine .r0 fine <| .mu 2 <| .p0 (v := aB false) (Eq.trans (b := some (.pure (aB (decide (g.Width < 2))))) (by kernel_rfl) (by rw [hb1])) <| .mu 3 <| .pure (v := aB true) (by kernel_rfl) (Eq.trans (b := some (.pure (aB (decide (g.Width > 64))))) (by kernel_rfl) (by rw [hb2])) <| .mu 37 <| .done <| .n1 [1, 48] (mkS 72 0 [(1, .hp 0 0), (48, aB true)]) [.own (api_Grid.c g)] <| .cT (by kernel_rfl) <| .seq <| .ru fine <| .ret ?_
   obtain rfl := Option.some.inj hr
   exact FinQ.r1 [aI64 2]
  ·replace hr := cd_f hb2 hr
   rcases Bool.eq_false_or_eq_true (decide (g.Height < 2)) with hb3 | hb3
   ·replace hr := cd_t hb3 hr
    refine .r0 fine <| .mu 2 <| .p0 (v := aB false) (Eq.trans (b := some (.pure (aB (decide (g.Width < 2))))) (by kernel_rfl) (by rw [hb1])) <| .mu 3 <| .pure (v := aB false) (by kernel_rfl) (Eq.trans (b := some (.pure (aB (decide (g.Width > 64))))) (by kernel_rfl) (by rw [hb2])) <| .mu 4 <| .pure (v := aB true) (by kernel_rfl) (Eq.trans (b := some (.pure (aB (decide (g.Height < 2))))) (by kernel_rfl) (by rw [hb3])) <| .mu 32 <| .done <| .n1 [1, 48] (mkS 72 0 [(1, .hp 0 0), (48, aB true)]) [.own (api_Grid.c g)] <| .cT (by kernel_rfl) <| .seq <| .ru fine <| .ret ?_
    obtain rfl := Option.some.inj hr
    exact FinQ.r1 [aI64 2]
   ·replace hr := cd_f hb3 hr
    rcases Bool.eq_false_or_eq_true (decide (g.Height > 64)) with hb4 | hb4
    ·replace hr := cd_t hb4 hr
     refine .r0 fine <| .mu 2 <| .p0 (v := aB false) (Eq.trans (b := some (.pure (aB (decide (g.Width < 2))))) (by kernel_rfl) (by rw [hb1])) <| .mu 3 <| .pure (v := aB false) (by kernel_rfl) (Eq.trans (b := some (.pure (aB (decide (g.Width > 64))))) (by kernel_rfl) (by rw [hb2])) <| .mu 4 <| .pure (v := aB false) (by kernel_rfl) (Eq.trans (b := some (.pure (aB (decide (g.Height < 2))))) (by kernel_rfl) (by rw [hb3])) <| .mu 4 <| .pure (v := aB true) (by kernel_rfl) (Eq.trans (b := some (.pure (aB (decide (g.Height > 64))))) (by kernel_rfl) (by rw [hb4])) <| .mu 27 <| .done <| .n1 [1, 48] (mkS 72 0 [(1, .hp 0 0), (48, aB true)]) [.own (api_Grid.c g)] <| .cT (by kernel_rfl) <| .seq <| .ru fine <| .ret ?_
     obtain rfl := Option.some.inj hr
     exact FinQ.r1 [aI64 2]
    ·replace hr := cd_f hb4 hr
     rcases Bool.eq_false_or_eq_true (decide (g.Step < 2)) with hb5 | hb5
     ·replace hr := cd_t hb5 hr
      refine .r0 fine <| .mu 2 <| .p0 (v := aB false) (Eq.trans (b := some (.pure (aB (decide (g.Width < 2))))) (by kernel_rfl) (by rw [hb1])) <| .mu 3 <| .pure (v := aB false) (by kernel_rfl) (Eq.trans (b := some (.pure (aB (decide (g.Width > 64))))) (by kernel_rfl) (by rw [hb2])) <| .mu 4 <| .pure (v := aB false) (by kernel_rfl) (Eq.trans (b := some (.pure (aB (decide (g.Height < 2))))) (by kernel_rfl) (by rw [hb3])) <| .mu 4 <| .pure (v := aB false) (by kernel_rfl) (Eq.trans (b := some (.pure (aB (decide (g.Height > 64))))) (by kernel_rfl) (by rw [hb4])) <| .mu 4 <| .pure (v := aB true) (by kernel_rfl) (Eq.trans (b := some (.pure (aB (decide (g.Step < 2))))) (by kernel_rfl) (by rw [hb5])) <| .mu 22 <| .done <| .n1 [1, 48] (mkS 72 0 [(1, .hp 0 0), (48, aB true)]) [.own (api_Grid.c g)] <| .cT (by kernel_rfl) <| .seq <| .ru fine <| .ret ?_
      obtain rfl := Option.some.inj hr
      exact FinQ.r1 [aI64 2]
     ·replace hr := cd_f hb5 hr
      rcases Bool.eq_false_or_eq_true (decide (g.Step > 65536)) with hb6 | hb6
      ·replace hr := cd_t hb6 hr
       refine .r0 fine <| .mu 2 <| .p0 (v := aB false) (Eq.trans (b := some (.pure (aB (decide (g.Width < 2))))) (by kernel_rfl) (by rw [hb1])) <| .mu 3 <| .pure (v := aB false) (by kernel_rfl) (Eq.trans (b := some (.pure (aB (decide (g.Width > 64))))) (by kernel_rfl) (by rw [hb2])) <| .mu 4 <| .pure (v := aB false) (by kernel_rfl) (Eq.trans (b := some (.pure (aB (decide (g.Height < 2))))) (by kernel_rfl) (by rw [hb3])) <| .mu 4 <| .pure (v := aB false) (by kernel_rfl) (Eq.trans (b := some (.pure (aB (decide (g.Height > 64))))) (by kernel_rfl) (by rw [hb4])) <| .mu 4 <| .pure (v := aB false) (by kernel_rfl) (Eq.trans (b := some (.pure (aB (decide (g.Step < 2))))) (by kernel_rfl) (by rw [hb5])) <| .mu 4 <| .pure (v := aB true) (by kernel_rfl) (Eq.trans (b := some (.pure (aB (decide (g.Step > 65536))))) (by kernel_rfl) (by rw [hb6])) <| .mu 17 <| .done <| .n1 [1, 48] (mkS 72 0 [(1, .hp 0 0), (48, aB true)]) [.own (api_Grid.c g)] <| .cT (by kernel_rfl) <| .seq <| .ru fine <| .ret ?_
       obtain rfl := Option.some.inj hr
       exact FinQ.r1 [aI64 2]
      ·replace hr := cd_f hb6 hr
       rcases Bool.eq_false_or_eq_true (((g.Step.tmod 2) : Int) != 0) with hb7 | hb7
       ·replace hr := cd_t hb7 hr
        refine .r0 fine <| .mu 2 <| .p0 (v := aB false) (Eq.trans (b := some (.pure (aB (decide (g.Width < 2))))) (by kernel_rfl) (by rw [hb1])) <| .mu 3 <| .pure (v := aB false) (by kernel_rfl) (Eq.trans (b := some (.pure (aB (decide (g.Width > 64))))) (by kernel_rfl) (by rw [hb2])) <| .mu 4 <| .pure (v := aB false) (by kernel_rfl) (Eq.trans (b := some (.pure (aB (decide (g.Height < 2))))) (by kernel_rfl) (by rw [hb3])) <| .mu 4 <| .pure (v := aB false) (by kernel_rfl) (Eq.trans (b := some (.pure (aB (decide (g.Height > 64))))) (by kernel_rfl) (by rw [hb4])) <| .mu 4 <| .pure (v := aB false) (by kernel_rfl) (Eq.trans (b := some (.pure (aB (decide (g.Step < 2))))) (by kernel_rfl) (by rw [hb5])) <| .mu 4 <| .pure (v := aB false) (by kernel_rfl) (Eq.trans (b := some (.pure (aB (decide (g.Step > 65536))))) (by kernel_rfl) (by rw [hb6])) <| .mu 5 <| .pure (v := aB true) (by kernel_rfl) (Eq.trans (b := some (.pure (aB (((g.Step.tmod 2) : Int) != 0)))) (by kernel_rfl) (by rw [hb7])) <| .mu 11 <| .done <| .n1 [1, 48] (mkS 72 0 [(1, .hp 0 0), (48, aB true)]) [.own (api_Grid.c g)] <| .cT (by kernel_rfl) <| .seq <| .ru fine <| .ret ?_
        obtain rfl := Option.some.inj hr
        exact FinQ.r1 [aI64 2]
       ·replace hr := cd_f hb7 hr
        obtain ⟨v8, hc9, hr⟩ := bd hr
        rcases Bool.eq_false_or_eq_true v8 with hb10 | hb10
        ·subst hb10
         replace hr := cd_t rfl hr
         refine .g1 fine (callOk_val (l := []) rfl (SnL.cons (Sn.pure rfl) SnL.nil) (fiduciallaw51_out_ok n g.X0 true hc9)) <| .mu 2 <| .p0 (v := aB false) (Eq.trans (b := some (.pure (aB (decide (g.Width < 2))))) (by kernel_rfl) (by rw [hb1])) <| .mu 3 <| .pure (v := aB false) (by kernel_rfl) (Eq.trans (b := some (.pure (aB (decide (g.Width > 64))))) (by kernel_rfl) (by rw [hb2])) <| .mu 4 <| .pure (v := aB false) (by kernel_rfl) (Eq.trans (b := some (.pure (aB (decide (g.Height < 2))))) (by kernel_rfl) (by rw [hb3])) <| .mu 4 <| .pure (v := aB false) (by kernel_rfl) (Eq.trans (b := some (.pure (aB (decide (g.Height > 64))))) (by kernel_rfl) (by rw [hb4])) <| .mu 4 <| .pure (v := aB false) (by kernel_rfl) (Eq.trans (b := some (.pure (aB (decide (g.Step < 2))))) (by kernel_rfl) (by rw [hb5])) <| .mu 4 <| .pure (v := aB false) (by kernel_rfl) (Eq.trans (b := some (.pure (aB (decide (g.Step > 65536))))) (by kernel_rfl) (by rw [hb6])) <| .mu 5 <| .pure (v := aB false) (by kernel_rfl) (Eq.trans (b := some (.pure (aB (((g.Step.tmod 2) : Int) != 0)))) (by kernel_rfl) (by rw [hb7])) <| .mu 4 <| .cal (by kernel_rfl) (by kernel_rfl) (callOf_at (by kernel_rfl)) <| .mu 6 <| .done <| .n1 [1, 48] (mkS 72 0 [(1, .hp 0 0), (48, aB true)]) [.own (api_Grid.c g)] <| .cT (by kernel_rfl) <| .seq <| .ru fine <| .ret ?_
         obtain rfl := Option.some.inj hr
         exact FinQ.r1 [aI64 2]
        ·subst hb10
         replace hr := cd_f rfl hr
         obtain ⟨v11, hc12, hr⟩ := bd hr
         refine .region fine (callOf_cons (callOk_val (H := [.own (api_Grid.c g)]) (l := []) rfl (SnL.cons (Sn.pure rfl) SnL.nil) (fiduciallaw51_out_ok n g.X0 false hc9)) (callOf_cons (callOk_val (H := [.own (api_Grid.c g)]) (l := []) rfl (SnL.cons (Sn.pure rfl) SnL.nil) (fiduciallaw51_out_ok n g.Y0 v11 hc12)) callOf_nil)) <| .mu 2 <| .p0 (v := aB false) (Eq.trans (b := some (.pure (aB (decide (g.Width < 2))))) (by kernel_rfl) (by rw [hb1])) <| .mu 3 <| .pure (v := aB false) (by kernel_rfl) (Eq.trans (b := some (.pure (aB (decide (g.Width > 64))))) (by kernel_rfl) (by rw [hb2])) <| .mu 4 <| .pure (v := aB false) (by kernel_rfl) (Eq.trans (b := some (.pure (aB (decide (g.Height < 2))))) (by kernel_rfl) (by rw [hb3])) <| .mu 4 <| .pure (v := aB false) (by kernel_rfl) (Eq.trans (b := some (.pure (aB (decide (g.Height > 64))))) (by kernel_rfl) (by rw [hb4])) <| .mu 4 <| .pure (v := aB false) (by kernel_rfl) (Eq.trans (b := some (.pure (aB (decide (g.Step < 2))))) (by kernel_rfl) (by rw [hb5])) <| .mu 4 <| .pure (v := aB false) (by kernel_rfl) (Eq.trans (b := some (.pure (aB (decide (g.Step > 65536))))) (by kernel_rfl) (by rw [hb6])) <| .mu 5 <| .pure (v := aB false) (by kernel_rfl) (Eq.trans (b := some (.pure (aB (((g.Step.tmod 2) : Int) != 0)))) (by kernel_rfl) (by rw [hb7])) <| .mu 4 <| .cal (by kernel_rfl) (by kernel_rfl) (callOf_at (by kernel_rfl)) <| .mu 4 <| .cal (by kernel_rfl) (by kernel_rfl) (callOf_skip (fun _ h => by obtain e0 := fiduciallaw51_out_inj h; rw [show v11 = false from Option.some.inj (hc12.symm.trans ((show fiduciallaw51_out n g.Y0 = fiduciallaw51_out n g.X0 from (congr rfl e0)).trans hc9))]) (callOf_at (by kernel_rfl))) <| .mu 1 <| .done <| .n1 [1, 48] (mkS 72 0 [(1, .hp 0 0), (48, aB v11)]) [.own (api_Grid.c g)] ?_
         refine .cond (t := v11) (by kernel_rfl) (fun hb13 => ?_) (fun hb13 => ?_)
         ·replace hr := cd_t hb13 hr
          refine .seq <| .ru fine <| .ret ?_
          obtain rfl := Option.some.inj hr
          exact FinQ.r1 [aI64 2]
         ·replace hr := cd_f hb13 hr
          refine .skip <| .seq <| .seq <| .rn fine [1, 57] (mkS 72 0 [(1, .hp 0 0), (57, aB (((g.Z.length : Int) : Int) != (wrapF .i64 (g.Width * g.Height))))]) [.own (api_Grid.c g)] ?_
          refine .cond (t := ((g.Z.length : Int) : Int) != (wrapF .i64 (g.Width * g.Height))) (by kernel_rfl) (fun hb14 => ?_) (fun hb14 => ?_)
          ·replace hr := cd_t hb14 hr
           refine .seq <| .ru fine <| .ret ?_
           obtain rfl := Option.some.inj hr
           exact FinQ.r1 [aI64 4]
          ·replace hr := cd_f hb14 hr
           refine .skip <| .seq <| .seq <| .rn fine [59, 60, 61] (mkS 72 0 [(59, sI64 g.Z), (60, aI64 (g.Z.length : Int)), (61, aI64 0)]) [.own (api_Grid.c g)] <| .block ?_
           replace hr := bd hr; obtain ⟨o29, hL30, hr⟩ := hr
           refine .loopO (σ := fun z0 => match z0 with | x_15 => ⟨mkS 72 0 [(59, sI64 g.Z), (60, aI64 (g.Z.length : Int)), (61, aI64 x_15)], []⟩) (Q := fun x st' => match (generalizing := false) o29 with | .inl _ => x = .exit 0 ∧ Wk 0 st' ⟨mkS 72 0 [], []⟩ | .inr (r0) => x = .ret ∧ FinQ Tryz.prog [.tmp 2] (aI64 r0) .ret st') hL30 ((Wk.gc [59, 60, 61] [] rfl pK0).to (by kernel_rfl)) ?_ ?_
           ·clear hr
            rintro m x_15 hr
            show CQ _ _ _ _ _ ⟨_, _⟩
            refine .seq <| .rn fine [59, 60, 61, 62] (mkS 72 0 [(59, sI64 g.Z), (60, aI64 (g.Z.length : Int)), (61, aI64 x_15), (62, aB (decide (x_15 < (g.Z.length : Int))))]) [] <| .seq ?_
            refine .cond (t := decide (x_15 < (g.Z.length : Int))) (by kernel_rfl) (fun hb23 => ?_) (fun hb23 => ?_)
            ·replace hr := cd_t hb23 hr
             refine .skip <| .seq <| .block <| .seq ?_
             obtain ⟨hg24, hr⟩ := gd hr
             refine .r0 fine <| .p0 (v := .pp (g.Z.flatMap (iC .i64)) (x_15.toNat * 1)) (Eq.trans (b := ORes.ofP (guardV (inR x_15 g.Z.length) (.pp (g.Z.flatMap (iC .i64)) (x_15.toNat * 1)))) (by kernel_rfl) (ofP_guard hg24)) <| .p0 (v := aI64 (gt g.Z x_15)) (Eq.trans (b := ORes.ofP ((g.Z.flatMap (iC .i64))[x_15.toNat * 1]?)) (by kernel_rfl) (ofP_some (flat_get (iC_len _) (inR_lt hg24) (by decide : 0 < 1) (by omega : x_15.toNat * 1 = x_15.toNat * 1 + 0) (by kernel_rfl)))) <| .mu 1 <| .done <| .n1 [4, 59, 60, 61] (mkS 72 0 [(4, aI64 (gt g.Z x_15)), (59, sI64 g.Z), (60, aI64 (g.Z.length : Int)), (61, aI64 x_15)]) [] <| .seq ?_
             rcases Bool.eq_false_or_eq_true (((gt g.Z x_15) : Int) != (-2147483648)) with hb25 | hb25
             ·replace hr := cd_t hb25 hr
              obtain ⟨v26, hc27, hr⟩ := bd hr
              refine .g1 fine (callOk_val (l := []) rfl (SnL.cons (Sn.pure rfl) SnL.nil) (fiduciallaw51_out_ok n (gt g.Z x_15) v26 hc27)) <| .mu 1 <| .p0 (v := aB true) (Eq.trans (b := some (.pure (aB (((gt g.Z x_15) : Int) != (-2147483648))))) (by kernel_rfl) (by rw [hb25])) <| .mu 2 <| .cal (by kernel_rfl) (by kernel_rfl) (callOf_at (by kernel_rfl)) <| .mu 1 <| .done <| .n1 [59, 60, 61, 70] (mkS 72 0 [(59, sI64 g.Z), (60, aI64 (g.Z.length : Int)), (61, aI64 x_15), (70, aB v26)]) [] ?_
              refine .cond (t := v26) (by kernel_rfl) (fun hb28 => ?_) (fun hb28 => ?_)
              ·replace hr := cd_t hb28 hr
               refine .seq <| .ru fine <| .ret ?_
               obtain rfl := Option.some.inj hr
               exact ⟨rfl, FinQ.ret (vs := [aI64 2]) (by kernel_rfl) (Sn.pure rfl)⟩
              ·replace hr := cd_f hb28 hr
               refine .skip <| .pop <| .ru fine ?_
               exact loopF_back (wrapF .i64 (x_15 + 1)) hr ((Wk.gc [59, 60, 61] [] rfl pK0).to (by kernel_rfl))
             ·replace hr := cd_f hb25 hr
              refine .r0 fine <| .mu 1 <| .p0 (v := aB false) (Eq.trans (b := some (.pure (aB (((gt g.Z x_15) : Int) != (-2147483648))))) (by kernel_rfl) (by rw [hb25])) <| .mu 4 <| .done <| .n1 [59, 60, 61, 70] (mkS 72 0 [(59, sI64 g.Z), (60, aI64 (g.Z.length : Int)), (61, aI64 x_15), (70, aB false)]) [] <| .cF (by kernel_rfl) <| .skip <| .pop <| .ru fine ?_
              exact loopF_back (wrapF .i64 (x_15 + 1)) hr ((Wk.gc [59, 60, 61] [] rfl pK0).to (by kernel_rfl))
            ·replace hr := cd_f hb23 hr
             refine .leave rfl ?_
             obtain rfl := Option.some.inj hr
             exact ⟨rfl, ((Wk.gc [] [] rfl pK0).to (by kernel_rfl))⟩
           ·rcases o29 with ⟨⟩ | r0
            ·rintro x st' hq31
             clear hL30
             obtain ⟨rfl, hq31⟩ := hq31
             refine CQ_exit _ rfl <| .wk hq31 <| .seq <| .ru fine <| .ret ?_
             obtain rfl := Option.some.inj hr
             exact FinQ.r1 [aI64 0]
            ·rintro x st' hq31
             clear hL30
             obtain ⟨rfl, hq31⟩ := hq31
             obtain rfl := Option.some.inj hr
             exact CQ_ret _ hq31

theorem fiduciallaw51_Checked_ok (n : Nat) (g : api_Grid) (r : Int) (hr : fiduciallaw51_Checked n g = some r) : FnOk Tryz.prog 116 [.agg [.at (.int .i64 g.X0), .at (.int .i64 g.Y0), .at (.int .i64 g.Step), .at (.int .i64 g.Width), .at (.int .i64 g.Height), slT (iC .i64) g.Z]] (.at (.int .i64 r)) := by
 unfold fiduciallaw51_Checked at hr
 refine FnOk.body fine Tryz.func116 (c := (Tryz.f116.body).getD .skip) rfl (s := mkS 5 0 [(0, .agg (api_Grid.c g))]) (by kernel_rfl) (rs := [.tmp 2]) rfl ?_
 unfold Tryz.f116
 simp only [Option.getD_some]
 refine .seq <| .rn fine [1] (mkS 5 0 [(1, .hp 0 0)]) [.own (api_Grid.c g)] <| .seq ?_
 obtain ⟨v1, hc2, hr⟩ := bd hr
 refine .g1 fine (callOk_val (l := []) rfl (SnL.cons (Sn.pure rfl) SnL.nil) (fiduciallaw51_check_ok n g v1 hc2)) <| .mu 1 <| .c0 (by kernel_rfl) (callOf_at (by kernel_rfl)) <| .mu 1 <| .done <| .ret ?_
 obtain rfl := Option.some.inj hr
 exact FinQ.r1 [aI64 v1]

theorem fiduciallaw59_check_ok (n : Nat) (b : api_Banded) (r : Int) (hr : fiduciallaw59_check n b = some r) : FnOk Tryz.prog 67 [.agg [.at (.int .i64 b.Grid.X0), .at (.int .i64 b.Grid.Y0), .at (.int .i64 b.Grid.Step), .at (.int .i64 b.Grid.Width), .at (.int .i64 b.Grid.Height), slT (iC .i64) b.Grid.Z, slT (iC .i64) b.Err]] (.at (.int .i64 r)) := by
 unfold fiduciallaw59_check at hr
 refine FnOk.body fine Tryz.func67 (c := (Tryz.f67.body).getD .skip) rfl (s := mkS 34 0 [(0, .agg (api_Banded.c b))]) (by kernel_rfl) (rs := [.tmp 2]) rfl ?_
 unfold Tryz.f67
 simp only [Option.getD_some]
 refine .seq <| .rn fine [1] (mkS 34 0 [(1, .hp 0 0)]) [.own (api_Banded.c b)] <| .seq <| .seq ?_
 obtain ⟨v1, hc2, hr⟩ := bd hr
 refine .g1 fine (callOk_val (l := []) rfl (SnL.cons (Sn.pure rfl) SnL.nil) (fiduciallaw51_Checked_ok n b.Grid v1 hc2)) <| .mu 2 <| .c0 (by kernel_rfl) (callOf_at (by kernel_rfl)) <| .mu 1 <| .done <| .n1 [1, 3] (mkS 34 0 [(1, .hp 0 0), (3, aI64 v1)]) [.own (api_Banded.c b)] <| .seq <| .rn fine [1, 3, 10] (mkS 34 0 [(1, .hp 0 0), (3, aI64 v1), (10, aB ((v1 : Int) != 0))]) [.own (api_Banded.c b)] ?_
 refine .cond (t := (v1 : Int) != 0) (by kernel_rfl) (fun hb3 => ?_) (fun hb3 => ?_)
 ·replace hr := cd_t hb3 hr
  refine .seq <| .ru fine <| .ret ?_
  obtain rfl := Option.some.inj hr
  exact FinQ.r1 [aI64 v1]
 ·replace hr := cd_f hb3 hr
  refine .skip <| .seq <| .seq <| .rn fine [1, 19] (mkS 34 0 [(1, .hp 0 0), (19, aB (((b.Err.length : Int) : Int) != (b.Grid.Z.length : Int)))]) [.own (api_Banded.c b)] ?_
  refine .cond (t := ((b.Err.length : Int) : Int) != (b.Grid.Z.length : Int)) (by kernel_rfl) (fun hb4 => ?_) (fun hb4 => ?_)
  ·replace hr := cd_t hb4 hr
   refine .seq <| .ru fine <| .ret ?_
   obtain rfl := Option.some.inj hr
   exact FinQ.r1 [aI64 4]
  ·replace hr := cd_f hb4 hr
   refine .skip <| .seq <| .seq <| .rn fine [21, 22, 23] (mkS 34 0 [(21, sI64 b.Err), (22, aI64 (b.Err.length : Int)), (23, aI64 0)]) [.own (api_Banded.c b)] <| .block ?_
   replace hr := bd hr; obtain ⟨o15, hL16, hr⟩ := hr
   refine .loopO (σ := fun z0 => match z0 with | x_5 => ⟨mkS 34 0 [(21, sI64 b.Err), (22, aI64 (b.Err.length : Int)), (23, aI64 x_5)], []⟩) (Q := fun x st' => match (generalizing := false) o15 with | .inl _ => x = .exit 0 ∧ Wk 0 st' ⟨mkS 34 0 [], []⟩ | .inr (r0) => x = .ret ∧ FinQ Tryz.prog [.tmp 2] (aI64 r0) .ret st') hL16 ((Wk.gc [21, 22, 23] [] rfl pK0).to (by kernel_rfl)) ?_ ?_
   ·clear hr
    rintro m x_5 hr
    show CQ _ _ _ _ _ ⟨_, _⟩
    refine .seq <| .rn fine [21, 22, 23, 24] (mkS 34 0 [(21, sI64 b.Err), (22, aI64 (b.Err.length : Int)), (23, aI64 x_5), (24, aB (decide (x_5 < (b.Err.length : Int))))]) [] <| .seq ?_
    refine .cond (t := decide (x_5 < (b.Err.length : Int))) (by kernel_rfl) (fun hb11 => ?_) (fun hb11 => ?_)
    ·replace hr := cd_t hb11 hr
     refine .skip <| .seq <| .block <| .seq ?_
     obtain ⟨hg12, hr⟩ := gd hr
     refine .r0 fine <| .p0 (v := .pp (b.Err.flatMap (iC .i64)) (x_5.toNat * 1)) (Eq.trans (b := ORes.ofP (guardV (inR x_5 b.Err.length) (.pp (b.Err.flatMap (iC .i64)) (x_5.toNat * 1)))) (by kernel_rfl) (ofP_guard hg12)) <| .p0 (v := aI64 (gt b.Err x_5)) (Eq.trans (b := ORes.ofP ((b.Err.flatMap (iC .i64))[x_5.toNat * 1]?)) (by kernel_rfl) (ofP_some (flat_get (iC_len _) (inR_lt hg12) (by decide : 0 < 1) (by omega : x_5.toNat * 1 = x_5.toNat * 1 + 0) (by kernel_rfl)))) <| .mu 1 <| .done <| .n1 [5, 21, 22, 23] (mkS 34 0 [(5, aI64 (gt b.Err x_5)), (21, sI64 b.Err), (22, aI64 (b.Err.length : Int)), (23, aI64 x_5)]) [] <| .seq ?_
     rcases Bool.eq_false_or_eq_true (decide ((gt b.Err x_5) < 0)) with hb13 | hb13
     ·replace hr := cd_t hb13 hr
      refine .r0 fine <| .mu 1 <| .p0 (v := aB true) (Eq.trans (b := some (.pure (aB (decide ((gt b.Err x_5) < 0))))) (by kernel_rfl) (by rw [hb13])) <| .mu 4 <| .done <| .n1 [21, 22, 23, 32] (mkS 34 0 [(21, sI64 b.Err), (22, aI64 (b.Err.length : Int)), (23, aI64 x_5), (32, aB true)]) [] <| .cT (by kernel_rfl) <| .seq <| .ru fine <| .ret ?_
      obtain rfl := Option.some.inj hr
      exact ⟨rfl, FinQ.ret (vs := [aI64 2]) (by kernel_rfl) (Sn.pure rfl)⟩
     ·replace hr := cd_f hb13 hr
      refine .r0 fine <| .mu 1 <| .p0 (v := aB false) (Eq.trans (b := some (.pure (aB (decide ((gt b.Err x_5) < 0))))) (by kernel_rfl) (by rw [hb13])) <| .mu 4 <| .done <| .n1 [21, 22, 23, 32] (mkS 34 0 [(21, sI64 b.Err), (22, aI64 (b.Err.length : Int)), (23, aI64 x_5), (32, aB (decide ((gt b.Err x_5) > 1048576)))]) [] ?_
      refine .cond (t := decide ((gt b.Err x_5) > 1048576)) (by kernel_rfl) (fun hb14 => ?_) (fun hb14 => ?_)
      ·replace hr := cd_t hb14 hr
       refine .seq <| .ru fine <| .ret ?_
       obtain rfl := Option.some.inj hr
       exact ⟨rfl, FinQ.ret (vs := [aI64 2]) (by kernel_rfl) (Sn.pure rfl)⟩
      ·replace hr := cd_f hb14 hr
       refine .skip <| .pop <| .ru fine ?_
       exact loopF_back (wrapF .i64 (x_5 + 1)) hr ((Wk.gc [21, 22, 23] [] rfl pK0).to (by kernel_rfl))
    ·replace hr := cd_f hb11 hr
     refine .leave rfl ?_
     obtain rfl := Option.some.inj hr
     exact ⟨rfl, ((Wk.gc [] [] rfl pK0).to (by kernel_rfl))⟩
   ·rcases o15 with ⟨⟩ | r0
    ·rintro x st' hq17
     clear hL16
     obtain ⟨rfl, hq17⟩ := hq17
     refine CQ_exit _ rfl <| .wk hq17 <| .seq <| .ru fine <| .ret ?_
     obtain rfl := Option.some.inj hr
     exact FinQ.r1 [aI64 0]
    ·rintro x st' hq17
     clear hL16
     obtain ⟨rfl, hq17⟩ := hq17
     obtain rfl := Option.some.inj hr
     exact CQ_ret _ hq17

theorem fiduciallaw59_fits_ok (n : Nat) (l : List api_Banded) (r : Int) (hr : fiduciallaw59_fits n l = some r) : FnOk Tryz.prog 24 [slT api_Banded.c l] (.at (.int .i64 r)) := by
 unfold fiduciallaw59_fits at hr
 refine FnOk.body fine Tryz.func24 (c := (Tryz.f24.body).getD .skip) rfl (s := mkS 68 0 [(0, slT api_Banded.c l)]) (by kernel_rfl) (rs := [.tmp 2]) rfl ?_
 unfold Tryz.f24
 simp only [Option.getD_some]
 refine .seq <| .rn fine [0] (mkS 68 0 [(0, slT api_Banded.c l)]) [] <| .seq <| .seq <| .rn fine [0, 10, 11, 12] (mkS 68 0 [(0, slT api_Banded.c l), (10, slT api_Banded.c l), (11, aI64 (l.length : Int)), (12, aI64 0)]) [] <| .block ?_
 replace hr := bd hr; obtain ⟨o13, hL14, hr⟩ := hr
 refine .loopO (σ := fun z0 => match z0 with | x_1 => ⟨mkS 68 0 [(0, slT api_Banded.c l), (10, slT api_Banded.c l), (11, aI64 (l.length : Int)), (12, aI64 x_1)], []⟩) (Q := fun x st' => match (generalizing := false) o13 with | .inl _ => x = .exit 0 ∧ Wk 0 st' ⟨mkS 68 0 [(0, slT api_Banded.c l)], []⟩ | .inr (r0) => x = .ret ∧ FinQ Tryz.prog [.tmp 2] (aI64 r0) .ret st') hL14 ((Wk.gc [0, 10, 11, 12] [] rfl pK0).to (by kernel_rfl)) ?_ ?_
 ·clear hr
  rintro m x_1 hr
  show CQ _ _ _ _ _ ⟨_, _⟩
  refine .seq <| .rn fine [0, 10, 11, 12, 13] (mkS 68 0 [(0, slT api_Banded.c l), (10, slT api_Banded.c l), (11, aI64 (l.length : Int)), (12, aI64 x_1), (13, aB (decide (x_1 < (l.length : Int))))]) [] <| .seq ?_
  refine .cond (t := decide (x_1 < (l.length : Int))) (by kernel_rfl) (fun hb8 => ?_) (fun hb8 => ?_)
  ·replace hr := cd_t hb8 hr
   refine .skip <| .seq <| .block <| .seq ?_
   obtain ⟨hg9, hr⟩ := gd hr
   refine .r0 fine <| .p0 (v := .pp (l.flatMap api_Banded.c) (x_1.toNat * 7)) (Eq.trans (b := ORes.ofP (guardV (inR x_1 l.length) (.pp (l.flatMap api_Banded.c) (x_1.toNat * 7)))) (by kernel_rfl) (ofP_guard hg9)) <| .p0 (v := .agg (api_Banded.c (gt l x_1))) (Eq.trans (b := ORes.ofP (guardV (decide (7 ≤ ((l.flatMap api_Banded.c).drop (x_1.toNat * 7)).length)) (.agg (((l.flatMap api_Banded.c).drop (x_1.toNat * 7)).take 7)))) (by kernel_rfl) (flat_load api_Banded.len (inR_lt hg9) (by decide) (by omega : x_1.toNat * 7 = x_1.toNat * 7 + 0) (by kernel_rfl))) <| .mu 2 <| .done <| .n1 [0, 4, 10, 11, 12] (mkS 68 0 [(0, slT api_Banded.c l), (4, .hp 0 0), (10, slT api_Banded.c l), (11, aI64 (l.length : Int)), (12, aI64 x_1)]) [.own (api_Banded.c (gt l x_1))] <| .seq ?_
   obtain ⟨v10, hc11, hr⟩ := bd hr
   refine .g1 fine (callOk_val (l := []) rfl (SnL.cons (Sn.pure rfl) SnL.nil) (fiduciallaw59_check_ok n (gt l x_1) v10 hc11)) <| .mu 1 <| .c0 (by kernel_rfl) (callOf_at (by kernel_rfl)) <| .mu 1 <| .done <| .n1 [0, 5, 10, 11, 12] (mkS 68 0 [(0, slT api_Banded.c l), (5, aI64 v10), (10, slT api_Banded.c l), (11, aI64 (l.length : Int)), (12, aI64 x_1)]) [.own (api_Banded.c (gt l x_1))] <| .seq <| .rn fine [0, 5, 10, 11, 12, 19] (mkS 68 0 [(0, slT api_Banded.c l), (5, aI64 v10), (10, slT api_Banded.c l), (11, aI64 (l.length : Int)), (12, aI64 x_1), (19, aB ((v10 : Int) != 0))]) [.own (api_Banded.c (gt l x_1))] ?_
   refine .cond (t := (v10 : Int) != 0) (by kernel_rfl) (fun hb12 => ?_) (fun hb12 => ?_)
   ·replace hr := cd_t hb12 hr
    refine .seq <| .ru fine <| .ret ?_
    obtain rfl := Option.some.inj hr
    exact ⟨rfl, FinQ.ret (vs := [aI64 v10]) (by kernel_rfl) (Sn.pure rfl)⟩
   ·replace hr := cd_f hb12 hr
    refine .skip <| .pop <| .ru fine ?_
    exact loopF_back (wrapF .i64 (x_1 + 1)) hr ((Wk.gc [0, 10, 11, 12] [] rfl pK0).to (by kernel_rfl))
  ·replace hr := cd_f hb8 hr
   refine .leave rfl ?_
   obtain rfl := Option.some.inj hr
   exact ⟨rfl, ((Wk.gc [0] [] rfl pK0).to (by kernel_rfl))⟩
 ·rcases o13 with ⟨⟩ | r0
  ·rintro x st' hq15
   clear hL14
   obtain ⟨rfl, hq15⟩ := hq15
   refine CQ_exit _ rfl <| .wk hq15 <| .seq <| .seq <| .rn fine [0, 22, 23, 24] (mkS 68 0 [(0, slT api_Banded.c l), (22, slT api_Banded.c l), (23, aI64 (l.length : Int)), (24, aI64 0)]) [] <| .block ?_
   replace hr := bd hr; obtain ⟨o34, hL35, hr⟩ := hr
   refine .loopO (σ := fun z0 => match z0 with | x_16 => ⟨mkS 68 0 [(0, slT api_Banded.c l), (22, slT api_Banded.c l), (23, aI64 (l.length : Int)), (24, aI64 x_16)], []⟩) (Q := fun x st' => match (generalizing := false) o34 with | .inl _ => x = .exit 2 ∧ Wk 0 st' ⟨mkS 68 0 [], []⟩ | .inr (r0) => x = .ret ∧ FinQ Tryz.prog [.tmp 2] (aI64 r0) .ret st') hL35 ((Wk.gc [0, 22, 23, 24] [] rfl pK0).to (by kernel_rfl)) ?_ ?_
   ·clear hr
    rintro m x_16 hr
    show CQ _ _ _ _ _ ⟨_, _⟩
    refine .seq <| .rn fine [0, 22, 23, 24, 25] (mkS 68 0 [(0, slT api_Banded.c l), (22, slT api_Banded.c l), (23, aI64 (l.length : Int)), (24, aI64 x_16), (25, aB (decide (x_16 < (l.length : Int))))]) [] <| .seq ?_
    refine .cond (t := decide (x_16 < (l.length : Int))) (by kernel_rfl) (fun hb26 => ?_) (fun hb26 => ?_)
    ·replace hr := cd_t hb26 hr
     refine .skip <| .seq <| .block <| .seq ?_
     obtain ⟨hg27, hr⟩ := gd hr
     refine .r0 fine <| .p0 (v := .pp (l.flatMap api_Banded.c) (x_16.toNat * 7)) (Eq.trans (b := ORes.ofP (guardV (inR x_16 l.length) (.pp (l.flatMap api_Banded.c) (x_16.toNat * 7)))) (by kernel_rfl) (ofP_guard hg27)) <| .p0 (v := .agg (api_Banded.c (gt l x_16))) (Eq.trans (b := ORes.ofP (guardV (decide (7 ≤ ((l.flatMap api_Banded.c).drop (x_16.toNat * 7)).length)) (.agg (((l.flatMap api_Banded.c).drop (x_16.toNat * 7)).take 7)))) (by kernel_rfl) (flat_load api_Banded.len (inR_lt hg27) (by decide) (by omega : x_16.toNat * 7 = x_16.toNat * 7 + 0) (by kernel_rfl))) <| .mu 2 <| .done <| .n1 [0, 7, 22, 23, 24] (mkS 68 0 [(0, slT api_Banded.c l), (7, .hp 0 0), (22, slT api_Banded.c l), (23, aI64 (l.length : Int)), (24, aI64 x_16)]) [.own (api_Banded.c (gt l x_16))] <| .seq ?_
     obtain ⟨hg28, hr⟩ := gd hr
     refine .regionT fine callOf_nil <| .mu 1 <| .pure (v := .pp (l.flatMap api_Banded.c) ((0 : Int).toNat * 7)) (by kernel_rfl) (Eq.trans (b := ORes.ofP (guardV (inR 0 l.length) (.pp (l.flatMap api_Banded.c) ((0 : Int).toNat * 7)))) (by kernel_rfl) (ofP_guard hg28)) (by kernel_rfl) <| .mu 1 <| .pure (v := .agg (api_Grid.c (gt l 0).Grid)) (by kernel_rfl) (Eq.trans (b := ORes.ofP (guardV (decide (6 ≤ ((l.flatMap api_Banded.c).drop ((0 : Int).toNat * 7 + 0)).length)) (.agg (((l.flatMap api_Banded.c).drop ((0 : Int).toNat * 7 + 0)).take 6)))) (by kernel_rfl) (flat_load api_Banded.len (inR_lt hg28) (by decide) (by omega : (0 : Int).toNat * 7 + 0 = (0 : Int).toNat * 7 + 0) (by kernel_rfl))) (by kernel_rfl) <| .mu 6 ?_
     refine .done ⟨by kernel_rfl, ?_⟩
     refine .n1 [0, 8, 9, 22, 23, 24] (mkS 68 0 [(0, slT api_Banded.c l), (8, .hp 1 0), (9, .hp 2 0), (22, slT api_Banded.c l), (23, aI64 (l.length : Int)), (24, aI64 x_16)]) [.own (api_Banded.c (gt l x_16)), .own (api_Grid.c (gt l 0).Grid), .own (api_Grid.c (gt l x_16).Grid)] <| .seq ?_
     rcases Bool.eq_false_or_eq_true (((gt l 0).Grid.X0 : Int) != (gt l x_16).Grid.X0) with hb29 | hb29
     ·replace hr := cd_t hb29 hr
      refine .r0 fine <| .mu 4 <| .p0 (v := aB true) (Eq.trans (b := some (.pure (aB (((gt l 0).Grid.X0 : Int) != (gt l x_16).Grid.X0)))) (by kernel_rfl) (by rw [hb29])) <| .mu 28 <| .done <| .n1 [0, 22, 23, 24, 66] (mkS 68 0 [(0, slT api_Banded.c l), (22, slT api_Banded.c l), (23, aI64 (l.length : Int)), (24, aI64 x_16), (66, aB true)]) [.own (api_Banded.c (gt l x_16)), .own (api_Grid.c (gt l 0).Grid), .own (api_Grid.c (gt l x_16).Grid)] <| .cT (by kernel_rfl) <| .seq <| .ru fine <| .ret ?_
      obtain rfl := Option.some.inj hr
      exact ⟨rfl, FinQ.ret (vs := [aI64 4]) (by kernel_rfl) (Sn.pure rfl)⟩
     ·replace hr := cd_f hb29 hr
      rcases Bool.eq_false_or_eq_true (((gt l 0).Grid.Y0 : Int) != (gt l x_16).Grid.Y0) with hb30 | hb30
      ·replace hr := cd_t hb30 hr
       refine .r0 fine <| .mu 4 <| .p0 (v := aB false) (Eq.trans (b := some (.pure (aB (((gt l 0).Grid.X0 : Int) != (gt l x_16).Grid.X0)))) (by kernel_rfl) (by rw [hb29])) <| .mu 5 <| .pure (v := aB true) (by kernel_rfl) (Eq.trans (b := some (.pure (aB (((gt l 0).Grid.Y0 : Int) != (gt l x_16).Grid.Y0)))) (by kernel_rfl) (by rw [hb30])) <| .mu 22 <| .done <| .n1 [0, 22, 23, 24, 66] (mkS 68 0 [(0, slT api_Banded.c l), (22, slT api_Banded.c l), (23, aI64 (l.length : Int)), (24, aI64 x_16), (66, aB true)]) [.own (api_Banded.c (gt l x_16)), .own (api_Grid.c (gt l 0).Grid), .own (api_Grid.c (gt l x_16).Grid)] <| .cT (by kernel_rfl) <| .seq <| .ru fine <| .ret ?_
       obtain rfl := Option.some.inj hr
       exact ⟨rfl, FinQ.ret (vs := [aI64 4]) (by kernel_rfl) (Sn.pure rfl)⟩
      ·replace hr := cd_f hb30 hr
       rcases Bool.eq_false_or_eq_true (((gt l 0).Grid.Step : Int) != (gt l x_16).Grid.Step) with hb31 | hb31
       ·replace hr := cd_t hb31 hr
        refine .r0 fine <| .mu 4 <| .p0 (v := aB false) (Eq.trans (b := some (.pure (aB (((gt l 0).Grid.X0 : Int) != (gt l x_16).Grid.X0)))) (by kernel_rfl) (by rw [hb29])) <| .mu 5 <| .pure (v := aB false) (by kernel_rfl) (Eq.trans (b := some (.pure (aB (((gt l 0).Grid.Y0 : Int) != (gt l x_16).Grid.Y0)))) (by kernel_rfl) (by rw [hb30])) <| .mu 6 <| .pure (v := aB true) (by kernel_rfl) (Eq.trans (b := some (.pure (aB (((gt l 0).Grid.Step : Int) != (gt l x_16).Grid.Step)))) (by kernel_rfl) (by rw [hb31])) <| .mu 15 <| .done <| .n1 [0, 22, 23, 24, 66] (mkS 68 0 [(0, slT api_Banded.c l), (22, slT api_Banded.c l), (23, aI64 (l.length : Int)), (24, aI64 x_16), (66, aB true)]) [.own (api_Banded.c (gt l x_16)), .own (api_Grid.c (gt l 0).Grid), .own (api_Grid.c (gt l x_16).Grid)] <| .cT (by kernel_rfl) <| .seq <| .ru fine <| .ret ?_
        obtain rfl := Option.some.inj hr
        exact ⟨rfl, FinQ.ret (vs := [aI64 4]) (by kernel_rfl) (Sn.pure rfl)⟩
       ·replace hr := cd_f hb31 hr
        rcases Bool.eq_false_or_eq_true (((gt l 0).Grid.Width : Int) != (gt l x_16).Grid.Width) with hb32 | hb32
        ·replace hr := cd_t hb32 hr
         refine .r0 fine <| .mu 4 <| .p0 (v := aB false) (Eq.trans (b := some (.pure (aB (((gt l 0).Grid.X0 : Int) != (gt l x_16).Grid.X0)))) (by kernel_rfl) (by rw [hb29])) <| .mu 5 <| .pure (v := aB false) (by kernel_rfl) (Eq.trans (b := some (.pure (aB (((gt l 0).Grid.Y0 : Int) != (gt l x_16).Grid.Y0)))) (by kernel_rfl) (by rw [hb30])) <| .mu 6 <| .pure (v := aB false) (by kernel_rfl) (Eq.trans (b := some (.pure (aB (((gt l 0).Grid.Step : Int) != (gt l x_16).Grid.Step)))) (by kernel_rfl) (by rw [hb31])) <| .mu 6 <| .pure (v := aB true) (by kernel_rfl) (Eq.trans (b := some (.pure (aB (((gt l 0).Grid.Width : Int) != (gt l x_16).Grid.Width)))) (by kernel_rfl) (by rw [hb32])) <| .mu 8 <| .done <| .n1 [0, 22, 23, 24, 66] (mkS 68 0 [(0, slT api_Banded.c l), (22, slT api_Banded.c l), (23, aI64 (l.length : Int)), (24, aI64 x_16), (66, aB true)]) [.own (api_Banded.c (gt l x_16)), .own (api_Grid.c (gt l 0).Grid), .own (api_Grid.c (gt l x_16).Grid)] <| .cT (by kernel_rfl) <| .seq <| .ru fine <| .ret ?_
         obtain rfl := Option.some.inj hr
         exact ⟨rfl, FinQ.ret (vs := [aI64 4]) (by kernel_rfl) (Sn.pure rfl)⟩
        ·replace hr := cd_f hb32 hr
         refine .r0 fine <| .mu 4 <| .p0 (v := aB false) (Eq.trans (b := some (.pure (aB (((gt l 0).Grid.X0 : Int) != (gt l x_16).Grid.X0)))) (by kernel_rfl) (by rw [hb29])) <| .mu 5 <| .pure (v := aB false) (by kernel_rfl) (Eq.trans (b := some (.pure (aB (((gt l 0).Grid.Y0 : Int) != (gt l x_16).Grid.Y0)))) (by kernel_rfl) (by rw [hb30])) <| .mu 6 <| .pure (v := aB false) (by kernel_rfl) (Eq.trans (b := some (.pure (aB (((gt l 0).Grid.Step : Int) != (gt l x_16).Grid.Step)))) (by kernel_rfl) (by rw [hb31])) <| .mu 6 <| .pure (v := aB false) (by kernel_rfl) (Eq.trans (b := some (.pure (aB (((gt l 0).Grid.Width : Int) != (gt l x_16).Grid.Width)))) (by kernel_rfl) (by rw [hb32])) <| .mu 8 <| .done <| .n1 [0, 22, 23, 24, 66] (mkS 68 0 [(0, slT api_Banded.c l), (22, slT api_Banded.c l), (23, aI64 (l.length : Int)), (24, aI64 x_16), (66, aB (((gt l 0).Grid.Height : Int) != (gt l x_16).Grid.Height))]) [.own (api_Banded.c (gt l x_16)), .own (api_Grid.c (gt l 0).Grid), .own (api_Grid.c (gt l x_16).Grid)] ?_
         refine .cond (t := ((gt l 0).Grid.Height : Int) != (gt l x_16).Grid.Height) (by kernel_rfl) (fun hb33 => ?_) (fun hb33 => ?_)
         ·replace hr := cd_t hb33 hr
          refine .seq <| .ru fine <| .ret ?_
          obtain rfl := Option.some.inj hr
          exact ⟨rfl, FinQ.ret (vs := [aI64 4]) (by kernel_rfl) (Sn.pure rfl)⟩
         ·replace hr := cd_f hb33 hr
          refine .skip <| .pop <| .ru fine ?_
          exact loopF_back (wrapF .i64 (x_16 + 1)) hr ((Wk.gc [0, 22, 23, 24] [] rfl pK0).to (by kernel_rfl))
    ·replace hr := cd_f hb26 hr
     refine .leave rfl ?_
     obtain rfl := Option.some.inj hr
     exact ⟨rfl, ((Wk.gc [] [] rfl pK0).to (by kernel_rfl))⟩
   ·rcases o34 with ⟨⟩ | r0
    ·rintro x st' hq36
     clear hL35
     obtain ⟨rfl, hq36⟩ := hq36
     refine CQ_exit _ rfl <| .wk hq36 <| .seq <| .ru fine <| .ret ?_
     obtain rfl := Option.some.inj hr
     exact FinQ.r1 [aI64 0]
    ·rintro x st' hq36
     clear hL35
     obtain ⟨rfl, hq36⟩ := hq36
     obtain rfl := Option.some.inj hr
     exact CQ_ret _ hq36
  ·rintro x st' hq15
   clear hL14
   obtain ⟨rfl, hq15⟩ := hq15
   obtain rfl := Option.some.inj hr
   exact CQ_ret _ hq15

theorem fiduciallaw59_same_ok (n : Nat) (a : api_Banded) (b : api_Banded) (r : Bool) (hr : fiduciallaw59_same n a b = some r) : FnOk Tryz.prog 25 [.agg [.at (.int .i64 a.Grid.X0), .at (.int .i64 a.Grid.Y0), .at (.int .i64 a.Grid.Step), .at (.int .i64 a.Grid.Width), .at (.int .i64 a.Grid.Height), slT (iC .i64) a.Grid.Z, slT (iC .i64) a.Err], .agg [.at (.int .i64 b.Grid.X0), .at (.int .i64 b.Grid.Y0), .at (.int .i64 b.Grid.Step), .at (.int .i64 b.Grid.Width), .at (.int .i64 b.Grid.Height), slT (iC .i64) b.Grid.Z, slT (iC .i64) b.Err]] (.at (.bool r)) := by
 unfold fiduciallaw59_same at hr
 refine FnOk.body fine Tryz.func25 (c := (Tryz.f25.body).getD .skip) rfl (s := mkS 100 0 [(0, .agg (api_Banded.c a)), (1, .agg (api_Banded.c b))]) (by kernel_rfl) (rs := [.tmp 4]) rfl ?_
 unfold Tryz.f25
 simp only [Option.getD_some]
 refine .seq <| .rn fine [2, 3] (mkS 100 0 [(2, .hp 0 0), (3, .hp 1 0)]) [.own (api_Banded.c a), .own (api_Banded.c b)] <| .seq <| .regionT fine callOf_nil <| .mu 8 ?_
 refine .done ⟨by kernel_rfl, ?_⟩
 refine .n1 [2, 3, 5, 6] (mkS 100 0 [(2, .hp 0 0), (3, .hp 1 0), (5, .hp 2 0), (6, .hp 3 0)]) [.own (api_Banded.c a), .own (api_Banded.c b), .own (api_Grid.c a.Grid), .own (api_Grid.c b.Grid)] <| .seq <| .seq ?_
 rcases Bool.eq_false_or_eq_true ((a.Grid.X0 : Int) != b.Grid.X0) with hb1 | hb1
 ·replace hr := cd_t hb1 hr
  refine .r0 fine <| .mu 4 <| .p0 (v := aB true) (Eq.trans (b := some (.pure (aB ((a.Grid.X0 : Int) != b.Grid.X0)))) (by kernel_rfl) (by rw [hb1])) <| .mu 46 <| .done <| .n1 [2, 3, 5, 6, 63] (mkS 100 0 [(2, .hp 0 0), (3, .hp 1 0), (5, .hp 2 0), (6, .hp 3 0), (63, aB true)]) [.own (api_Banded.c a), .own (api_Banded.c b), .own (api_Grid.c a.Grid), .own (api_Grid.c b.Grid)] <| .cT (by kernel_rfl) <| .seq <| .ru fine <| .ret ?_
  obtain rfl := Option.some.inj hr
  exact FinQ.r1 [aB false]
 ·replace hr := cd_f hb1 hr
  rcases Bool.eq_false_or_eq_true ((a.Grid.Y0 : Int) != b.Grid.Y0) with hb2 | hb2
  ·replace hr := cd_t hb2 hr
   refine .r0 fine <| .mu 4 <| .p0 (v := aB false) (Eq.trans (b := some (.pure (aB ((a.Grid.X0 : Int) != b.Grid.X0)))) (by kernel_rfl) (by rw [hb1])) <| .mu 5 <| .pure (v := aB true) (by kernel_rfl) (Eq.trans (b := some (.pure (aB ((a.Grid.Y0 : Int) != b.Grid.Y0)))) (by kernel_rfl) (by rw [hb2])) <| .mu 40 <| .done <| .n1 [2, 3, 5, 6, 63] (mkS 100 0 [(2, .hp 0 0), (3, .hp 1 0), (5, .hp 2 0), (6, .hp 3 0), (63, aB true)]) [.own (api_Banded.c a), .own (api_Banded.c b), .own (api_Grid.c a.Grid), .own (api_Grid.c b.Grid)] <| .cT (by kernel_rfl) <| .seq <| .ru fine <| .ret ?_
   obtain rfl := Option.some.inj hr
   exact FinQ.r1 [aB false]
  ·replace hr := cd_f hb2 hr
   rcases Bool.eq_false_or_eq_true ((a.Grid.Step : Int) != b.Grid.Step) with hb3 | hb3
   ·replace hr := cd_t hb3 hr
    refine .r0 fine <| .mu 4 <| .p0 (v := aB false) (Eq.trans (b := some (.pure (aB ((a.Grid.X0 : Int) != b.Grid.X0)))) (by kernel_rfl) (by rw [hb1])) <| .mu 5 <| .pure (v := aB false) (by kernel_rfl) (Eq.trans (b := some (.pure (aB ((a.Grid.Y0 : Int) != b.Grid.Y0)))) (by kernel_rfl) (by rw [hb2])) <| .mu 6 <| .pure (v := aB true) (by kernel_rfl) (Eq.trans (b := some (.pure (aB ((a.Grid.Step : Int) != b.Grid.Step)))) (by kernel_rfl) (by rw [hb3])) <| .mu 33 <| .done <| .n1 [2, 3, 5, 6, 63] (mkS 100 0 [(2, .hp 0 0), (3, .hp 1 0), (5, .hp 2 0), (6, .hp 3 0), (63, aB true)]) [.own (api_Banded.c a), .own (api_Banded.c b), .own (api_Grid.c a.Grid), .own (api_Grid.c b.Grid)] <| .cT (by kernel_rfl) <| .seq <| .ru fine <| .ret ?_
    obtain rfl := Option.some.inj hr
    exact FinQ.r1 [aB false]
   ·replace hr := cd_f hb3 hr
    rcases Bool.eq_false_or_eq_true ((a.Grid.Width : Int) != b.Grid.Width) with hb4 | hb4
    ·replace hr := cd_t hb4 hr
     refine .r0 fine <| .mu 4 <| .p0 (v := aB false) (Eq.trans (b := some (.pure (aB ((a.Grid.X0 : Int) != b.Grid.X0)))) (by kernel_rfl) (by rw [hb1])) <| .mu 5 <| .pure (v := aB false) (by kernel_rfl) (Eq.trans (b := some (.pure (aB ((a.Grid.Y0 : Int) != b.Grid.Y0)))) (by kernel_rfl) (by rw [hb2])) <| .mu 6 <| .pure (v := aB false) (by kernel_rfl) (Eq.trans (b := some (.pure (aB ((a.Grid.Step : Int) != b.Grid.Step)))) (by kernel_rfl) (by rw [hb3])) <| .mu 6 <| .pure (v := aB true) (by kernel_rfl) (Eq.trans (b := some (.pure (aB ((a.Grid.Width : Int) != b.Grid.Width)))) (by kernel_rfl) (by rw [hb4])) <| .mu 26 <| .done <| .n1 [2, 3, 5, 6, 63] (mkS 100 0 [(2, .hp 0 0), (3, .hp 1 0), (5, .hp 2 0), (6, .hp 3 0), (63, aB true)]) [.own (api_Banded.c a), .own (api_Banded.c b), .own (api_Grid.c a.Grid), .own (api_Grid.c b.Grid)] <| .cT (by kernel_rfl) <| .seq <| .ru fine <| .ret ?_
     obtain rfl := Option.some.inj hr
     exact FinQ.r1 [aB false]
    ·replace hr := cd_f hb4 hr
     rcases Bool.eq_false_or_eq_true ((a.Grid.Height : Int) != b.Grid.Height) with hb5 | hb5
     ·replace hr := cd_t hb5 hr
      refine .r0 fine <| .mu 4 <| .p0 (v := aB false) (Eq.trans (b := some (.pure (aB ((a.Grid.X0 : Int) != b.Grid.X0)))) (by kernel_rfl) (by rw [hb1])) <| .mu 5 <| .pure (v := aB false) (by kernel_rfl) (Eq.trans (b := some (.pure (aB ((a.Grid.Y0 : Int) != b.Grid.Y0)))) (by kernel_rfl) (by rw [hb2])) <| .mu 6 <| .pure (v := aB false) (by kernel_rfl) (Eq.trans (b := some (.pure (aB ((a.Grid.Step : Int) != b.Grid.Step)))) (by kernel_rfl) (by rw [hb3])) <| .mu 6 <| .pure (v := aB false) (by kernel_rfl) (Eq.trans (b := some (.pure (aB ((a.Grid.Width : Int) != b.Grid.Width)))) (by kernel_rfl) (by rw [hb4])) <| .mu 6 <| .pure (v := aB true) (by kernel_rfl) (Eq.trans (b := some (.pure (aB ((a.Grid.Height : Int) != b.Grid.Height)))) (by kernel_rfl) (by rw [hb5])) <| .mu 19 <| .done <| .n1 [2, 3, 5, 6, 63] (mkS 100 0 [(2, .hp 0 0), (3, .hp 1 0), (5, .hp 2 0), (6, .hp 3 0), (63, aB true)]) [.own (api_Banded.c a), .own (api_Banded.c b), .own (api_Grid.c a.Grid), .own (api_Grid.c b.Grid)] <| .cT (by kernel_rfl) <| .seq <| .ru fine <| .ret ?_
      obtain rfl := Option.some.inj hr
      exact FinQ.r1 [aB false]
     ·replace hr := cd_f hb5 hr
      rcases Bool.eq_false_or_eq_true (((a.Grid.Z.length : Int) : Int) != (b.Grid.Z.length : Int)) with hb6 | hb6
      ·replace hr := cd_t hb6 hr
       refine .r0 fine <| .mu 4 <| .p0 (v := aB false) (Eq.trans (b := some (.pure (aB ((a.Grid.X0 : Int) != b.Grid.X0)))) (by kernel_rfl) (by rw [hb1])) <| .mu 5 <| .pure (v := aB false) (by kernel_rfl) (Eq.trans (b := some (.pure (aB ((a.Grid.Y0 : Int) != b.Grid.Y0)))) (by kernel_rfl) (by rw [hb2])) <| .mu 6 <| .pure (v := aB false) (by kernel_rfl) (Eq.trans (b := some (.pure (aB ((a.Grid.Step : Int) != b.Grid.Step)))) (by kernel_rfl) (by rw [hb3])) <| .mu 6 <| .pure (v := aB false) (by kernel_rfl) (Eq.trans (b := some (.pure (aB ((a.Grid.Width : Int) != b.Grid.Width)))) (by kernel_rfl) (by rw [hb4])) <| .mu 6 <| .pure (v := aB false) (by kernel_rfl) (Eq.trans (b := some (.pure (aB ((a.Grid.Height : Int) != b.Grid.Height)))) (by kernel_rfl) (by rw [hb5])) <| .mu 8 <| .pure (v := aB true) (by kernel_rfl) (Eq.trans (b := some (.pure (aB (((a.Grid.Z.length : Int) : Int) != (b.Grid.Z.length : Int))))) (by kernel_rfl) (by rw [hb6])) <| .mu 10 <| .done <| .n1 [2, 3, 5, 6, 63] (mkS 100 0 [(2, .hp 0 0), (3, .hp 1 0), (5, .hp 2 0), (6, .hp 3 0), (63, aB true)]) [.own (api_Banded.c a), .own (api_Banded.c b), .own (api_Grid.c a.Grid), .own (api_Grid.c b.Grid)] <| .cT (by kernel_rfl) <| .seq <| .ru fine <| .ret ?_
       obtain rfl := Option.some.inj hr
       exact FinQ.r1 [aB false]
      ·replace hr := cd_f hb6 hr
       refine .r0 fine <| .mu 4 <| .p0 (v := aB false) (Eq.trans (b := some (.pure (aB ((a.Grid.X0 : Int) != b.Grid.X0)))) (by kernel_rfl) (by rw [hb1])) <| .mu 5 <| .pure (v := aB false) (by kernel_rfl) (Eq.trans (b := some (.pure (aB ((a.Grid.Y0 : Int) != b.Grid.Y0)))) (by kernel_rfl) (by rw [hb2])) <| .mu 6 <| .pure (v := aB false) (by kernel_rfl) (Eq.trans (b := some (.pure (aB ((a.Grid.Step : Int) != b.Grid.Step)))) (by kernel_rfl) (by rw [hb3])) <| .mu 6 <| .pure (v := aB false) (by kernel_rfl) (Eq.trans (b := some (.pure (aB ((a.Grid.Width : Int) != b.Grid.Width)))) (by kernel_rfl) (by rw [hb4])) <| .mu 6 <| .pure (v := aB false) (by kernel_rfl) (Eq.trans (b := some (.pure (aB ((a.Grid.Height : Int) != b.Grid.Height)))) (by kernel_rfl) (by rw [hb5])) <| .mu 8 <| .pure (v := aB false) (by kernel_rfl) (Eq.trans (b := some (.pure (aB (((a.Grid.Z.length : Int) : Int) != (b.Grid.Z.length : Int))))) (by kernel_rfl) (by rw [hb6])) <| .mu 10 <| .done <| .n1 [2, 3, 5, 6, 63] (mkS 100 0 [(2, .hp 0 0), (3, .hp 1 0), (5, .hp 2 0), (6, .hp 3 0), (63, aB (((a.Err.length : Int) : Int) != (b.Err.length : Int)))]) [.own (api_Banded.c a), .own (api_Banded.c b), .own (api_Grid.c a.Grid), .own (api_Grid.c b.Grid)] ?_
       refine .cond (t := ((a.Err.length : Int) : Int) != (b.Err.length : Int)) (by kernel_rfl) (fun hb7 => ?_) (fun hb7 => ?_)
       ·replace hr := cd_t hb7 hr
        refine .seq <| .ru fine <| .ret ?_
        obtain rfl := Option.some.inj hr
        exact FinQ.r1 [aB false]
       ·replace hr := cd_f hb7 hr
        refine .skip <| .seq <| .seq <| .rn fine [2, 3, 5, 6, 66, 67] (mkS 100 0 [(2, .hp 0 0), (3, .hp 1 0), (5, .hp 2 0), (6, .hp 3 0), (66, aI64 (a.Grid.Z.length : Int)), (67, aI64 0)]) [.own (api_Banded.c a), .own (api_Banded.c b), .own (api_Grid.c a.Grid), .own (api_Grid.c b.Grid)] <| .block ?_
        replace hr := bd hr; obtain ⟨o18, hL19, hr⟩ := hr
        refine .loopO (σ := fun z0 => match z0 with | x_8 => ⟨mkS 100 0 [(2, .hp 0 0), (3, .hp 1 0), (5, .hp 2 0), (6, .hp 3 0), (66, aI64 (a.Grid.Z.length : Int)), (67, aI64 x_8)], [.own (api_Banded.c a), .own (api_Banded.c b), .own (api_Grid.c a.Grid), .own (api_Grid.c b.Grid)]⟩) (Q := fun x st' => match (generalizing := false) o18 with | .inl _ => x = .exit 0 ∧ Wk 0 st' ⟨mkS 100 0 [(2, .hp 0 0), (3, .hp 1 0)], [.own (api_Banded.c a), .own (api_Banded.c b)]⟩ | .inr (r0) => x = .ret ∧ FinQ Tryz.prog [.tmp 4] (aB r0) .ret st') hL19 ((Wk.gc [2, 3, 5, 6, 66, 67] [(0, true), (1, true), (2, true), (3, true)] rfl trivial).to (by kernel_rfl)) ?_ ?_
        ·clear hr
         rintro m x_8 hr
         show CQ _ _ _ _ _ ⟨_, _⟩
         refine .seq <| .rn fine [2, 3, 5, 6, 66, 67, 68] (mkS 100 0 [(2, .hp 0 0), (3, .hp 1 0), (5, .hp 2 0), (6, .hp 3 0), (66, aI64 (a.Grid.Z.length : Int)), (67, aI64 x_8), (68, aB (decide (x_8 < (a.Grid.Z.length : Int))))]) [.own (api_Banded.c a), .own (api_Banded.c b), .own (api_Grid.c a.Grid), .own (api_Grid.c b.Grid)] <| .seq ?_
         refine .cond (t := decide (x_8 < (a.Grid.Z.length : Int))) (by kernel_rfl) (fun hb14 => ?_) (fun hb14 => ?_)
         ·replace hr := cd_t hb14 hr
          refine .skip <| .seq <| .block <| .seq <| .rn fine [2, 3, 5, 6, 7, 66, 67] (mkS 100 0 [(2, .hp 0 0), (3, .hp 1 0), (5, .hp 2 0), (6, .hp 3 0), (7, aI64 x_8), (66, aI64 (a.Grid.Z.length : Int)), (67, aI64 x_8)]) [.own (api_Banded.c a), .own (api_Banded.c b), .own (api_Grid.c a.Grid), .own (api_Grid.c b.Grid)] <| .seq ?_
          obtain ⟨hg15, hr⟩ := gd hr
          obtain ⟨hg16, hr⟩ := gd hr
          refine .regionT fine callOf_nil <| .mu 3 <| .pure (v := .pp (a.Grid.Z.flatMap (iC .i64)) (x_8.toNat * 1)) (by kernel_rfl) (Eq.trans (b := ORes.ofP (guardV (inR x_8 a.Grid.Z.length) (.pp (a.Grid.Z.flatMap (iC .i64)) (x_8.toNat * 1)))) (by kernel_rfl) (ofP_guard hg15)) (by kernel_rfl) <| .pure (v := aI64 (gt a.Grid.Z x_8)) (by kernel_rfl) (Eq.trans (b := ORes.ofP ((a.Grid.Z.flatMap (iC .i64))[x_8.toNat * 1]?)) (by kernel_rfl) (ofP_some (flat_get (iC_len _) (inR_lt hg15) (by decide : 0 < 1) (by omega : x_8.toNat * 1 = x_8.toNat * 1 + 0) (by kernel_rfl)))) (by kernel_rfl) <| .mu 3 <| .pure (v := .pp (b.Grid.Z.flatMap (iC .i64)) (x_8.toNat * 1)) (by kernel_rfl) (Eq.trans (b := ORes.ofP (guardV (inR x_8 b.Grid.Z.length) (.pp (b.Grid.Z.flatMap (iC .i64)) (x_8.toNat * 1)))) (by kernel_rfl) (ofP_guard hg16)) (by kernel_rfl) <| .pure (v := aI64 (gt b.Grid.Z x_8)) (by kernel_rfl) (Eq.trans (b := ORes.ofP ((b.Grid.Z.flatMap (iC .i64))[x_8.toNat * 1]?)) (by kernel_rfl) (ofP_some (flat_get (iC_len _) (inR_lt hg16) (by decide : 0 < 1) (by omega : x_8.toNat * 1 = x_8.toNat * 1 + 0) (by kernel_rfl)))) (by kernel_rfl) <| .mu 1 ?_
          refine .done ⟨by kernel_rfl, ?_⟩
          refine .n1 [2, 3, 5, 6, 66, 67, 80] (mkS 100 0 [(2, .hp 0 0), (3, .hp 1 0), (5, .hp 2 0), (6, .hp 3 0), (66, aI64 (a.Grid.Z.length : Int)), (67, aI64 x_8), (80, aB (((gt a.Grid.Z x_8) : Int) != (gt b.Grid.Z x_8)))]) [.own (api_Banded.c a), .own (api_Banded.c b), .own (api_Grid.c a.Grid), .own (api_Grid.c b.Grid)] ?_
          refine .cond (t := ((gt a.Grid.Z x_8) : Int) != (gt b.Grid.Z x_8)) (by kernel_rfl) (fun hb17 => ?_) (fun hb17 => ?_)
          ·replace hr := cd_t hb17 hr
           refine .seq <| .ru fine <| .ret ?_
           obtain rfl := Option.some.inj hr
           exact ⟨rfl, FinQ.ret (vs := [aB false]) (by kernel_rfl) (Sn.pure rfl)⟩
          ·replace hr := cd_f hb17 hr
           refine .skip <| .pop <| .ru fine ?_
           exact loopF_back (wrapF .i64 (x_8 + 1)) hr ((Wk.gc [2, 3, 5, 6, 66, 67] [(0, true), (1, true), (2, true), (3, true)] rfl trivial).to (by kernel_rfl))
         ·replace hr := cd_f hb14 hr
          refine .leave rfl ?_
          obtain rfl := Option.some.inj hr
          exact ⟨rfl, ((Wk.gc [2, 3] [(0, true), (1, true)] rfl trivial).to (by kernel_rfl))⟩
        ·rcases o18 with ⟨⟩ | r0
         ·rintro x st' hq20
          clear hL19
          obtain ⟨rfl, hq20⟩ := hq20
          refine CQ_exit _ rfl <| .wk hq20 <| .seq <| .seq <| .rn fine [2, 3, 84, 85] (mkS 100 0 [(2, .hp 0 0), (3, .hp 1 0), (84, aI64 (a.Err.length : Int)), (85, aI64 0)]) [.own (api_Banded.c a), .own (api_Banded.c b)] <| .block ?_
          replace hr := bd hr; obtain ⟨o31, hL32, hr⟩ := hr
          refine .loopO (σ := fun z0 => match z0 with | x_21 => ⟨mkS 100 0 [(2, .hp 0 0), (3, .hp 1 0), (84, aI64 (a.Err.length : Int)), (85, aI64 x_21)], [.own (api_Banded.c a), .own (api_Banded.c b)]⟩) (Q := fun x st' => match (generalizing := false) o31 with | .inl _ => x = .exit 2 ∧ Wk 0 st' ⟨mkS 100 0 [], []⟩ | .inr (r0) => x = .ret ∧ FinQ Tryz.prog [.tmp 4] (aB r0) .ret st') hL32 ((Wk.gc [2, 3, 84, 85] [(0, true), (1, true)] rfl trivial).to (by kernel_rfl)) ?_ ?_
          ·clear hr
           rintro m x_21 hr
           show CQ _ _ _ _ _ ⟨_, _⟩
           refine .seq <| .rn fine [2, 3, 84, 85, 86] (mkS 100 0 [(2, .hp 0 0), (3, .hp 1 0), (84, aI64 (a.Err.length : Int)), (85, aI64 x_21), (86, aB (decide (x_21 < (a.Err.length : Int))))]) [.own (api_Banded.c a), .own (api_Banded.c b)] <| .seq ?_
           refine .cond (t := decide (x_21 < (a.Err.length : Int))) (by kernel_rfl) (fun hb27 => ?_) (fun hb27 => ?_)
           ·replace hr := cd_t hb27 hr
            refine .skip <| .seq <| .block <| .seq <| .rn fine [2, 3, 8, 84, 85] (mkS 100 0 [(2, .hp 0 0), (3, .hp 1 0), (8, aI64 x_21), (84, aI64 (a.Err.length : Int)), (85, aI64 x_21)]) [.own (api_Banded.c a), .own (api_Banded.c b)] <| .seq ?_
            obtain ⟨hg28, hr⟩ := gd hr
            obtain ⟨hg29, hr⟩ := gd hr
            refine .regionT fine callOf_nil <| .mu 3 <| .pure (v := .pp (a.Err.flatMap (iC .i64)) (x_21.toNat * 1)) (by kernel_rfl) (Eq.trans (b := ORes.ofP (guardV (inR x_21 a.Err.length) (.pp (a.Err.flatMap (iC .i64)) (x_21.toNat * 1)))) (by kernel_rfl) (ofP_guard hg28)) (by kernel_rfl) <| .pure (v := aI64 (gt a.Err x_21)) (by kernel_rfl) (Eq.trans (b := ORes.ofP ((a.Err.flatMap (iC .i64))[x_21.toNat * 1]?)) (by kernel_rfl) (ofP_some (flat_get (iC_len _) (inR_lt hg28) (by decide : 0 < 1) (by omega : x_21.toNat * 1 = x_21.toNat * 1 + 0) (by kernel_rfl)))) (by kernel_rfl) <| .mu 3 <| .pure (v := .pp (b.Err.flatMap (iC .i64)) (x_21.toNat * 1)) (by kernel_rfl) (Eq.trans (b := ORes.ofP (guardV (inR x_21 b.Err.length) (.pp (b.Err.flatMap (iC .i64)) (x_21.toNat * 1)))) (by kernel_rfl) (ofP_guard hg29)) (by kernel_rfl) <| .pure (v := aI64 (gt b.Err x_21)) (by kernel_rfl) (Eq.trans (b := ORes.ofP ((b.Err.flatMap (iC .i64))[x_21.toNat * 1]?)) (by kernel_rfl) (ofP_some (flat_get (iC_len _) (inR_lt hg29) (by decide : 0 < 1) (by omega : x_21.toNat * 1 = x_21.toNat * 1 + 0) (by kernel_rfl)))) (by kernel_rfl) <| .mu 1 ?_
            refine .done ⟨by kernel_rfl, ?_⟩
            refine .n1 [2, 3, 84, 85, 98] (mkS 100 0 [(2, .hp 0 0), (3, .hp 1 0), (84, aI64 (a.Err.length : Int)), (85, aI64 x_21), (98, aB (((gt a.Err x_21) : Int) != (gt b.Err x_21)))]) [.own (api_Banded.c a), .own (api_Banded.c b)] ?_
            refine .cond (t := ((gt a.Err x_21) : Int) != (gt b.Err x_21)) (by kernel_rfl) (fun hb30 => ?_) (fun hb30 => ?_)
            ·replace hr := cd_t hb30 hr
             refine .seq <| .ru fine <| .ret ?_
             obtain rfl := Option.some.inj hr
             exact ⟨rfl, FinQ.ret (vs := [aB false]) (by kernel_rfl) (Sn.pure rfl)⟩
            ·replace hr := cd_f hb30 hr
             refine .skip <| .pop <| .ru fine ?_
             exact loopF_back (wrapF .i64 (x_21 + 1)) hr ((Wk.gc [2, 3, 84, 85] [(0, true), (1, true)] rfl trivial).to (by kernel_rfl))
           ·replace hr := cd_f hb27 hr
            refine .leave rfl ?_
            obtain rfl := Option.some.inj hr
            exact ⟨rfl, ((Wk.gc [] [] rfl pK0).to (by kernel_rfl))⟩
          ·rcases o31 with ⟨⟩ | r0
           ·rintro x st' hq33
            clear hL32
            obtain ⟨rfl, hq33⟩ := hq33
            refine CQ_exit _ rfl <| .wk hq33 <| .seq <| .ru fine <| .ret ?_
            obtain rfl := Option.some.inj hr
            exact FinQ.r1 [aB true]
           ·rintro x st' hq33
            clear hL32
            obtain ⟨rfl, hq33⟩ := hq33
            obtain rfl := Option.some.inj hr
            exact CQ_ret _ hq33
         ·rintro x st' hq20
          clear hL19
          obtain ⟨rfl, hq20⟩ := hq20
          obtain rfl := Option.some.inj hr
          exact CQ_ret _ hq20

theorem fiduciallaw59_merged_ok (n : Nat) (a : api_Banded) (b : api_Banded) (r : api_Banded × List Int) (hr : fiduciallaw59_merged n a b = some r) : FnOk Tryz.prog 26 [.agg [.at (.int .i64 a.Grid.X0), .at (.int .i64 a.Grid.Y0), .at (.int .i64 a.Grid.Step), .at (.int .i64 a.Grid.Width), .at (.int .i64 a.Grid.Height), slT (iC .i64) a.Grid.Z, slT (iC .i64) a.Err], .agg [.at (.int .i64 b.Grid.X0), .at (.int .i64 b.Grid.Y0), .at (.int .i64 b.Grid.Step), .at (.int .i64 b.Grid.Width), .at (.int .i64 b.Grid.Height), slT (iC .i64) b.Grid.Z, slT (iC .i64) b.Err]] (.tup [.agg [.at (.int .i64 r.1.Grid.X0), .at (.int .i64 r.1.Grid.Y0), .at (.int .i64 r.1.Grid.Step), .at (.int .i64 r.1.Grid.Width), .at (.int .i64 r.1.Grid.Height), slT (iC .i64) r.1.Grid.Z, slT (iC .i64) r.1.Err], slT (iC .i64) r.2]) := by
 unfold fiduciallaw59_merged at hr
 refine FnOk.body fine Tryz.func26 (c := (Tryz.f26.body).getD .skip) rfl (s := mkS 140 0 [(0, .agg (api_Banded.c a)), (1, .agg (api_Banded.c b))]) (by kernel_rfl) (rs := [.cell 4 56, .tmp 5]) rfl ?_
 unfold Tryz.f26
 simp only [Option.getD_some]
 refine .seq <| .rn fine [2, 3, 4] (mkS 140 0 [(2, .hp 0 0), (3, .hp 1 0), (4, .hp 2 0)]) [.own (api_Banded.c a), .own (api_Banded.c b), .own [aI64 0, aI64 0, aI64 0, aI64 0, aI64 0, .at (.slice none 0 0), .at (.slice none 0 0)]] <| .seq <| .rn fine [2, 3, 4, 6] (mkS 140 0 [(2, .hp 0 0), (3, .hp 1 0), (4, .hp 2 0), (6, .hp 3 0)]) [.own (api_Banded.c a), .own (api_Banded.c b), .own [aI64 0, aI64 0, aI64 0, aI64 0, aI64 0, .at (.slice none 0 0), .at (.slice none 0 0)], .own [aI64 a.Grid.X0, aI64 a.Grid.Y0, aI64 a.Grid.Step, aI64 a.Grid.Width, aI64 a.Grid.Height, sI64 a.Grid.Z, .at (.slice none 0 0)]] <| .seq <| .rn fine [2, 3, 4, 6] (mkS 140 0 [(2, .hp 0 0), (3, .hp 1 0), (4, .hp 2 0), (6, .hp 3 0)]) [.own (api_Banded.c a), .own (api_Banded.c b), .own [aI64 0, aI64 0, aI64 0, aI64 0, aI64 0, .at (.slice none 0 0), .at (.slice none 0 0)], .own [aI64 a.Grid.X0, aI64 a.Grid.Y0, aI64 a.Grid.Step, aI64 a.Grid.Width, aI64 a.Grid.Height, .at (.slice none 0 0), .at (.slice none 0 0)]] <| .seq <| .rn fine [2, 3, 4, 6, 7] (mkS 140 0 [(2, .hp 0 0), (3, .hp 1 0), (4, .hp 2 0), (6, .hp 3 0), (7, .hs 4 0 0 1)]) [.own (api_Banded.c a), .own (api_Banded.c b), .own [aI64 0, aI64 0, aI64 0, aI64 0, aI64 0, .at (.slice none 0 0), .at (.slice none 0 0)], .own [aI64 a.Grid.X0, aI64 a.Grid.Y0, aI64 a.Grid.Step, aI64 a.Grid.Width, aI64 a.Grid.Height, .at (.slice none 0 0), .at (.slice none 0 0)], .own []] <| .seq <| .seq <| .rn fine [2, 3, 4, 6, 7, 24, 25] (mkS 140 0 [(2, .hp 0 0), (3, .hp 1 0), (4, .hp 2 0), (6, .hp 3 0), (7, .hs 4 0 0 1), (24, aI64 (a.Grid.Z.length : Int)), (25, aI64 0)]) [.own (api_Banded.c a), .own (api_Banded.c b), .own [aI64 0, aI64 0, aI64 0, aI64 0, aI64 0, .at (.slice none 0 0), .at (.slice none 0 0)], .own [aI64 a.Grid.X0, aI64 a.Grid.Y0, aI64 a.Grid.Step, aI64 a.Grid.Width, aI64 a.Grid.Height, .at (.slice none 0 0), .at (.slice none 0 0)], .own []] <| .block ?_
 replace hr := bd hr; obtain ⟨o91, hL92, hr⟩ := hr
 refine .loopO (σ := fun z0 => match z0 with | (out_1, out_2, against_3, x_4) => ⟨mkS 140 0 [(2, .hp 0 0), (3, .hp 1 0), (4, .hp 2 0), (6, .hp 3 0), (7, .hs 6 0 against_3.length 1), (24, aI64 (a.Grid.Z.length : Int)), (25, aI64 x_4)], [.own (api_Banded.c a), .own (api_Banded.c b), .own [aI64 0, aI64 0, aI64 0, aI64 0, aI64 0, .at (.slice none 0 0), .at (.slice none 0 0)], .own [aI64 a.Grid.X0, aI64 a.Grid.Y0, aI64 a.Grid.Step, aI64 a.Grid.Width, aI64 a.Grid.Height, .hs 4 0 out_1.length 1, .hs 5 0 out_2.length 1], .own (out_1.flatMap (iC .i64)), .own (out_2.flatMap (iC .i64)), .own (against_3.flatMap (iC .i64))]⟩) (Q := fun x st' => match (generalizing := false) o91 with | (out_46, out_47, against_48) => x = .exit 0 ∧ Wk 0 st' ⟨mkS 140 0 [(4, .hp 0 0), (6, .hp 1 0), (7, .hs 4 0 against_48.length 1)], [.own [aI64 0, aI64 0, aI64 0, aI64 0, aI64 0, .at (.slice none 0 0), .at (.slice none 0 0)], .own [aI64 a.Grid.X0, aI64 a.Grid.Y0, aI64 a.Grid.Step, aI64 a.Grid.Width, aI64 a.Grid.Height, .hs 2 0 out_46.length 1, .hs 3 0 out_47.length 1], .own (out_46.flatMap (iC .i64)), .own (out_47.flatMap (iC .i64)), .own (against_48.flatMap (iC .i64))]⟩) hL92 ((Wk.nilcell 3 5 1 (cs := [aI64 a.Grid.X0, aI64 a.Grid.Y0, aI64 a.Grid.Step, aI64 a.Grid.Width, aI64 a.Grid.Height, .at (.slice none 0 0), .at (.slice none 0 0)]) (by kernel_rfl) (by kernel_rfl)).trans ((Wk.nilcell 3 6 1 (cs := [aI64 a.Grid.X0, aI64 a.Grid.Y0, aI64 a.Grid.Step, aI64 a.Grid.Width, aI64 a.Grid.Height, .hs 5 0 0 1, .at (.slice none 0 0)]) (by kernel_rfl) (by kernel_rfl)).trans ((Wk.gc [2, 3, 4, 6, 7, 24, 25] [(0, true), (1, true), (2, true), (3, true), (5, false), (6, false), (4, false)] rfl (pKt (pKt (pKt (pKt (pKc (pKc (pKc trivial)))))))).to (by kernel_rfl)))) ?_ ?_
 ·clear hr
  rintro m ⟨out_1, out_2, against_3, x_4⟩ hr
  show CQ _ _ _ _ _ ⟨_, _⟩
  refine .seq <| .rn fine [2, 3, 4, 6, 7, 24, 25, 26] (mkS 140 0 [(2, .hp 0 0), (3, .hp 1 0), (4, .hp 2 0), (6, .hp 3 0), (7, .hs 6 0 against_3.length 1), (24, aI64 (a.Grid.Z.length : Int)), (25, aI64 x_4), (26, aB (decide (x_4 < (a.Grid.Z.length : Int))))]) [.own (api_Banded.c a), .own (api_Banded.c b), .own [aI64 0, aI64 0, aI64 0, aI64 0, aI64 0, .at (.slice none 0 0), .at (.slice none 0 0)], .own [aI64 a.Grid.X0, aI64 a.Grid.Y0, aI64 a.Grid.Step, aI64 a.Grid.Width, aI64 a.Grid.Height, .hs 4 0 out_1.length 1, .hs 5 0 out_2.length 1], .own (out_1.flatMap (iC .i64)), .own (out_2.flatMap (iC .i64)), .own (against_3.flatMap (iC .i64))] <| .seq ?_
  refine .cond (t := decide (x_4 < (a.Grid.Z.length : Int))) (by kernel_rfl) (fun hb50 => ?_) (fun hb50 => ?_)
  ·replace hr := cd_t hb50 hr
   refine .skip <| .seq <| .block <| .seq <| .rn fine [2, 3, 4, 6, 7, 8, 24, 25] (mkS 140 0 [(2, .hp 0 0), (3, .hp 1 0), (4, .hp 2 0), (6, .hp 3 0), (7, .hs 6 0 against_3.length 1), (8, aI64 x_4), (24, aI64 (a.Grid.Z.length : Int)), (25, aI64 x_4)]) [.own (api_Banded.c a), .own (api_Banded.c b), .own [aI64 0, aI64 0, aI64 0, aI64 0, aI64 0, .at (.slice none 0 0), .at (.slice none 0 0)], .own [aI64 a.Grid.X0, aI64 a.Grid.Y0, aI64 a.Grid.Step, aI64 a.Grid.Width, aI64 a.Grid.Height, .hs 4 0 out_1.length 1, .hs 5 0 out_2.length 1], .own (out_1.flatMap (iC .i64)), .own (out_2.flatMap (iC .i64)), .own (against_3.flatMap (iC .i64))] <| .seq <| .rn fine [2, 3, 4, 6, 7, 8, 9, 10, 24, 25] (mkS 140 0 [(2, .hp 0 0), (3, .hp 1 0), (4, .hp 2 0), (6, .hp 3 0), (7, .hs 6 0 against_3.length 1), (8, aI64 x_4), (9, aI64 (-2147483648)), (10, aI64 0), (24, aI64 (a.Grid.Z.length : Int)), (25, aI64 x_4)]) [.own (api_Banded.c a), .own (api_Banded.c b), .own [aI64 0, aI64 0, aI64 0, aI64 0, aI64 0, .at (.slice none 0 0), .at (.slice none 0 0)], .own [aI64 a.Grid.X0, aI64 a.Grid.Y0, aI64 a.Grid.Step, aI64 a.Grid.Width, aI64 a.Grid.Height, .hs 4 0 out_1.length 1, .hs 5 0 out_2.length 1], .own (out_1.flatMap (iC .i64)), .own (out_2.flatMap (iC .i64)), .own (against_3.flatMap (iC .i64))] <| .seq ?_
   obtain ⟨hg51, hr⟩ := gd hr
   obtain ⟨hg52, hr⟩ := gd hr
   refine .regionT fine callOf_nil <| .mu 4 <| .pure (v := .pp (a.Grid.Z.flatMap (iC .i64)) (x_4.toNat * 1)) (by kernel_rfl) (Eq.trans (b := ORes.ofP (guardV (inR x_4 a.Grid.Z.length) (.pp (a.Grid.Z.flatMap (iC .i64)) (x_4.toNat * 1)))) (by kernel_rfl) (ofP_guard hg51)) (by kernel_rfl) <| .pure (v := aI64 (gt a.Grid.Z x_4)) (by kernel_rfl) (Eq.trans (b := ORes.ofP ((a.Grid.Z.flatMap (iC .i64))[x_4.toNat * 1]?)) (by kernel_rfl) (ofP_some (flat_get (iC_len _) (inR_lt hg51) (by decide : 0 < 1) (by omega : x_4.toNat * 1 = x_4.toNat * 1 + 0) (by kernel_rfl)))) (by kernel_rfl) <| .mu 4 <| .pure (v := .pp (b.Grid.Z.flatMap (iC .i64)) (x_4.toNat * 1)) (by kernel_rfl) (Eq.trans (b := ORes.ofP (guardV (inR x_4 b.Grid.Z.length) (.pp (b.Grid.Z.flatMap (iC .i64)) (x_4.toNat * 1)))) (by kernel_rfl) (ofP_guard hg52)) (by kernel_rfl) <| .pure (v := aI64 (gt b.Grid.Z x_4)) (by kernel_rfl) (Eq.trans (b := ORes.ofP ((b.Grid.Z.flatMap (iC .i64))[x_4.toNat * 1]?)) (by kernel_rfl) (ofP_some (flat_get (iC_len _) (inR_lt hg52) (by decide : 0 < 1) (by omega : x_4.toNat * 1 = x_4.toNat * 1 + 0) (by kernel_rfl)))) (by kernel_rfl) <| .mu 2 ?_
   refine .done ⟨by kernel_rfl, ?_⟩
   refine .n1 [2, 3, 4, 6, 7, 8, 9, 10, 11, 12, 24, 25] (mkS 140 0 [(2, .hp 0 0), (3, .hp 1 0), (4, .hp 2 0), (6, .hp 3 0), (7, .hs 6 0 against_3.length 1), (8, aI64 x_4), (9, aI64 (-2147483648)), (10, aI64 0), (11, aI64 (gt a.Grid.Z x_4)), (12, aI64 (gt b.Grid.Z x_4)), (24, aI64 (a.Grid.Z.length : Int)), (25, aI64 x_4)]) [.own (api_Banded.c a), .own (api_Banded.c b), .own [aI64 0, aI64 0, aI64 0, aI64 0, aI64 0, .at (.slice none 0 0), .at (.slice none 0 0)], .own [aI64 a.Grid.X0, aI64 a.Grid.Y0, aI64 a.Grid.Step, aI64 a.Grid.Width, aI64 a.Grid.Height, .hs 4 0 out_1.length 1, .hs 5 0 out_2.length 1], .own (out_1.flatMap (iC .i64)), .own (out_2.flatMap (iC .i64)), .own (against_3.flatMap (iC .i64))] <| .seq <| .block <| .seq ?_
   rcases Bool.eq_false_or_eq_true (((gt a.Grid.Z x_4) : Int) != (-2147483648)) with hb53 | hb53
   ·replace hr := cd_t hb53 hr
    refine .r0 fine <| .mu 1 <| .p0 (v := aB true) (Eq.trans (b := some (.pure (aB (((gt a.Grid.Z x_4) : Int) != (-2147483648))))) (by kernel_rfl) (by rw [hb53])) <| .mu 5 <| .done <| .n1 [2, 3, 4, 6, 7, 8, 9, 10, 11, 12, 24, 25, 40] (mkS 140 0 [(2, .hp 0 0), (3, .hp 1 0), (4, .hp 2 0), (6, .hp 3 0), (7, .hs 6 0 against_3.length 1), (8, aI64 x_4), (9, aI64 (-2147483648)), (10, aI64 0), (11, aI64 (gt a.Grid.Z x_4)), (12, aI64 (gt b.Grid.Z x_4)), (24, aI64 (a.Grid.Z.length : Int)), (25, aI64 x_4), (40, aB (((gt b.Grid.Z x_4) : Int) != (-2147483648)))]) [.own (api_Banded.c a), .own (api_Banded.c b), .own [aI64 0, aI64 0, aI64 0, aI64 0, aI64 0, .at (.slice none 0 0), .at (.slice none 0 0)], .own [aI64 a.Grid.X0, aI64 a.Grid.Y0, aI64 a.Grid.Step, aI64 a.Grid.Width, aI64 a.Grid.Height, .hs 4 0 out_1.length 1, .hs 5 0 out_2.length 1], .own (out_1.flatMap (iC .i64)), .own (out_2.flatMap (iC .i64)), .own (against_3.flatMap (iC .i64))] ?_
    refine .cond (t := ((gt b.Grid.Z x_4) : Int) != (-2147483648)) (by kernel_rfl) (fun hb54 => ?_) (fun hb54 => ?_)
    ·replace hr := cd_t hb54 hr
     refine .seq ?_
     obtain ⟨hg55, hr⟩ := gd hr
     obtain ⟨hg56, hr⟩ := gd hr
     refine .regionT fine callOf_nil <| .mu 4 <| .pure (v := .pp (a.Err.flatMap (iC .i64)) (x_4.toNat * 1)) (by kernel_rfl) (Eq.trans (b := ORes.ofP (guardV (inR x_4 a.Err.length) (.pp (a.Err.flatMap (iC .i64)) (x_4.toNat * 1)))) (by kernel_rfl) (ofP_guard hg55)) (by kernel_rfl) <| .pure (v := aI64 (gt a.Err x_4)) (by kernel_rfl) (Eq.trans (b := ORes.ofP ((a.Err.flatMap (iC .i64))[x_4.toNat * 1]?)) (by kernel_rfl) (ofP_some (flat_get (iC_len _) (inR_lt hg55) (by decide : 0 < 1) (by omega : x_4.toNat * 1 = x_4.toNat * 1 + 0) (by kernel_rfl)))) (by kernel_rfl) <| .mu 5 <| .pure (v := .pp (b.Err.flatMap (iC .i64)) (x_4.toNat * 1)) (by kernel_rfl) (Eq.trans (b := ORes.ofP (guardV (inR x_4 b.Err.length) (.pp (b.Err.flatMap (iC .i64)) (x_4.toNat * 1)))) (by kernel_rfl) (ofP_guard hg56)) (by kernel_rfl) <| .pure (v := aI64 (gt b.Err x_4)) (by kernel_rfl) (Eq.trans (b := ORes.ofP ((b.Err.flatMap (iC .i64))[x_4.toNat * 1]?)) (by kernel_rfl) (ofP_some (flat_get (iC_len _) (inR_lt hg56) (by decide : 0 < 1) (by omega : x_4.toNat * 1 = x_4.toNat * 1 + 0) (by kernel_rfl)))) (by kernel_rfl) <| .mu 6 <| .pure (v := .pp (a.Err.flatMap (iC .i64)) (x_4.toNat * 1)) (by kernel_rfl) (Eq.trans (b := ORes.ofP (guardV (inR x_4 a.Err.length) (.pp (a.Err.flatMap (iC .i64)) (x_4.toNat * 1)))) (by kernel_rfl) (ofP_guard hg55)) (by kernel_rfl) <| .pure (v := aI64 (gt a.Err x_4)) (by kernel_rfl) (Eq.trans (b := ORes.ofP ((a.Err.flatMap (iC .i64))[x_4.toNat * 1]?)) (by kernel_rfl) (ofP_some (flat_get (iC_len _) (inR_lt hg55) (by decide : 0 < 1) (by omega : x_4.toNat * 1 = x_4.toNat * 1 + 0) (by kernel_rfl)))) (by kernel_rfl) <| .mu 5 <| .pure (v := .pp (b.Err.flatMap (iC .i64)) (x_4.toNat * 1)) (by kernel_rfl) (Eq.trans (b := ORes.ofP (guardV (inR x_4 b.Err.length) (.pp (b.Err.flatMap (iC .i64)) (x_4.toNat * 1)))) (by kernel_rfl) (ofP_guard hg56)) (by kernel_rfl) <| .pure (v := aI64 (gt b.Err x_4)) (by kernel_rfl) (Eq.trans (b := ORes.ofP ((b.Err.flatMap (iC .i64))[x_4.toNat * 1]?)) (by kernel_rfl) (ofP_some (flat_get (iC_len _) (inR_lt hg56) (by decide : 0 < 1) (by omega : x_4.toNat * 1 = x_4.toNat * 1 + 0) (by kernel_rfl)))) (by kernel_rfl) <| .mu 4 ?_
     refine .done ⟨by kernel_rfl, ?_⟩
     refine .n1 [2, 3, 4, 6, 7, 8, 9, 10, 13, 14, 24, 25] (mkS 140 0 [(2, .hp 0 0), (3, .hp 1 0), (4, .hp 2 0), (6, .hp 3 0), (7, .hs 6 0 against_3.length 1), (8, aI64 x_4), (9, aI64 (-2147483648)), (10, aI64 0), (13, aI64 (mx (wrapF .i64 ((gt a.Grid.Z x_4) - (gt a.Err x_4))) (wrapF .i64 ((gt b.Grid.Z x_4) - (gt b.Err x_4))))), (14, aI64 (mn (wrapF .i64 ((gt a.Grid.Z x_4) + (gt a.Err x_4))) (wrapF .i64 ((gt b.Grid.Z x_4) + (gt b.Err x_4))))), (24, aI64 (a.Grid.Z.length : Int)), (25, aI64 x_4)]) [.own (api_Banded.c a), .own (api_Banded.c b), .own [aI64 0, aI64 0, aI64 0, aI64 0, aI64 0, .at (.slice none 0 0), .at (.slice none 0 0)], .own [aI64 a.Grid.X0, aI64 a.Grid.Y0, aI64 a.Grid.Step, aI64 a.Grid.Width, aI64 a.Grid.Height, .hs 4 0 out_1.length 1, .hs 5 0 out_2.length 1], .own (out_1.flatMap (iC .i64)), .own (out_2.flatMap (iC .i64)), .own (against_3.flatMap (iC .i64))] <| .seq <| .rn fine [2, 3, 4, 6, 7, 8, 9, 10, 13, 14, 24, 25, 79] (mkS 140 0 [(2, .hp 0 0), (3, .hp 1 0), (4, .hp 2 0), (6, .hp 3 0), (7, .hs 6 0 against_3.length 1), (8, aI64 x_4), (9, aI64 (-2147483648)), (10, aI64 0), (13, aI64 (mx (wrapF .i64 ((gt a.Grid.Z x_4) - (gt a.Err x_4))) (wrapF .i64 ((gt b.Grid.Z x_4) - (gt b.Err x_4))))), (14, aI64 (mn (wrapF .i64 ((gt a.Grid.Z x_4) + (gt a.Err x_4))) (wrapF .i64 ((gt b.Grid.Z x_4) + (gt b.Err x_4))))), (24, aI64 (a.Grid.Z.length : Int)), (25, aI64 x_4), (79, aB (decide ((mx (wrapF .i64 ((gt a.Grid.Z x_4) - (gt a.Err x_4))) (wrapF .i64 ((gt b.Grid.Z x_4) - (gt b.Err x_4)))) > (mn (wrapF .i64 ((gt a.Grid.Z x_4) + (gt a.Err x_4))) (wrapF .i64 ((gt b.Grid.Z x_4) + (gt b.Err x_4)))))))]) [.own (api_Banded.c a), .own (api_Banded.c b), .own [aI64 0, aI64 0, aI64 0, aI64 0, aI64 0, .at (.slice none 0 0), .at (.slice none 0 0)], .own [aI64 a.Grid.X0, aI64 a.Grid.Y0, aI64 a.Grid.Step, aI64 a.Grid.Width, aI64 a.Grid.Height, .hs 4 0 out_1.length 1, .hs 5 0 out_2.length 1], .own (out_1.flatMap (iC .i64)), .own (out_2.flatMap (iC .i64)), .own (against_3.flatMap (iC .i64))] ?_
     refine .cond (t := decide ((mx (wrapF .i64 ((gt a.Grid.Z x_4) - (gt a.Err x_4))) (wrapF .i64 ((gt b.Grid.Z x_4) - (gt b.Err x_4)))) > (mn (wrapF .i64 ((gt a.Grid.Z x_4) + (gt a.Err x_4))) (wrapF .i64 ((gt b.Grid.Z x_4) + (gt b.Err x_4)))))) (by kernel_rfl) (fun hb57 => ?_) (fun hb57 => ?_)
     ·replace hr := cd_t hb57 hr
      obtain ⟨hg58, hr⟩ := gd hr
      obtain ⟨hg59, hr⟩ := gd hr
      refine .r0 fine <| .mu 3 <| .e0 (v := .hs 8 0 (against_3 ++ [x_4]).length 1) (ws := [(6, .dead), (8, .own ((against_3 ++ [x_4]).flatMap (iC .i64)))]) (Eq.trans (b := guardO (decide (0 + against_3.length * 1 ≤ (against_3.flatMap (iC .i64)).length) && decide ((against_3.length + 1) * 8 ≤ 140737488355328) && decide (against_3.length + 1 ≤ 4611686018427387904)) (some (.eff (.hs 8 0 (against_3.length + 1) 1) [(6, .dead), (8, .own (((against_3.flatMap (iC .i64)).drop 0).take (against_3.length * 1) ++ [aI64 x_4]))]))) (by kernel_rfl) (app_own (l := against_3) (xs := [x_4]) (iC_len _) rfl rfl (by kernel_rfl) hg58 hg59)) <| .mu 1 <| .done <| .pop ?_
      obtain ⟨hg60, hr⟩ := gd hr
      obtain ⟨hg61, hr⟩ := gd hr
      obtain ⟨hg62, hr⟩ := gd hr
      obtain ⟨hg63, hr⟩ := gd hr
      refine .regionT fine callOf_nil <| .mu 5 <| .eff (v := .hs 10 0 (out_1 ++ [(-2147483648)]).length 1) (ws := [(4, .dead), (10, .own ((out_1 ++ [(-2147483648)]).flatMap (iC .i64)))]) (by kernel_rfl) (Eq.trans (b := guardO (decide (0 + out_1.length * 1 ≤ (out_1.flatMap (iC .i64)).length) && decide ((out_1.length + 1) * 8 ≤ 140737488355328) && decide (out_1.length + 1 ≤ 4611686018427387904)) (some (.eff (.hs 10 0 (out_1.length + 1) 1) [(4, .dead), (10, .own (((out_1.flatMap (iC .i64)).drop 0).take (out_1.length * 1) ++ [aI64 (-2147483648)]))]))) (by kernel_rfl) (app_own (l := out_1) (xs := [(-2147483648)]) (iC_len _) rfl rfl (by kernel_rfl) hg60 hg61)) (by kernel_rfl) <| .mu 4 <| .eff (v := .hs 12 0 (out_2 ++ [0]).length 1) (ws := [(5, .dead), (12, .own ((out_2 ++ [0]).flatMap (iC .i64)))]) (by kernel_rfl) (Eq.trans (b := guardO (decide (0 + out_2.length * 1 ≤ (out_2.flatMap (iC .i64)).length) && decide ((out_2.length + 1) * 8 ≤ 140737488355328) && decide (out_2.length + 1 ≤ 4611686018427387904)) (some (.eff (.hs 12 0 (out_2.length + 1) 1) [(5, .dead), (12, .own (((out_2.flatMap (iC .i64)).drop 0).take (out_2.length * 1) ++ [aI64 0]))]))) (by kernel_rfl) (app_own (l := out_2) (xs := [0]) (iC_len _) rfl rfl (by kernel_rfl) hg62 hg63)) (by kernel_rfl) <| .mu 5 ?_
      refine .done ⟨by kernel_rfl, ?_⟩
      refine .pop <| .ru fine ?_
      exact loopF_back (out_1 ++ [(-2147483648)], out_2 ++ [0], against_3 ++ [x_4], wrapF .i64 (x_4 + 1)) hr ((Wk.gc [2, 3, 4, 6, 7, 24, 25] [(0, true), (1, true), (2, true), (3, true), (10, false), (12, false), (8, false)] rfl (pKt (pKt (pKt (pKt (pKo (iC .i64) (iC_pure _) (out_1 ++ [(-2147483648)]) (pKo (iC .i64) (iC_pure _) (out_2 ++ [0]) (pKo (iC .i64) (iC_pure _) (against_3 ++ [x_4]) trivial)))))))).to (by kernel_rfl))
     ·replace hr := cd_f hb57 hr
      refine .seq <| .rn fine [2, 3, 4, 6, 7, 9, 13, 14, 24, 25] (mkS 140 0 [(2, .hp 0 0), (3, .hp 1 0), (4, .hp 2 0), (6, .hp 3 0), (7, .hs 6 0 against_3.length 1), (9, aI64 (mx (wrapF .i64 ((gt a.Grid.Z x_4) - (gt a.Err x_4))) (wrapF .i64 ((gt b.Grid.Z x_4) - (gt b.Err x_4))))), (13, aI64 (mx (wrapF .i64 ((gt a.Grid.Z x_4) - (gt a.Err x_4))) (wrapF .i64 ((gt b.Grid.Z x_4) - (gt b.Err x_4))))), (14, aI64 (mn (wrapF .i64 ((gt a.Grid.Z x_4) + (gt a.Err x_4))) (wrapF .i64 ((gt b.Grid.Z x_4) + (gt b.Err x_4))))), (24, aI64 (a.Grid.Z.length : Int)), (25, aI64 x_4)]) [.own (api_Banded.c a), .own (api_Banded.c b), .own [aI64 0, aI64 0, aI64 0, aI64 0, aI64 0, .at (.slice none 0 0), .at (.slice none 0 0)], .own [aI64 a.Grid.X0, aI64 a.Grid.Y0, aI64 a.Grid.Step, aI64 a.Grid.Width, aI64 a.Grid.Height, .hs 4 0 out_1.length 1, .hs 5 0 out_2.length 1], .own (out_1.flatMap (iC .i64)), .own (out_2.flatMap (iC .i64)), .own (against_3.flatMap (iC .i64))] <| .seq <| .block ?_
      replace hr := bd hr; obtain ⟨z_66, hL70, hr⟩ := hr
      refine .loopO (σ := fun z0 => match z0 with | z_64 => ⟨mkS 140 0 [(2, .hp 0 0), (3, .hp 1 0), (4, .hp 2 0), (6, .hp 3 0), (7, .hs 6 0 against_3.length 1), (9, aI64 z_64), (13, aI64 (mx (wrapF .i64 ((gt a.Grid.Z x_4) - (gt a.Err x_4))) (wrapF .i64 ((gt b.Grid.Z x_4) - (gt b.Err x_4))))), (14, aI64 (mn (wrapF .i64 ((gt a.Grid.Z x_4) + (gt a.Err x_4))) (wrapF .i64 ((gt b.Grid.Z x_4) + (gt b.Err x_4))))), (24, aI64 (a.Grid.Z.length : Int)), (25, aI64 x_4)], [.own (api_Banded.c a), .own (api_Banded.c b), .own [aI64 0, aI64 0, aI64 0, aI64 0, aI64 0, .at (.slice none 0 0), .at (.slice none 0 0)], .own [aI64 a.Grid.X0, aI64 a.Grid.Y0, aI64 a.Grid.Step, aI64 a.Grid.Width, aI64 a.Grid.Height, .hs 4 0 out_1.length 1, .hs 5 0 out_2.length 1], .own (out_1.flatMap (iC .i64)), .own (out_2.flatMap (iC .i64)), .own (against_3.flatMap (iC .i64))]⟩) (Q := fun x st' => x = .exit 3 ∧ Wk 0 st' ⟨mkS 140 0 [(2, .hp 0 0), (3, .hp 1 0), (4, .hp 2 0), (6, .hp 3 0), (7, .hs 6 0 against_3.length 1), (9, aI64 z_66), (14, aI64 (mn (wrapF .i64 ((gt a.Grid.Z x_4) + (gt a.Err x_4))) (wrapF .i64 ((gt b.Grid.Z x_4) + (gt b.Err x_4))))), (24, aI64 (a.Grid.Z.length : Int)), (25, aI64 x_4)], [.own (api_Banded.c a), .own (api_Banded.c b), .own [aI64 0, aI64 0, aI64 0, aI64 0, aI64 0, .at (.slice none 0 0), .at (.slice none 0 0)], .own [aI64 a.Grid.X0, aI64 a.Grid.Y0, aI64 a.Grid.Step, aI64 a.Grid.Width, aI64 a.Grid.Height, .hs 4 0 out_1.length 1, .hs 5 0 out_2.length 1], .own (out_1.flatMap (iC .i64)), .own (out_2.flatMap (iC .i64)), .own (against_3.flatMap (iC .i64))]⟩) hL70 ((Wk.gc [2, 3, 4, 6, 7, 9, 13, 14, 24, 25] [(0, true), (1, true), (2, true), (3, true), (4, false), (5, false), (6, false)] rfl (pKt (pKt (pKt (pKt (pKo (iC .i64) (iC_pure _) out_1 (pKo (iC .i64) (iC_pure _) out_2 (pKo (iC .i64) (iC_pure _) against_3 trivial)))))))).to (by kernel_rfl)) ?_ ?_
      ·clear hr
       rintro m z_64 hr
       show CQ _ _ _ _ _ ⟨_, _⟩
       refine .seq <| .seq <| .rn fine [2, 3, 4, 6, 7, 9, 13, 14, 24, 25, 91] (mkS 140 0 [(2, .hp 0 0), (3, .hp 1 0), (4, .hp 2 0), (6, .hp 3 0), (7, .hs 6 0 against_3.length 1), (9, aI64 z_64), (13, aI64 (mx (wrapF .i64 ((gt a.Grid.Z x_4) - (gt a.Err x_4))) (wrapF .i64 ((gt b.Grid.Z x_4) - (gt b.Err x_4))))), (14, aI64 (mn (wrapF .i64 ((gt a.Grid.Z x_4) + (gt a.Err x_4))) (wrapF .i64 ((gt b.Grid.Z x_4) + (gt b.Err x_4))))), (24, aI64 (a.Grid.Z.length : Int)), (25, aI64 x_4), (91, aB (decide ((wrapF .i64 (2 * (wrapF .i64 (z_64 + 1)))) ≤ (wrapF .i64 ((mx (wrapF .i64 ((gt a.Grid.Z x_4) - (gt a.Err x_4))) (wrapF .i64 ((gt b.Grid.Z x_4) - (gt b.Err x_4)))) + (mn (wrapF .i64 ((gt a.Grid.Z x_4) + (gt a.Err x_4))) (wrapF .i64 ((gt b.Grid.Z x_4) + (gt b.Err x_4)))))))))]) [.own (api_Banded.c a), .own (api_Banded.c b), .own [aI64 0, aI64 0, aI64 0, aI64 0, aI64 0, .at (.slice none 0 0), .at (.slice none 0 0)], .own [aI64 a.Grid.X0, aI64 a.Grid.Y0, aI64 a.Grid.Step, aI64 a.Grid.Width, aI64 a.Grid.Height, .hs 4 0 out_1.length 1, .hs 5 0 out_2.length 1], .own (out_1.flatMap (iC .i64)), .own (out_2.flatMap (iC .i64)), .own (against_3.flatMap (iC .i64))] ?_
       refine .cond (t := decide ((wrapF .i64 (2 * (wrapF .i64 (z_64 + 1)))) ≤ (wrapF .i64 ((mx (wrapF .i64 ((gt a.Grid.Z x_4) - (gt a.Err x_4))) (wrapF .i64 ((gt b.Grid.Z x_4) - (gt b.Err x_4)))) + (mn (wrapF .i64 ((gt a.Grid.Z x_4) + (gt a.Err x_4))) (wrapF .i64 ((gt b.Grid.Z x_4) + (gt b.Err x_4)))))))) (by kernel_rfl) (fun hb68 => ?_) (fun hb68 => ?_)
       ·replace hr := cd_t hb68 hr
        refine .skip <| .block <| .ru fine <| .pop ?_
        exact loopF_back (wrapF .i64 (z_64 + (mx 1 (wrapF .i64 ((wrapF .i64 ((wrapF .i64 ((mx (wrapF .i64 ((gt a.Grid.Z x_4) - (gt a.Err x_4))) (wrapF .i64 ((gt b.Grid.Z x_4) - (gt b.Err x_4)))) + (mn (wrapF .i64 ((gt a.Grid.Z x_4) + (gt a.Err x_4))) (wrapF .i64 ((gt b.Grid.Z x_4) + (gt b.Err x_4)))))) - (wrapF .i64 (2 * z_64)))).tdiv 2))))) hr ((Wk.gc [2, 3, 4, 6, 7, 9, 13, 14, 24, 25] [(0, true), (1, true), (2, true), (3, true), (4, false), (5, false), (6, false)] rfl (pKt (pKt (pKt (pKt (pKo (iC .i64) (iC_pure _) out_1 (pKo (iC .i64) (iC_pure _) out_2 (pKo (iC .i64) (iC_pure _) against_3 trivial)))))))).to (by kernel_rfl))
       ·replace hr := cd_f hb68 hr
        refine .leave rfl ?_
        obtain rfl := Option.some.inj hr
        exact ⟨rfl, ((Wk.gc [2, 3, 4, 6, 7, 9, 14, 24, 25] [(0, true), (1, true), (2, true), (3, true), (4, false), (5, false), (6, false)] rfl (pKt (pKt (pKt (pKt (pKo (iC .i64) (iC_pure _) out_1 (pKo (iC .i64) (iC_pure _) out_2 (pKo (iC .i64) (iC_pure _) against_3 trivial)))))))).to (by kernel_rfl))⟩
      ·rintro x st' hq71
       clear hL70
       obtain ⟨rfl, hq71⟩ := hq71
       refine CQ_exit _ rfl <| .wk hq71 <| .ru fine <| .pop ?_
       obtain ⟨hg72, hr⟩ := gd hr
       obtain ⟨hg73, hr⟩ := gd hr
       obtain ⟨hg74, hr⟩ := gd hr
       obtain ⟨hg75, hr⟩ := gd hr
       refine .regionT fine callOf_nil <| .mu 5 <| .eff (v := .hs 8 0 (out_1 ++ [z_66]).length 1) (ws := [(4, .dead), (8, .own ((out_1 ++ [z_66]).flatMap (iC .i64)))]) (by kernel_rfl) (Eq.trans (b := guardO (decide (0 + out_1.length * 1 ≤ (out_1.flatMap (iC .i64)).length) && decide ((out_1.length + 1) * 8 ≤ 140737488355328) && decide (out_1.length + 1 ≤ 4611686018427387904)) (some (.eff (.hs 8 0 (out_1.length + 1) 1) [(4, .dead), (8, .own (((out_1.flatMap (iC .i64)).drop 0).take (out_1.length * 1) ++ [aI64 z_66]))]))) (by kernel_rfl) (app_own (l := out_1) (xs := [z_66]) (iC_len _) rfl rfl (by kernel_rfl) hg72 hg73)) (by kernel_rfl) <| .mu 4 <| .eff (v := .hs 10 0 (out_2 ++ [wrapF .i64 ((mn (wrapF .i64 ((gt a.Grid.Z x_4) + (gt a.Err x_4))) (wrapF .i64 ((gt b.Grid.Z x_4) + (gt b.Err x_4)))) - z_66)]).length 1) (ws := [(5, .dead), (10, .own ((out_2 ++ [wrapF .i64 ((mn (wrapF .i64 ((gt a.Grid.Z x_4) + (gt a.Err x_4))) (wrapF .i64 ((gt b.Grid.Z x_4) + (gt b.Err x_4)))) - z_66)]).flatMap (iC .i64)))]) (by kernel_rfl) (Eq.trans (b := guardO (decide (0 + out_2.length * 1 ≤ (out_2.flatMap (iC .i64)).length) && decide ((out_2.length + 1) * 8 ≤ 140737488355328) && decide (out_2.length + 1 ≤ 4611686018427387904)) (some (.eff (.hs 10 0 (out_2.length + 1) 1) [(5, .dead), (10, .own (((out_2.flatMap (iC .i64)).drop 0).take (out_2.length * 1) ++ [aI64 (wrapF .i64 ((mn (wrapF .i64 ((gt a.Grid.Z x_4) + (gt a.Err x_4))) (wrapF .i64 ((gt b.Grid.Z x_4) + (gt b.Err x_4)))) - z_66))]))]))) (by kernel_rfl) (app_own (l := out_2) (xs := [wrapF .i64 ((mn (wrapF .i64 ((gt a.Grid.Z x_4) + (gt a.Err x_4))) (wrapF .i64 ((gt b.Grid.Z x_4) + (gt b.Err x_4)))) - z_66)]) (iC_len _) rfl rfl (by kernel_rfl) hg74 hg75)) (by kernel_rfl) <| .mu 5 ?_
       refine .done ⟨by kernel_rfl, ?_⟩
       refine .pop <| .ru fine ?_
       exact loopF_back (out_1 ++ [z_66], out_2 ++ [wrapF .i64 ((mn (wrapF .i64 ((gt a.Grid.Z x_4) + (gt a.Err x_4))) (wrapF .i64 ((gt b.Grid.Z x_4) + (gt b.Err x_4)))) - z_66)], against_3, wrapF .i64 (x_4 + 1)) hr ((Wk.gc [2, 3, 4, 6, 7, 24, 25] [(0, true), (1, true), (2, true), (3, true), (8, false), (10, false), (6, false)] rfl (pKt (pKt (pKt (pKt (pKo (iC .i64) (iC_pure _) (out_1 ++ [z_66]) (pKo (iC .i64) (iC_pure _) (out_2 ++ [wrapF .i64 ((mn (wrapF .i64 ((gt a.Grid.Z x_4) + (gt a.Err x_4))) (wrapF .i64 ((gt b.Grid.Z x_4) + (gt b.Err x_4)))) - z_66)]) (pKo (iC .i64) (iC_pure _) against_3 trivial)))))))).to (by kernel_rfl))
    ·replace hr := cd_f hb54 hr
     refine .seq <| .r0 fine <| .mu 1 <| .p0 (v := aB true) (Eq.trans (b := some (.pure (aB (((gt a.Grid.Z x_4) : Int) != (-2147483648))))) (by kernel_rfl) (by rw [hb53])) <| .mu 1 <| .done <| .n1 [2, 3, 4, 6, 7, 8, 9, 10, 11, 12, 24, 25, 105] (mkS 140 0 [(2, .hp 0 0), (3, .hp 1 0), (4, .hp 2 0), (6, .hp 3 0), (7, .hs 6 0 against_3.length 1), (8, aI64 x_4), (9, aI64 (-2147483648)), (10, aI64 0), (11, aI64 (gt a.Grid.Z x_4)), (12, aI64 (gt b.Grid.Z x_4)), (24, aI64 (a.Grid.Z.length : Int)), (25, aI64 x_4), (105, aB true)]) [.own (api_Banded.c a), .own (api_Banded.c b), .own [aI64 0, aI64 0, aI64 0, aI64 0, aI64 0, .at (.slice none 0 0), .at (.slice none 0 0)], .own [aI64 a.Grid.X0, aI64 a.Grid.Y0, aI64 a.Grid.Step, aI64 a.Grid.Width, aI64 a.Grid.Height, .hs 4 0 out_1.length 1, .hs 5 0 out_2.length 1], .own (out_1.flatMap (iC .i64)), .own (out_2.flatMap (iC .i64)), .own (against_3.flatMap (iC .i64))] <| .cT (by kernel_rfl) ?_
     obtain ⟨hg76, hr⟩ := gd hr
     refine .regionT fine callOf_nil <| .mu 4 <| .pure (v := .pp (a.Err.flatMap (iC .i64)) (x_4.toNat * 1)) (by kernel_rfl) (Eq.trans (b := ORes.ofP (guardV (inR x_4 a.Err.length) (.pp (a.Err.flatMap (iC .i64)) (x_4.toNat * 1)))) (by kernel_rfl) (ofP_guard hg76)) (by kernel_rfl) <| .pure (v := aI64 (gt a.Err x_4)) (by kernel_rfl) (Eq.trans (b := ORes.ofP ((a.Err.flatMap (iC .i64))[x_4.toNat * 1]?)) (by kernel_rfl) (ofP_some (flat_get (iC_len _) (inR_lt hg76) (by decide : 0 < 1) (by omega : x_4.toNat * 1 = x_4.toNat * 1 + 0) (by kernel_rfl)))) (by kernel_rfl) <| .mu 2 ?_
     refine .done ⟨by kernel_rfl, ?_⟩
     refine .pop ?_
     obtain ⟨hg77, hr⟩ := gd hr
     obtain ⟨hg78, hr⟩ := gd hr
     obtain ⟨hg79, hr⟩ := gd hr
     obtain ⟨hg80, hr⟩ := gd hr
     refine .regionT fine callOf_nil <| .mu 5 <| .eff (v := .hs 8 0 (out_1 ++ [(gt a.Grid.Z x_4)]).length 1) (ws := [(4, .dead), (8, .own ((out_1 ++ [(gt a.Grid.Z x_4)]).flatMap (iC .i64)))]) (by kernel_rfl) (Eq.trans (b := guardO (decide (0 + out_1.length * 1 ≤ (out_1.flatMap (iC .i64)).length) && decide ((out_1.length + 1) * 8 ≤ 140737488355328) && decide (out_1.length + 1 ≤ 4611686018427387904)) (some (.eff (.hs 8 0 (out_1.length + 1) 1) [(4, .dead), (8, .own (((out_1.flatMap (iC .i64)).drop 0).take (out_1.length * 1) ++ [aI64 (gt a.Grid.Z x_4)]))]))) (by kernel_rfl) (app_own (l := out_1) (xs := [(gt a.Grid.Z x_4)]) (iC_len _) rfl rfl (by kernel_rfl) hg77 hg78)) (by kernel_rfl) <| .mu 4 <| .eff (v := .hs 10 0 (out_2 ++ [(gt a.Err x_4)]).length 1) (ws := [(5, .dead), (10, .own ((out_2 ++ [(gt a.Err x_4)]).flatMap (iC .i64)))]) (by kernel_rfl) (Eq.trans (b := guardO (decide (0 + out_2.length * 1 ≤ (out_2.flatMap (iC .i64)).length) && decide ((out_2.length + 1) * 8 ≤ 140737488355328) && decide (out_2.length + 1 ≤ 4611686018427387904)) (some (.eff (.hs 10 0 (out_2.length + 1) 1) [(5, .dead), (10, .own (((out_2.flatMap (iC .i64)).drop 0).take (out_2.length * 1) ++ [aI64 (gt a.Err x_4)]))]))) (by kernel_rfl) (app_own (l := out_2) (xs := [(gt a.Err x_4)]) (iC_len _) rfl rfl (by kernel_rfl) hg79 hg80)) (by kernel_rfl) <| .mu 5 ?_
     refine .done ⟨by kernel_rfl, ?_⟩
     refine .pop <| .ru fine ?_
     exact loopF_back (out_1 ++ [(gt a.Grid.Z x_4)], out_2 ++ [(gt a.Err x_4)], against_3, wrapF .i64 (x_4 + 1)) hr ((Wk.gc [2, 3, 4, 6, 7, 24, 25] [(0, true), (1, true), (2, true), (3, true), (8, false), (10, false), (6, false)] rfl (pKt (pKt (pKt (pKt (pKo (iC .i64) (iC_pure _) (out_1 ++ [(gt a.Grid.Z x_4)]) (pKo (iC .i64) (iC_pure _) (out_2 ++ [(gt a.Err x_4)]) (pKo (iC .i64) (iC_pure _) against_3 trivial)))))))).to (by kernel_rfl))
   ·replace hr := cd_f hb53 hr
    refine .r0 fine <| .mu 1 <| .p0 (v := aB false) (Eq.trans (b := some (.pure (aB (((gt a.Grid.Z x_4) : Int) != (-2147483648))))) (by kernel_rfl) (by rw [hb53])) <| .mu 5 <| .done <| .n1 [2, 3, 4, 6, 7, 8, 9, 10, 11, 12, 24, 25, 40] (mkS 140 0 [(2, .hp 0 0), (3, .hp 1 0), (4, .hp 2 0), (6, .hp 3 0), (7, .hs 6 0 against_3.length 1), (8, aI64 x_4), (9, aI64 (-2147483648)), (10, aI64 0), (11, aI64 (gt a.Grid.Z x_4)), (12, aI64 (gt b.Grid.Z x_4)), (24, aI64 (a.Grid.Z.length : Int)), (25, aI64 x_4), (40, aB false)]) [.own (api_Banded.c a), .own (api_Banded.c b), .own [aI64 0, aI64 0, aI64 0, aI64 0, aI64 0, .at (.slice none 0 0), .at (.slice none 0 0)], .own [aI64 a.Grid.X0, aI64 a.Grid.Y0, aI64 a.Grid.Step, aI64 a.Grid.Width, aI64 a.Grid.Height, .hs 4 0 out_1.length 1, .hs 5 0 out_2.length 1], .own (out_1.flatMap (iC .i64)), .own (out_2.flatMap (iC .i64)), .own (against_3.flatMap (iC .i64))] <| .cF (by kernel_rfl) <| .seq <| .r0 fine <| .mu 1 <| .p0 (v := aB false) (Eq.trans (b := some (.pure (aB (((gt a.Grid.Z x_4) : Int) != (-2147483648))))) (by kernel_rfl) (by rw [hb53])) <| .mu 1 <| .done <| .n1 [2, 3, 4, 6, 7, 8, 9, 10, 11, 12, 24, 25, 105] (mkS 140 0 [(2, .hp 0 0), (3, .hp 1 0), (4, .hp 2 0), (6, .hp 3 0), (7, .hs 6 0 against_3.length 1), (8, aI64 x_4), (9, aI64 (-2147483648)), (10, aI64 0), (11, aI64 (gt a.Grid.Z x_4)), (12, aI64 (gt b.Grid.Z x_4)), (24, aI64 (a.Grid.Z.length : Int)), (25, aI64 x_4), (105, aB false)]) [.own (api_Banded.c a), .own (api_Banded.c b), .own [aI64 0, aI64 0, aI64 0, aI64 0, aI64 0, .at (.slice none 0 0), .at (.slice none 0 0)], .own [aI64 a.Grid.X0, aI64 a.Grid.Y0, aI64 a.Grid.Step, aI64 a.Grid.Width, aI64 a.Grid.Height, .hs 4 0 out_1.length 1, .hs 5 0 out_2.length 1], .own (out_1.flatMap (iC .i64)), .own (out_2.flatMap (iC .i64)), .own (against_3.flatMap (iC .i64))] <| .cF (by kernel_rfl) <| .seq <| .rn fine [2, 3, 4, 6, 7, 8, 9, 10, 12, 24, 25, 114] (mkS 140 0 [(2, .hp 0 0), (3, .hp 1 0), (4, .hp 2 0), (6, .hp 3 0), (7, .hs 6 0 against_3.length 1), (8, aI64 x_4), (9, aI64 (-2147483648)), (10, aI64 0), (12, aI64 (gt b.Grid.Z x_4)), (24, aI64 (a.Grid.Z.length : Int)), (25, aI64 x_4), (114, aB (((gt b.Grid.Z x_4) : Int) != (-2147483648)))]) [.own (api_Banded.c a), .own (api_Banded.c b), .own [aI64 0, aI64 0, aI64 0, aI64 0, aI64 0, .at (.slice none 0 0), .at (.slice none 0 0)], .own [aI64 a.Grid.X0, aI64 a.Grid.Y0, aI64 a.Grid.Step, aI64 a.Grid.Width, aI64 a.Grid.Height, .hs 4 0 out_1.length 1, .hs 5 0 out_2.length 1], .own (out_1.flatMap (iC .i64)), .own (out_2.flatMap (iC .i64)), .own (against_3.flatMap (iC .i64))] ?_
    refine .cond (t := ((gt b.Grid.Z x_4) : Int) != (-2147483648)) (by kernel_rfl) (fun hb81 => ?_) (fun hb81 => ?_)
    ·replace hr := cd_t hb81 hr
     obtain ⟨hg82, hr⟩ := gd hr
     refine .regionT fine callOf_nil <| .mu 4 <| .pure (v := .pp (b.Err.flatMap (iC .i64)) (x_4.toNat * 1)) (by kernel_rfl) (Eq.trans (b := ORes.ofP (guardV (inR x_4 b.Err.length) (.pp (b.Err.flatMap (iC .i64)) (x_4.toNat * 1)))) (by kernel_rfl) (ofP_guard hg82)) (by kernel_rfl) <| .pure (v := aI64 (gt b.Err x_4)) (by kernel_rfl) (Eq.trans (b := ORes.ofP ((b.Err.flatMap (iC .i64))[x_4.toNat * 1]?)) (by kernel_rfl) (ofP_some (flat_get (iC_len _) (inR_lt hg82) (by decide : 0 < 1) (by omega : x_4.toNat * 1 = x_4.toNat * 1 + 0) (by kernel_rfl)))) (by kernel_rfl) <| .mu 2 ?_
     refine .done ⟨by kernel_rfl, ?_⟩
     refine .pop ?_
     obtain ⟨hg83, hr⟩ := gd hr
     obtain ⟨hg84, hr⟩ := gd hr
     obtain ⟨hg85, hr⟩ := gd hr
     obtain ⟨hg86, hr⟩ := gd hr
     refine .regionT fine callOf_nil <| .mu 5 <| .eff (v := .hs 8 0 (out_1 ++ [(gt b.Grid.Z x_4)]).length 1) (ws := [(4, .dead), (8, .own ((out_1 ++ [(gt b.Grid.Z x_4)]).flatMap (iC .i64)))]) (by kernel_rfl) (Eq.trans (b := guardO (decide (0 + out_1.length * 1 ≤ (out_1.flatMap (iC .i64)).length) && decide ((out_1.length + 1) * 8 ≤ 140737488355328) && decide (out_1.length + 1 ≤ 4611686018427387904)) (some (.eff (.hs 8 0 (out_1.length + 1) 1) [(4, .dead), (8, .own (((out_1.flatMap (iC .i64)).drop 0).take (out_1.length * 1) ++ [aI64 (gt b.Grid.Z x_4)]))]))) (by kernel_rfl) (app_own (l := out_1) (xs := [(gt b.Grid.Z x_4)]) (iC_len _) rfl rfl (by kernel_rfl) hg83 hg84)) (by kernel_rfl) <| .mu 4 <| .eff (v := .hs 10 0 (out_2 ++ [(gt b.Err x_4)]).length 1) (ws := [(5, .dead), (10, .own ((out_2 ++ [(gt b.Err x_4)]).flatMap (iC .i64)))]) (by kernel_rfl) (Eq.trans (b := guardO (decide (0 + out_2.length * 1 ≤ (out_2.flatMap (iC .i64)).length) && decide ((out_2.length + 1) * 8 ≤ 140737488355328) && decide (out_2.length + 1 ≤ 4611686018427387904)) (some (.eff (.hs 10 0 (out_2.length + 1) 1) [(5, .dead), (10, .own (((out_2.flatMap (iC .i64)).drop 0).take (out_2.length * 1) ++ [aI64 (gt b.Err x_4)]))]))) (by kernel_rfl) (app_own (l := out_2) (xs := [(gt b.Err x_4)]) (iC_len _) rfl rfl (by kernel_rfl) hg85 hg86)) (by kernel_rfl) <| .mu 5 ?_
     refine .done ⟨by kernel_rfl, ?_⟩
     refine .pop <| .ru fine ?_
     exact loopF_back (out_1 ++ [(gt b.Grid.Z x_4)], out_2 ++ [(gt b.Err x_4)], against_3, wrapF .i64 (x_4 + 1)) hr ((Wk.gc [2, 3, 4, 6, 7, 24, 25] [(0, true), (1, true), (2, true), (3, true), (8, false), (10, false), (6, false)] rfl (pKt (pKt (pKt (pKt (pKo (iC .i64) (iC_pure _) (out_1 ++ [(gt b.Grid.Z x_4)]) (pKo (iC .i64) (iC_pure _) (out_2 ++ [(gt b.Err x_4)]) (pKo (iC .i64) (iC_pure _) against_3 trivial)))))))).to (by kernel_rfl))
    ·replace hr := cd_f hb81 hr
     refine .skip <| .pop ?_
     obtain ⟨hg87, hr⟩ := gd hr
     obtain ⟨hg88, hr⟩ := gd hr
     obtain ⟨hg89, hr⟩ := gd hr
     obtain ⟨hg90, hr⟩ := gd hr
     refine .regionT fine callOf_nil <| .mu 5 <| .eff (v := .hs 8 0 (out_1 ++ [(-2147483648)]).length 1) (ws := [(4, .dead), (8, .own ((out_1 ++ [(-2147483648)]).flatMap (iC .i64)))]) (by kernel_rfl) (Eq.trans (b := guardO (decide (0 + out_1.length * 1 ≤ (out_1.flatMap (iC .i64)).length) && decide ((out_1.length + 1) * 8 ≤ 140737488355328) && decide (out_1.length + 1 ≤ 4611686018427387904)) (some (.eff (.hs 8 0 (out_1.length + 1) 1) [(4, .dead), (8, .own (((out_1.flatMap (iC .i64)).drop 0).take (out_1.length * 1) ++ [aI64 (-2147483648)]))]))) (by kernel_rfl) (app_own (l := out_1) (xs := [(-2147483648)]) (iC_len _) rfl rfl (by kernel_rfl) hg87 hg88)) (by kernel_rfl) <| .mu 4 <| .eff (v := .hs 10 0 (out_2 ++ [0]).length 1) (ws := [(5, .dead), (10, .own ((out_2 ++ [0]).flatMap (iC .i64)))]) (by kernel_rfl) (Eq.trans (b := guardO (decide (0 + out_2.length * 1 ≤ (out_2.flatMap (iC .i64)).length) && decide ((out_2.length + 1) * 8 ≤ 140737488355328) && decide (out_2.length + 1 ≤ 4611686018427387904)) (some (.eff (.hs 10 0 (out_2.length + 1) 1) [(5, .dead), (10, .own (((out_2.flatMap (iC .i64)).drop 0).take (out_2.length * 1) ++ [aI64 0]))]))) (by kernel_rfl) (app_own (l := out_2) (xs := [0]) (iC_len _) rfl rfl (by kernel_rfl) hg89 hg90)) (by kernel_rfl) <| .mu 5 ?_
     refine .done ⟨by kernel_rfl, ?_⟩
     refine .pop <| .ru fine ?_
     exact loopF_back (out_1 ++ [(-2147483648)], out_2 ++ [0], against_3, wrapF .i64 (x_4 + 1)) hr ((Wk.gc [2, 3, 4, 6, 7, 24, 25] [(0, true), (1, true), (2, true), (3, true), (8, false), (10, false), (6, false)] rfl (pKt (pKt (pKt (pKt (pKo (iC .i64) (iC_pure _) (out_1 ++ [(-2147483648)]) (pKo (iC .i64) (iC_pure _) (out_2 ++ [0]) (pKo (iC .i64) (iC_pure _) against_3 trivial)))))))).to (by kernel_rfl))
  ·replace hr := cd_f hb50 hr
   refine .leave rfl ?_
   obtain rfl := Option.some.inj hr
   exact ⟨rfl, ((Wk.gc [4, 6, 7] [(2, true), (3, true), (4, false), (5, false), (6, false)] rfl (pKt (pKt (pKo (iC .i64) (iC_pure _) out_1 (pKo (iC .i64) (iC_pure _) out_2 (pKo (iC .i64) (iC_pure _) against_3 trivial)))))).to (by kernel_rfl))⟩
 ·rcases o91 with ⟨out_46, out_47, against_48⟩
  rintro x st' hq93
  clear hL92
  obtain ⟨rfl, hq93⟩ := hq93
  refine CQ_exit _ rfl <| .wk hq93 <| .seq <| .rn fine [4, 5] (mkS 140 0 [(4, .hp 0 0), (5, .hs 4 0 against_48.length 1)]) [.own [aI64 a.Grid.X0, aI64 a.Grid.Y0, aI64 a.Grid.Step, aI64 a.Grid.Width, aI64 a.Grid.Height, .hs 2 0 out_46.length 1, .hs 3 0 out_47.length 1], .own [aI64 a.Grid.X0, aI64 a.Grid.Y0, aI64 a.Grid.Step, aI64 a.Grid.Width, aI64 a.Grid.Height, .hs 2 0 out_46.length 1, .hs 3 0 out_47.length 1], .own (out_46.flatMap (iC .i64)), .own (out_47.flatMap (iC .i64)), .own (against_48.flatMap (iC .i64))] <| .ret ?_
  obtain rfl := Option.some.inj hr
  exact FinQ.ret (vs := [.agg [aI64 a.Grid.X0, aI64 a.Grid.Y0, aI64 a.Grid.Step, aI64 a.Grid.Width, aI64 a.Grid.Height, .hs 2 0 out_46.length 1, .hs 3 0 out_47.length 1], .hs 4 0 against_48.length 1]) (by kernel_rfl) (Sn.tup (SnL.cons (Sn.agg (SnL.cons (Sn.pure rfl) (SnL.cons (Sn.pure rfl) (SnL.cons (Sn.pure rfl) (SnL.cons (Sn.pure rfl) (SnL.cons (Sn.pure rfl) (SnL.cons (Sn.hs rfl (.inl rfl) (SnC.pure (ids_flat (iC_pure _) _)) (fun h => flat_nil0 h)) (SnL.cons (Sn.hs rfl (.inl rfl) (SnC.pure (ids_flat (iC_pure _) _)) (fun h => flat_nil0 h)) SnL.nil)))))))) (SnL.cons (Sn.hs rfl (.inl rfl) (SnC.pure (ids_flat (iC_pure _) _)) (fun h => flat_nil0 h)) SnL.nil)))

theorem slices_Equal_int_int_ok (n : Nat) (s1 : List Int) (s2 : List Int) (r : Bool) (hr : slices_Equal_int_int n s1 s2 = some r) : FnOk Tryz.prog 27 [slT (iC .i64) s1, slT (iC .i64) s2] (.at (.bool r)) := by
 unfold slices_Equal_int_int at hr
 refine FnOk.body fine Tryz.func27 (c := (Tryz.f27.body).getD .skip) rfl (s := mkS 26 0 [(0, sI64 s1), (1, sI64 s2)]) (by kernel_rfl) (rs := [.tmp 4]) rfl ?_
 unfold Tryz.f27
 simp only [Option.getD_some]
 refine .seq <| .rn fine [0, 1] (mkS 26 0 [(0, sI64 s1), (1, sI64 s2)]) [] <| .seq <| .seq <| .rn fine [0, 1, 10] (mkS 26 0 [(0, sI64 s1), (1, sI64 s2), (10, aB (((s1.length : Int) : Int) != (s2.length : Int)))]) [] ?_
 refine .cond (t := ((s1.length : Int) : Int) != (s2.length : Int)) (by kernel_rfl) (fun hb1 => ?_) (fun hb1 => ?_)
 ·replace hr := cd_t hb1 hr
  refine .seq <| .ru fine <| .ret ?_
  obtain rfl := Option.some.inj hr
  exact FinQ.r1 [aB false]
 ·replace hr := cd_f hb1 hr
  refine .skip <| .seq <| .seq <| .rn fine [0, 1, 12, 13] (mkS 26 0 [(0, sI64 s1), (1, sI64 s2), (12, aI64 (s1.length : Int)), (13, aI64 0)]) [] <| .block ?_
  replace hr := bd hr; obtain ⟨o12, hL13, hr⟩ := hr
  refine .loopO (σ := fun z0 => match z0 with | x_2 => ⟨mkS 26 0 [(0, sI64 s1), (1, sI64 s2), (12, aI64 (s1.length : Int)), (13, aI64 x_2)], []⟩) (Q := fun x st' => match (generalizing := false) o12 with | .inl _ => x = .exit 0 ∧ Wk 0 st' ⟨mkS 26 0 [], []⟩ | .inr (r0) => x = .ret ∧ FinQ Tryz.prog [.tmp 4] (aB r0) .ret st') hL13 ((Wk.gc [0, 1, 12, 13] [] rfl pK0).to (by kernel_rfl)) ?_ ?_
  ·clear hr
   rintro m x_2 hr
   show CQ _ _ _ _ _ ⟨_, _⟩
   refine .seq <| .rn fine [0, 1, 12, 13, 14] (mkS 26 0 [(0, sI64 s1), (1, sI64 s2), (12, aI64 (s1.length : Int)), (13, aI64 x_2), (14, aB (decide (x_2 < (s1.length : Int))))]) [] <| .seq ?_
   refine .cond (t := decide (x_2 < (s1.length : Int))) (by kernel_rfl) (fun hb8 => ?_) (fun hb8 => ?_)
   ·replace hr := cd_t hb8 hr
    refine .skip <| .seq <| .block <| .seq <| .rn fine [0, 1, 5, 12, 13] (mkS 26 0 [(0, sI64 s1), (1, sI64 s2), (5, aI64 x_2), (12, aI64 (s1.length : Int)), (13, aI64 x_2)]) [] <| .seq ?_
    obtain ⟨hg9, hr⟩ := gd hr
    obtain ⟨hg10, hr⟩ := gd hr
    refine .regionT fine callOf_nil <| .mu 2 <| .pure (v := .pp (s1.flatMap (iC .i64)) (x_2.toNat * 1)) (by kernel_rfl) (Eq.trans (b := ORes.ofP (guardV (inR x_2 s1.length) (.pp (s1.flatMap (iC .i64)) (x_2.toNat * 1)))) (by kernel_rfl) (ofP_guard hg9)) (by kernel_rfl) <| .pure (v := aI64 (gt s1 x_2)) (by kernel_rfl) (Eq.trans (b := ORes.ofP ((s1.flatMap (iC .i64))[x_2.toNat * 1]?)) (by kernel_rfl) (ofP_some (flat_get (iC_len _) (inR_lt hg9) (by decide : 0 < 1) (by omega : x_2.toNat * 1 = x_2.toNat * 1 + 0) (by kernel_rfl)))) (by kernel_rfl) <| .mu 2 <| .pure (v := .pp (s2.flatMap (iC .i64)) (x_2.toNat * 1)) (by kernel_rfl) (Eq.trans (b := ORes.ofP (guardV (inR x_2 s2.length) (.pp (s2.flatMap (iC .i64)) (x_2.toNat * 1)))) (by kernel_rfl) (ofP_guard hg10)) (by kernel_rfl) <| .pure (v := aI64 (gt s2 x_2)) (by kernel_rfl) (Eq.trans (b := ORes.ofP ((s2.flatMap (iC .i64))[x_2.toNat * 1]?)) (by kernel_rfl) (ofP_some (flat_get (iC_len _) (inR_lt hg10) (by decide : 0 < 1) (by omega : x_2.toNat * 1 = x_2.toNat * 1 + 0) (by kernel_rfl)))) (by kernel_rfl) <| .mu 1 ?_
    refine .done ⟨by kernel_rfl, ?_⟩
    refine .n1 [0, 1, 12, 13, 24] (mkS 26 0 [(0, sI64 s1), (1, sI64 s2), (12, aI64 (s1.length : Int)), (13, aI64 x_2), (24, aB (((gt s1 x_2) : Int) != (gt s2 x_2)))]) [] ?_
    refine .cond (t := ((gt s1 x_2) : Int) != (gt s2 x_2)) (by kernel_rfl) (fun hb11 => ?_) (fun hb11 => ?_)
    ·replace hr := cd_t hb11 hr
     refine .seq <| .ru fine <| .ret ?_
     obtain rfl := Option.some.inj hr
     exact ⟨rfl, FinQ.ret (vs := [aB false]) (by kernel_rfl) (Sn.pure rfl)⟩
    ·replace hr := cd_f hb11 hr
     refine .skip <| .pop <| .ru fine ?_
     exact loopF_back (wrapF .i64 (x_2 + 1)) hr ((Wk.gc [0, 1, 12, 13] [] rfl pK0).to (by kernel_rfl))
   ·replace hr := cd_f hb8 hr
    refine .leave rfl ?_
    obtain rfl := Option.some.inj hr
    exact ⟨rfl, ((Wk.gc [] [] rfl pK0).to (by kernel_rfl))⟩
  ·rcases o12 with ⟨⟩ | r0
   ·rintro x st' hq14
    clear hL13
    obtain ⟨rfl, hq14⟩ := hq14
    refine CQ_exit _ rfl <| .wk hq14 <| .seq <| .ru fine <| .ret ?_
    obtain rfl := Option.some.inj hr
    exact FinQ.r1 [aB true]
   ·rintro x st' hq14
    clear hL13
    obtain ⟨rfl, hq14⟩ := hq14
    obtain rfl := Option.some.inj hr
    exact CQ_ret _ hq14
end Go.L
