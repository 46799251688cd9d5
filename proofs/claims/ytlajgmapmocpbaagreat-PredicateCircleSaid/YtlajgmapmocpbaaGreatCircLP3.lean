/- The program's functions compute what the plain Lean programs compute, part 3; printed by a program. -/
import Derived.Test.YtlajgmapmocpbaaGreatCircLP2
import Derived.Test.YtlajgmapmocpbaaGreatL0e
import Derived.Test.YtlajgmapmocpbaaGreatChecked
import Derived.KernelRfl
set_option linter.unusedVariables false
set_option linter.unusedSimpArgs false
set_option maxRecDepth 100000
set_option maxHeartbeats 4000000
namespace Go.L
open Go Go.Eng Go.Proofs
theorem fiducialref01_Divide_ok (n : Nat) (x' : api_Int) (y : api_Int) (r : api_Int × api_Int × Int) (hr : fiducialref01_Divide n x' y = some r) : FnOk Tryz.prog 159 [.agg [.at (.bool x'.Negative), slT (iC .u32) x'.Groups], .agg [.at (.bool y.Negative), slT (iC .u32) y.Groups]] (.tup [.agg [.at (.bool r.1.Negative), slT (iC .u32) r.1.Groups], .agg [.at (.bool r.2.1.Negative), slT (iC .u32) r.2.1.Groups], .at (.int .i64 r.2.2)]) := by
 unfold fiducialref01_Divide at hr
 refine FnOk.body fine Tryz.func159 (c := (Tryz.f159.body).getD .skip) rfl (s := mkS 54 0 [(0, .agg (api_Int.c x')), (1, .agg (api_Int.c y))]) (by kernel_rfl) (rs := [.cell 4 35, .cell 5 35, .tmp 6]) rfl ?_
 unfold Tryz.f159
 simp only [Option.getD_some]
 refine .seq <| .rn fine [2, 3, 4, 5] (mkS 54 0 [(2, .hp 0 0), (3, .hp 1 0), (4, .hp 2 0), (5, .hp 3 0)]) [.own (api_Int.c x'), .own (api_Int.c y), .own [aB false, .at (.slice none 0 0)], .own [aB false, .at (.slice none 0 0)]] <| .seq ?_
 obtain ⟨v1, hc2, hr⟩ := bd hr
 obtain ⟨v3, hc4, hr⟩ := bd hr
 refine .regionT fine (callOf_cons (callOk_ref (H := [.own (api_Int.c x'), .own (api_Int.c y), .own [aB false, .at (.slice none 0 0)], .own [aB false, .at (.slice none 0 0)]]) (l := []) (SnL.cons (Sn.pure rfl) SnL.nil) (fiducialref01_Value_ok n x' v1 hc2)) (callOf_cons (callOk_ref (H := [.own (api_Int.c x'), .own (api_Int.c y), .own [aB false, .at (.slice none 0 0)], .own [aB false, .at (.slice none 0 0)]]) (l := []) (SnL.cons (Sn.pure rfl) SnL.nil) (fiducialref01_Value_ok n y v3 hc4)) callOf_nil)) <| .mu 1 <| .cal (by kernel_rfl) (by kernel_rfl) (callOf_at (by kernel_rfl)) (by kernel_rfl) <| .mu 1 <| .cal (by kernel_rfl) (by kernel_rfl) (callOf_skip (fun _ h => by obtain e0 := fiducialref01_Value_inj h; rw [show v3 = v1 from Option.some.inj (hc4.symm.trans ((show fiducialref01_Value n y = fiducialref01_Value n x' from (congr rfl e0)).trans hc2))]) (callOf_at (by kernel_rfl))) (by kernel_rfl) <| .mu 2 ?_
 refine .done ⟨by kernel_rfl, ?_⟩
 refine .n1 [2, 3, 4, 5] (mkS 54 0 [(2, .hp 0 0), (3, .hp 1 0), (4, .hp 2 0), (5, .hp 3 0)]) [.own (api_Int.c v1), .own (api_Int.c v3), .own [aB false, .at (.slice none 0 0)], .own [aB false, .at (.slice none 0 0)]] <| .seq <| .seq <| .rn fine [2, 3, 4, 5, 17] (mkS 54 0 [(2, .hp 0 0), (3, .hp 1 0), (4, .hp 2 0), (5, .hp 3 0), (17, aB (((v3.Groups.length : Int) : Int) == 0))]) [.own (api_Int.c v1), .own (api_Int.c v3), .own [aB false, .at (.slice none 0 0)], .own [aB false, .at (.slice none 0 0)]] ?_
 refine .cond (t := ((v3.Groups.length : Int) : Int) == 0) (by kernel_rfl) (fun hb5 => ?_) (fun hb5 => ?_)
 ·replace hr := cd_t hb5 hr
  refine .seq <| .rn fine [4, 5, 6] (mkS 54 0 [(4, .hp 2 0), (5, .hp 3 0), (6, aI64 14)]) [.own (api_Int.c v1), .own (api_Int.c v3), .own [aB false, .at (.slice none 0 0)], .own [aB false, .at (.slice none 0 0)]] <| .ret ?_
  obtain rfl := Option.some.inj hr
  exact FinQ.ret (vs := [.agg [aB false, .at (.slice none 0 0)], .agg [aB false, .at (.slice none 0 0)], aI64 14]) (by kernel_rfl) (Sn.tup (SnL.cons (Sn.agg (SnL.cons (Sn.pure rfl) (SnL.cons Sn.nilsl SnL.nil))) (SnL.cons (Sn.agg (SnL.cons (Sn.pure rfl) (SnL.cons Sn.nilsl SnL.nil))) (SnL.cons (Sn.pure rfl) SnL.nil))))
 ·replace hr := cd_f hb5 hr
  refine .skip <| .seq ?_
  obtain ⟨v6, hc7, hr⟩ := bd hr
  refine .g1 fine (callOk_ref (l := []) (SnL.cons (Sn.pure rfl) (SnL.cons (Sn.pure rfl) SnL.nil)) (fiducialref01_parts_ok n v1.Groups v3.Groups v6 hc7)) <| .mu 4 <| .c0 (by kernel_rfl) (callOf_at (by kernel_rfl)) <| .mu 5 <| .done <| .n1 [2, 3, 4, 5, 7, 8] (mkS 54 0 [(2, .hp 0 0), (3, .hp 1 0), (4, .hp 2 0), (5, .hp 3 0), (7, sU32 v6.1), (8, sU32 v6.2)]) [.own (api_Int.c v1), .own (api_Int.c v3), .own [aB false, .at (.slice none 0 0)], .own [aB false, .at (.slice none 0 0)]] <| .seq ?_
  obtain ⟨v8, hc9, hr⟩ := bd hr
  refine .g1 fine (callOk_ref (l := []) (SnL.cons (Sn.pure rfl) (SnL.cons (Sn.pure rfl) SnL.nil)) (fiducialref01_made_ok n (v1.Negative != v3.Negative) v6.1 v8 hc9)) <| .mu 6 <| .c0 (by kernel_rfl) (callOf_at (by kernel_rfl)) <| .mu 2 <| .done <| .n1 [2, 3, 4, 5, 8, 9] (mkS 54 0 [(2, .hp 0 0), (3, .hp 1 0), (4, .hp 2 0), (5, .hp 3 0), (8, sU32 v6.2), (9, .hp 4 0)]) [.own (api_Int.c v1), .own (api_Int.c v3), .own [aB false, .at (.slice none 0 0)], .own [aB false, .at (.slice none 0 0)], .own (api_Int.c v8)] <| .seq <| .seq ?_
  rcases Bool.eq_false_or_eq_true (v1.Negative != v3.Negative) with hb10 | hb10
  ·replace hr := cd_t hb10 hr
   refine .r0 fine <| .mu 4 <| .p0 (v := aB true) (Eq.trans (b := some (.pure (aB (v1.Negative != v3.Negative)))) (by kernel_rfl) (by rw [hb10])) <| .mu 5 <| .done <| .n1 [2, 3, 4, 5, 9, 44] (mkS 54 0 [(2, .hp 0 0), (3, .hp 1 0), (4, .hp 2 0), (5, .hp 3 0), (9, .hp 4 0), (44, aB (decide ((v6.2.length : Int) > 0)))]) [.own (api_Int.c v1), .own (api_Int.c v3), .own [aB false, .at (.slice none 0 0)], .own [aB false, .at (.slice none 0 0)], .own (api_Int.c v8)] ?_
   refine .cond (t := decide ((v6.2.length : Int) > 0)) (by kernel_rfl) (fun hb11 => ?_) (fun hb11 => ?_)
   ·replace hr := cd_t hb11 hr
    obtain ⟨v12, hc13, hr⟩ := bd hr
    obtain ⟨v14, hc15, hr⟩ := bd hr
    refine .regionT fine (callOf_cons (callOk_ref (H := [.own (api_Int.c v1), .own (api_Int.c v3), .own [aB false, .at (.slice none 0 0)], .own [aB false, .at (.slice none 0 0)], .own (api_Int.c v8)]) (l := []) (SnL.cons (Sn.pure rfl) SnL.nil) (fiducialref01_Of_ok n 1 v12 hc13)) (callOf_cons (callOk_ref (H := [.own (api_Int.c v1), .own (api_Int.c v3), .own [aB false, .at (.slice none 0 0)], .own [aB false, .at (.slice none 0 0)], .own (api_Int.c v8)]) (l := []) (SnL.cons (Sn.pure rfl) (SnL.cons (Sn.pure rfl) SnL.nil)) (fiducialref01_Sub_ok n v8 v12 v14 hc15)) callOf_nil)) <| .mu 1 <| .cal (by kernel_rfl) (by kernel_rfl) (callOf_at (by kernel_rfl)) (by kernel_rfl) <| .cal (by kernel_rfl) (by kernel_rfl) (callOf_skip (fun h _ => absurd (show (73 : Nat) = 98 from h) (by decide)) (callOf_at (by kernel_rfl))) (by kernel_rfl) <| .mu 1 ?_
    refine .done ⟨by kernel_rfl, ?_⟩
    refine .n1 [2, 3, 4, 5, 9] (mkS 54 0 [(2, .hp 0 0), (3, .hp 1 0), (4, .hp 2 0), (5, .hp 3 0), (9, .hp 4 0)]) [.own (api_Int.c v1), .own (api_Int.c v3), .own [aB false, .at (.slice none 0 0)], .own [aB false, .at (.slice none 0 0)], .own (api_Int.c v14)] <| .seq ?_
    obtain ⟨v16, hc17, hr⟩ := bd hr
    obtain ⟨v18, hc19, hr⟩ := bd hr
    refine .regionT fine (callOf_cons (callOk_ref (H := [.own (api_Int.c v1), .own (api_Int.c v3), .own [aB false, .at (.slice none 0 0)], .own [aB false, .at (.slice none 0 0)], .own (api_Int.c v14)]) (l := []) (SnL.cons (Sn.pure rfl) (SnL.cons (Sn.pure rfl) SnL.nil)) (fiducialref01_Mul_ok n v14 v3 v16 hc17)) (callOf_cons (callOk_ref (H := [.own (api_Int.c v1), .own (api_Int.c v3), .own [aB false, .at (.slice none 0 0)], .own [aB false, .at (.slice none 0 0)], .own (api_Int.c v14)]) (l := []) (SnL.cons (Sn.pure rfl) (SnL.cons (Sn.pure rfl) SnL.nil)) (fiducialref01_Sub_ok n v1 v16 v18 hc19)) callOf_nil)) <| .mu 4 <| .cal (by kernel_rfl) (by kernel_rfl) (callOf_at (by kernel_rfl)) (by kernel_rfl) <| .cal (by kernel_rfl) (by kernel_rfl) (callOf_skip (fun h _ => absurd (show (73 : Nat) = 71 from h) (by decide)) (callOf_at (by kernel_rfl))) (by kernel_rfl) <| .mu 3 ?_
    refine .done ⟨by kernel_rfl, ?_⟩
    refine .n1 [4, 5, 6] (mkS 54 0 [(4, .hp 2 0), (5, .hp 3 0), (6, aI64 0)]) [.own (api_Int.c v1), .own (api_Int.c v3), .own (api_Int.c v14), .own (api_Int.c v18), .own (api_Int.c v14)] <| .ret ?_
    obtain rfl := Option.some.inj hr
    exact FinQ.ret (vs := [.agg (api_Int.c v14), .agg (api_Int.c v18), aI64 0]) (by kernel_rfl) (Sn.tup (SnL.cons (Sn.pure rfl) (SnL.cons (Sn.pure rfl) (SnL.cons (Sn.pure rfl) SnL.nil))))
   ·replace hr := cd_f hb11 hr
    refine .skip <| .seq ?_
    obtain ⟨v20, hc21, hr⟩ := bd hr
    obtain ⟨v22, hc23, hr⟩ := bd hr
    refine .regionT fine (callOf_cons (callOk_ref (H := [.own (api_Int.c v1), .own (api_Int.c v3), .own [aB false, .at (.slice none 0 0)], .own [aB false, .at (.slice none 0 0)], .own (api_Int.c v8)]) (l := []) (SnL.cons (Sn.pure rfl) (SnL.cons (Sn.pure rfl) SnL.nil)) (fiducialref01_Mul_ok n v8 v3 v20 hc21)) (callOf_cons (callOk_ref (H := [.own (api_Int.c v1), .own (api_Int.c v3), .own [aB false, .at (.slice none 0 0)], .own [aB false, .at (.slice none 0 0)], .own (api_Int.c v8)]) (l := []) (SnL.cons (Sn.pure rfl) (SnL.cons (Sn.pure rfl) SnL.nil)) (fiducialref01_Sub_ok n v1 v20 v22 hc23)) callOf_nil)) <| .mu 4 <| .cal (by kernel_rfl) (by kernel_rfl) (callOf_at (by kernel_rfl)) (by kernel_rfl) <| .cal (by kernel_rfl) (by kernel_rfl) (callOf_skip (fun h _ => absurd (show (73 : Nat) = 71 from h) (by decide)) (callOf_at (by kernel_rfl))) (by kernel_rfl) <| .mu 3 ?_
    refine .done ⟨by kernel_rfl, ?_⟩
    refine .n1 [4, 5, 6] (mkS 54 0 [(4, .hp 2 0), (5, .hp 3 0), (6, aI64 0)]) [.own (api_Int.c v1), .own (api_Int.c v3), .own (api_Int.c v8), .own (api_Int.c v22), .own (api_Int.c v8)] <| .ret ?_
    obtain rfl := Option.some.inj hr
    exact FinQ.ret (vs := [.agg (api_Int.c v8), .agg (api_Int.c v22), aI64 0]) (by kernel_rfl) (Sn.tup (SnL.cons (Sn.pure rfl) (SnL.cons (Sn.pure rfl) (SnL.cons (Sn.pure rfl) SnL.nil))))
  ·replace hr := cd_f hb10 hr
   refine .r0 fine <| .mu 4 <| .p0 (v := aB false) (Eq.trans (b := some (.pure (aB (v1.Negative != v3.Negative)))) (by kernel_rfl) (by rw [hb10])) <| .mu 5 <| .done <| .n1 [2, 3, 4, 5, 9, 44] (mkS 54 0 [(2, .hp 0 0), (3, .hp 1 0), (4, .hp 2 0), (5, .hp 3 0), (9, .hp 4 0), (44, aB false)]) [.own (api_Int.c v1), .own (api_Int.c v3), .own [aB false, .at (.slice none 0 0)], .own [aB false, .at (.slice none 0 0)], .own (api_Int.c v8)] <| .cF (by kernel_rfl) <| .skip <| .seq ?_
   obtain ⟨v24, hc25, hr⟩ := bd hr
   obtain ⟨v26, hc27, hr⟩ := bd hr
   refine .regionT fine (callOf_cons (callOk_ref (H := [.own (api_Int.c v1), .own (api_Int.c v3), .own [aB false, .at (.slice none 0 0)], .own [aB false, .at (.slice none 0 0)], .own (api_Int.c v8)]) (l := []) (SnL.cons (Sn.pure rfl) (SnL.cons (Sn.pure rfl) SnL.nil)) (fiducialref01_Mul_ok n v8 v3 v24 hc25)) (callOf_cons (callOk_ref (H := [.own (api_Int.c v1), .own (api_Int.c v3), .own [aB false, .at (.slice none 0 0)], .own [aB false, .at (.slice none 0 0)], .own (api_Int.c v8)]) (l := []) (SnL.cons (Sn.pure rfl) (SnL.cons (Sn.pure rfl) SnL.nil)) (fiducialref01_Sub_ok n v1 v24 v26 hc27)) callOf_nil)) <| .mu 4 <| .cal (by kernel_rfl) (by kernel_rfl) (callOf_at (by kernel_rfl)) (by kernel_rfl) <| .cal (by kernel_rfl) (by kernel_rfl) (callOf_skip (fun h _ => absurd (show (73 : Nat) = 71 from h) (by decide)) (callOf_at (by kernel_rfl))) (by kernel_rfl) <| .mu 3 ?_
   refine .done ⟨by kernel_rfl, ?_⟩
   refine .n1 [4, 5, 6] (mkS 54 0 [(4, .hp 2 0), (5, .hp 3 0), (6, aI64 0)]) [.own (api_Int.c v1), .own (api_Int.c v3), .own (api_Int.c v8), .own (api_Int.c v26), .own (api_Int.c v8)] <| .ret ?_
   obtain rfl := Option.some.inj hr
   exact FinQ.ret (vs := [.agg (api_Int.c v8), .agg (api_Int.c v26), aI64 0]) (by kernel_rfl) (Sn.tup (SnL.cons (Sn.pure rfl) (SnL.cons (Sn.pure rfl) (SnL.cons (Sn.pure rfl) SnL.nil))))

theorem fiducialref02_reduced_ok (n : Nat) (num : api_Int) (den : api_Int) (r : api_Rat) (hr : fiducialref02_reduced n num den = some r) : FnOk Tryz.prog 143 [.agg [.at (.bool num.Negative), slT (iC .u32) num.Groups], .agg [.at (.bool den.Negative), slT (iC .u32) den.Groups]] (.agg [.at (.bool r.Num.Negative), slT (iC .u32) r.Num.Groups, .at (.bool r.Den.Negative), slT (iC .u32) r.Den.Groups]) := by
 unfold fiducialref02_reduced at hr
 refine FnOk.body fine Tryz.func143 (c := (Tryz.f143.body).getD .skip) rfl (s := mkS 37 0 [(0, .agg (api_Int.c num)), (1, .agg (api_Int.c den))]) (by kernel_rfl) (rs := [.cell 4 37]) rfl ?_
 unfold Tryz.f143
 simp only [Option.getD_some]
 refine .seq <| .rn fine [2, 3, 4] (mkS 37 0 [(2, .hp 0 0), (3, .hp 1 0), (4, .hp 2 0)]) [.own (api_Int.c num), .own (api_Int.c den), .own [aB false, .at (.slice none 0 0), aB false, .at (.slice none 0 0)]] <| .seq ?_
 obtain ⟨v1, hc2, hr⟩ := bd hr
 refine .g1 fine (callOk_ref (l := []) (SnL.cons (Sn.pure rfl) (SnL.cons (Sn.pure rfl) SnL.nil)) (fiducialref01_Gcd_ok n num den v1 hc2)) <| .mu 2 <| .c0 (by kernel_rfl) (callOf_at (by kernel_rfl)) <| .mu 2 <| .done <| .n1 [2, 3, 4, 5] (mkS 37 0 [(2, .hp 0 0), (3, .hp 1 0), (4, .hp 2 0), (5, .hp 3 0)]) [.own (api_Int.c num), .own (api_Int.c den), .own [aB false, .at (.slice none 0 0), aB false, .at (.slice none 0 0)], .own (api_Int.c v1)] <| .seq <| .seq ?_
 obtain ⟨v3, hc4, hr⟩ := bd hr
 refine .g1 fine (callOk_val (l := []) rfl (SnL.cons (Sn.pure rfl) SnL.nil) (fiducialref01_Sign_ok n den v3 hc4)) <| .mu 1 <| .c0 (by kernel_rfl) (callOf_at (by kernel_rfl)) <| .mu 1 <| .done <| .n1 [2, 3, 4, 5, 17] (mkS 37 0 [(2, .hp 0 0), (3, .hp 1 0), (4, .hp 2 0), (5, .hp 3 0), (17, aB (decide (v3 < 0)))]) [.own (api_Int.c num), .own (api_Int.c den), .own [aB false, .at (.slice none 0 0), aB false, .at (.slice none 0 0)], .own (api_Int.c v1)] ?_
 refine .cond (t := decide (v3 < 0)) (by kernel_rfl) (fun hb5 => ?_) (fun hb5 => ?_)
 ·replace hr := cd_t hb5 hr
  obtain ⟨v6, hc7, hr⟩ := bd hr
  refine .g1 fine (callOk_ref (l := []) (SnL.cons (Sn.pure rfl) SnL.nil) (fiducialref01_Neg_ok n v1 v6 hc7)) <| .mu 1 <| .c0 (by kernel_rfl) (callOf_at (by kernel_rfl)) <| .mu 1 <| .done <| .n1 [2, 3, 4, 5] (mkS 37 0 [(2, .hp 0 0), (3, .hp 1 0), (4, .hp 2 0), (5, .hp 3 0)]) [.own (api_Int.c num), .own (api_Int.c den), .own [aB false, .at (.slice none 0 0), aB false, .at (.slice none 0 0)], .own (api_Int.c v6)] <| .seq ?_
  obtain ⟨v8, hc9, hr⟩ := bd hr
  refine .g1 fine (callOk_ref (l := []) (SnL.cons (Sn.pure rfl) (SnL.cons (Sn.pure rfl) SnL.nil)) (fiducialref01_Divide_ok n num v6 v8 hc9)) <| .mu 2 <| .c0 (by kernel_rfl) (callOf_at (by kernel_rfl)) <| .mu 9 <| .done <| .n1 [3, 4, 5, 6] (mkS 37 0 [(3, .hp 1 0), (4, .hp 2 0), (5, .hp 3 0), (6, .hp 4 0)]) [.own (api_Int.c num), .own (api_Int.c den), .own [aB false, .at (.slice none 0 0), aB false, .at (.slice none 0 0)], .own (api_Int.c v6), .own (api_Int.c v8.1), .own (api_Int.c v8.2.1)] <| .seq ?_
  obtain ⟨v10, hc11, hr⟩ := bd hr
  refine .g1 fine (callOk_ref (l := []) (SnL.cons (Sn.pure rfl) (SnL.cons (Sn.pure rfl) SnL.nil)) (fiducialref01_Divide_ok n den v6 v10 hc11)) <| .mu 2 <| .c0 (by kernel_rfl) (callOf_at (by kernel_rfl)) <| .mu 9 <| .done <| .n1 [4, 6, 9] (mkS 37 0 [(4, .hp 2 0), (6, .hp 4 0), (9, .hp 6 0)]) [.own (api_Int.c num), .own (api_Int.c den), .own [aB false, .at (.slice none 0 0), aB false, .at (.slice none 0 0)], .own (api_Int.c v6), .own (api_Int.c v8.1), .own (api_Int.c v8.2.1), .own (api_Int.c v10.1), .own (api_Int.c v10.2.1)] <| .seq <| .rn fine [4] (mkS 37 0 [(4, .hp 2 0)]) [.own (api_Int.c num), .own (api_Int.c den), .own [aB v8.1.Negative, sU32 v8.1.Groups, aB v10.1.Negative, sU32 v10.1.Groups], .own (api_Int.c v6), .own (api_Int.c v8.1), .own (api_Int.c v8.2.1), .own (api_Int.c v10.1), .own (api_Int.c v10.2.1)] <| .ret ?_
  obtain rfl := Option.some.inj hr
  exact FinQ.r1 [.agg [aB v8.1.Negative, sU32 v8.1.Groups, aB v10.1.Negative, sU32 v10.1.Groups]]
 ·replace hr := cd_f hb5 hr
  refine .skip <| .seq ?_
  obtain ⟨v12, hc13, hr⟩ := bd hr
  refine .g1 fine (callOk_ref (l := []) (SnL.cons (Sn.pure rfl) (SnL.cons (Sn.pure rfl) SnL.nil)) (fiducialref01_Divide_ok n num v1 v12 hc13)) <| .mu 2 <| .c0 (by kernel_rfl) (callOf_at (by kernel_rfl)) <| .mu 9 <| .done <| .n1 [3, 4, 5, 6] (mkS 37 0 [(3, .hp 1 0), (4, .hp 2 0), (5, .hp 3 0), (6, .hp 4 0)]) [.own (api_Int.c num), .own (api_Int.c den), .own [aB false, .at (.slice none 0 0), aB false, .at (.slice none 0 0)], .own (api_Int.c v1), .own (api_Int.c v12.1), .own (api_Int.c v12.2.1)] <| .seq ?_
  obtain ⟨v14, hc15, hr⟩ := bd hr
  refine .g1 fine (callOk_ref (l := []) (SnL.cons (Sn.pure rfl) (SnL.cons (Sn.pure rfl) SnL.nil)) (fiducialref01_Divide_ok n den v1 v14 hc15)) <| .mu 2 <| .c0 (by kernel_rfl) (callOf_at (by kernel_rfl)) <| .mu 9 <| .done <| .n1 [4, 6, 9] (mkS 37 0 [(4, .hp 2 0), (6, .hp 4 0), (9, .hp 6 0)]) [.own (api_Int.c num), .own (api_Int.c den), .own [aB false, .at (.slice none 0 0), aB false, .at (.slice none 0 0)], .own (api_Int.c v1), .own (api_Int.c v12.1), .own (api_Int.c v12.2.1), .own (api_Int.c v14.1), .own (api_Int.c v14.2.1)] <| .seq <| .rn fine [4] (mkS 37 0 [(4, .hp 2 0)]) [.own (api_Int.c num), .own (api_Int.c den), .own [aB v12.1.Negative, sU32 v12.1.Groups, aB v14.1.Negative, sU32 v14.1.Groups], .own (api_Int.c v1), .own (api_Int.c v12.1), .own (api_Int.c v12.2.1), .own (api_Int.c v14.1), .own (api_Int.c v14.2.1)] <| .ret ?_
  obtain rfl := Option.some.inj hr
  exact FinQ.r1 [.agg [aB v12.1.Negative, sU32 v12.1.Groups, aB v14.1.Negative, sU32 v14.1.Groups]]

theorem fiducialref02_Add_ok (n : Nat) (x' : api_Rat) (y : api_Rat) (r : api_Rat) (hr : fiducialref02_Add n x' y = some r) : FnOk Tryz.prog 119 [.agg [.at (.bool x'.Num.Negative), slT (iC .u32) x'.Num.Groups, .at (.bool x'.Den.Negative), slT (iC .u32) x'.Den.Groups], .agg [.at (.bool y.Num.Negative), slT (iC .u32) y.Num.Groups, .at (.bool y.Den.Negative), slT (iC .u32) y.Den.Groups]] (.agg [.at (.bool r.Num.Negative), slT (iC .u32) r.Num.Groups, .at (.bool r.Den.Negative), slT (iC .u32) r.Den.Groups]) := by
 unfold fiducialref02_Add at hr
 refine FnOk.body fine Tryz.func119 (c := (Tryz.f119.body).getD .skip) rfl (s := mkS 28 0 [(0, .agg (api_Rat.c x')), (1, .agg (api_Rat.c y))]) (by kernel_rfl) (rs := [.cell 4 37]) rfl ?_
 unfold Tryz.f119
 simp only [Option.getD_some]
 refine .seq <| .rn fine [2, 3, 4] (mkS 28 0 [(2, .hp 0 0), (3, .hp 1 0), (4, .hp 2 0)]) [.own (api_Rat.c x'), .own (api_Rat.c y), .own [aB false, .at (.slice none 0 0), aB false, .at (.slice none 0 0)]] <| .seq ?_
 obtain ⟨v1, hc2, hr⟩ := bd hr
 refine .g1 fine (callOk_ref (l := []) (SnL.cons (Sn.pure rfl) SnL.nil) (fiducialref02_Value_ok n x' v1 hc2)) <| .mu 1 <| .c0 (by kernel_rfl) (callOf_at (by kernel_rfl)) <| .mu 2 <| .done <| .n1 [3, 4, 5] (mkS 28 0 [(3, .hp 1 0), (4, .hp 2 0), (5, .hp 3 0)]) [.own (api_Rat.c x'), .own (api_Rat.c y), .own [aB false, .at (.slice none 0 0), aB false, .at (.slice none 0 0)], .own (api_Rat.c v1)] <| .seq ?_
 obtain ⟨v3, hc4, hr⟩ := bd hr
 refine .g1 fine (callOk_ref (l := []) (SnL.cons (Sn.pure rfl) SnL.nil) (fiducialref02_Value_ok n y v3 hc4)) <| .mu 1 <| .c0 (by kernel_rfl) (callOf_at (by kernel_rfl)) <| .mu 2 <| .done <| .n1 [4, 5, 6] (mkS 28 0 [(4, .hp 2 0), (5, .hp 3 0), (6, .hp 4 0)]) [.own (api_Rat.c x'), .own (api_Rat.c y), .own [aB false, .at (.slice none 0 0), aB false, .at (.slice none 0 0)], .own (api_Rat.c v1), .own (api_Rat.c v3)] <| .seq ?_
 obtain ⟨v5, hc6, hr⟩ := bd hr
 obtain ⟨v7, hc8, hr⟩ := bd hr
 obtain ⟨v9, hc10, hr⟩ := bd hr
 obtain ⟨v11, hc12, hr⟩ := bd hr
 obtain ⟨v13, hc14, hr⟩ := bd hr
 refine .regionT fine (callOf_cons (callOk_ref (H := [.own (api_Rat.c x'), .own (api_Rat.c y), .own [aB false, .at (.slice none 0 0), aB false, .at (.slice none 0 0)], .own (api_Rat.c v1), .own (api_Rat.c v3)]) (l := []) (SnL.cons (Sn.pure rfl) (SnL.cons (Sn.pure rfl) SnL.nil)) (fiducialref01_Mul_ok n v1.Num v3.Den v5 hc6)) (callOf_cons (callOk_ref (H := [.own (api_Rat.c x'), .own (api_Rat.c y), .own [aB false, .at (.slice none 0 0), aB false, .at (.slice none 0 0)], .own (api_Rat.c v1), .own (api_Rat.c v3)]) (l := []) (SnL.cons (Sn.pure rfl) (SnL.cons (Sn.pure rfl) SnL.nil)) (fiducialref01_Mul_ok n v3.Num v1.Den v7 hc8)) (callOf_cons (callOk_ref (H := [.own (api_Rat.c x'), .own (api_Rat.c y), .own [aB false, .at (.slice none 0 0), aB false, .at (.slice none 0 0)], .own (api_Rat.c v1), .own (api_Rat.c v3)]) (l := []) (SnL.cons (Sn.pure rfl) (SnL.cons (Sn.pure rfl) SnL.nil)) (fiducialref01_Add_ok n v5 v7 v9 hc10)) (callOf_cons (callOk_ref (H := [.own (api_Rat.c x'), .own (api_Rat.c y), .own [aB false, .at (.slice none 0 0), aB false, .at (.slice none 0 0)], .own (api_Rat.c v1), .own (api_Rat.c v3)]) (l := []) (SnL.cons (Sn.pure rfl) (SnL.cons (Sn.pure rfl) SnL.nil)) (fiducialref01_Mul_ok n v1.Den v3.Den v11 hc12)) (callOf_cons (callOk_ref (H := [.own (api_Rat.c x'), .own (api_Rat.c y), .own [aB false, .at (.slice none 0 0), aB false, .at (.slice none 0 0)], .own (api_Rat.c v1), .own (api_Rat.c v3)]) (l := []) (SnL.cons (Sn.pure rfl) (SnL.cons (Sn.pure rfl) SnL.nil)) (fiducialref02_reduced_ok n v9 v11 v13 hc14)) callOf_nil))))) <| .mu 4 <| .cal (by kernel_rfl) (by kernel_rfl) (callOf_at (by kernel_rfl)) (by kernel_rfl) <| .mu 4 <| .cal (by kernel_rfl) (by kernel_rfl) (callOf_skip (fun _ h => by obtain ⟨e0, e1⟩ := fiducialref01_Mul_inj h; rw [show v7 = v5 from Option.some.inj (hc8.symm.trans ((show fiducialref01_Mul n v3.Num v1.Den = fiducialref01_Mul n v1.Num v3.Den from (congr (congr rfl e0) e1)).trans hc6))]) (callOf_at (by kernel_rfl))) (by kernel_rfl) <| .cal (by kernel_rfl) (by kernel_rfl) (callOf_skip (fun h _ => absurd (show (74 : Nat) = 71 from h) (by decide)) (callOf_skip (fun h _ => absurd (show (74 : Nat) = 71 from h) (by decide)) (callOf_at (by kernel_rfl)))) (by kernel_rfl) <| .mu 4 <| .cal (by kernel_rfl) (by kernel_rfl) (callOf_skip (fun _ h => by obtain ⟨e0, e1⟩ := fiducialref01_Mul_inj h; rw [show v11 = v5 from Option.some.inj (hc12.symm.trans ((show fiducialref01_Mul n v1.Den v3.Den = fiducialref01_Mul n v1.Num v3.Den from (congr (congr rfl e0) e1)).trans hc6))]) (callOf_skip (fun _ h => by obtain ⟨e0, e1⟩ := fiducialref01_Mul_inj h; rw [show v11 = v7 from Option.some.inj (hc12.symm.trans ((show fiducialref01_Mul n v1.Den v3.Den = fiducialref01_Mul n v3.Num v1.Den from (congr (congr rfl e0) e1)).trans hc8))]) (callOf_skip (fun h _ => absurd (show (71 : Nat) = 74 from h) (by decide)) (callOf_at (by kernel_rfl))))) (by kernel_rfl) <| .cal (by kernel_rfl) (by kernel_rfl) (callOf_skip (fun h _ => absurd (show (143 : Nat) = 71 from h) (by decide)) (callOf_skip (fun h _ => absurd (show (143 : Nat) = 71 from h) (by decide)) (callOf_skip (fun h _ => absurd (show (143 : Nat) = 74 from h) (by decide)) (callOf_skip (fun h _ => absurd (show (143 : Nat) = 71 from h) (by decide)) (callOf_at (by kernel_rfl)))))) (by kernel_rfl) <| .mu 1 ?_
 refine .done ⟨by kernel_rfl, ?_⟩
 refine .n1 [4] (mkS 28 0 [(4, .hp 2 0)]) [.own (api_Rat.c x'), .own (api_Rat.c y), .own (api_Rat.c v13), .own (api_Rat.c v1), .own (api_Rat.c v3)] <| .ret ?_
 obtain rfl := Option.some.inj hr
 exact FinQ.r1 [.agg (api_Rat.c v13)]

theorem fiducialref02_Sub_ok (n : Nat) (x' : api_Rat) (y : api_Rat) (r : api_Rat) (hr : fiducialref02_Sub n x' y = some r) : FnOk Tryz.prog 97 [.agg [.at (.bool x'.Num.Negative), slT (iC .u32) x'.Num.Groups, .at (.bool x'.Den.Negative), slT (iC .u32) x'.Den.Groups], .agg [.at (.bool y.Num.Negative), slT (iC .u32) y.Num.Groups, .at (.bool y.Den.Negative), slT (iC .u32) y.Den.Groups]] (.agg [.at (.bool r.Num.Negative), slT (iC .u32) r.Num.Groups, .at (.bool r.Den.Negative), slT (iC .u32) r.Den.Groups]) := by
 unfold fiducialref02_Sub at hr
 refine FnOk.body fine Tryz.func97 (c := (Tryz.f97.body).getD .skip) rfl (s := mkS 9 0 [(0, .agg (api_Rat.c x')), (1, .agg (api_Rat.c y))]) (by kernel_rfl) (rs := [.cell 4 37]) rfl ?_
 unfold Tryz.f97
 simp only [Option.getD_some]
 refine .seq <| .rn fine [2, 3, 4] (mkS 9 0 [(2, .hp 0 0), (3, .hp 1 0), (4, .hp 2 0)]) [.own (api_Rat.c x'), .own (api_Rat.c y), .own [aB false, .at (.slice none 0 0), aB false, .at (.slice none 0 0)]] <| .seq ?_
 obtain ⟨v1, hc2, hr⟩ := bd hr
 obtain ⟨v3, hc4, hr⟩ := bd hr
 refine .regionT fine (callOf_cons (callOk_ref (H := [.own (api_Rat.c x'), .own (api_Rat.c y), .own [aB false, .at (.slice none 0 0), aB false, .at (.slice none 0 0)]]) (l := []) (SnL.cons (Sn.pure rfl) SnL.nil) (fiducialref02_Neg_ok n y v1 hc2)) (callOf_cons (callOk_ref (H := [.own (api_Rat.c x'), .own (api_Rat.c y), .own [aB false, .at (.slice none 0 0), aB false, .at (.slice none 0 0)]]) (l := []) (SnL.cons (Sn.pure rfl) (SnL.cons (Sn.pure rfl) SnL.nil)) (fiducialref02_Add_ok n x' v1 v3 hc4)) callOf_nil)) <| .mu 2 <| .cal (by kernel_rfl) (by kernel_rfl) (callOf_at (by kernel_rfl)) (by kernel_rfl) <| .cal (by kernel_rfl) (by kernel_rfl) (callOf_skip (fun h _ => absurd (show (119 : Nat) = 128 from h) (by decide)) (callOf_at (by kernel_rfl))) (by kernel_rfl) <| .mu 1 ?_
 refine .done ⟨by kernel_rfl, ?_⟩
 refine .n1 [4] (mkS 9 0 [(4, .hp 2 0)]) [.own (api_Rat.c x'), .own (api_Rat.c y), .own (api_Rat.c v3)] <| .ret ?_
 obtain rfl := Option.some.inj hr
 exact FinQ.r1 [.agg (api_Rat.c v3)]

theorem fiducialref02_Sign_ok (n : Nat) (x' : api_Rat) (r : Int) (hr : fiducialref02_Sign n x' = some r) : FnOk Tryz.prog 96 [.agg [.at (.bool x'.Num.Negative), slT (iC .u32) x'.Num.Groups, .at (.bool x'.Den.Negative), slT (iC .u32) x'.Den.Groups]] (.at (.int .i64 r)) := by
 unfold fiducialref02_Sign at hr
 refine FnOk.body fine Tryz.func96 (c := (Tryz.f96.body).getD .skip) rfl (s := mkS 7 0 [(0, .agg (api_Rat.c x'))]) (by kernel_rfl) (rs := [.tmp 2]) rfl ?_
 unfold Tryz.f96
 simp only [Option.getD_some]
 refine .seq <| .rn fine [1] (mkS 7 0 [(1, .hp 0 0)]) [.own (api_Rat.c x')] <| .seq ?_
 obtain ⟨v1, hc2, hr⟩ := bd hr
 obtain ⟨v3, hc4, hr⟩ := bd hr
 refine .region fine (callOf_cons (callOk_ref (H := [.own (api_Rat.c x')]) (l := []) (SnL.cons (Sn.pure rfl) SnL.nil) (fiducialref02_Value_ok n x' v1 hc2)) (callOf_cons (callOk_val (H := [.own (api_Rat.c x')]) (l := []) rfl (SnL.cons (Sn.pure rfl) SnL.nil) (fiducialref01_Sign_ok n v1.Num v3 hc4)) callOf_nil)) <| .mu 1 <| .c0 (by kernel_rfl) (callOf_at (by kernel_rfl)) <| .mu 1 <| .c0 (by kernel_rfl) (callOf_skip (fun h _ => absurd (show (75 : Nat) = 127 from h) (by decide)) (callOf_at (by kernel_rfl))) <| .mu 1 <| .done <| .ret ?_
 obtain rfl := Option.some.inj hr
 exact FinQ.r1 [aI64 v3]

theorem fiducialref02_Compare_ok (n : Nat) (x' : api_Rat) (y : api_Rat) (r : Int) (hr : fiducialref02_Compare n x' y = some r) : FnOk Tryz.prog 54 [.agg [.at (.bool x'.Num.Negative), slT (iC .u32) x'.Num.Groups, .at (.bool x'.Den.Negative), slT (iC .u32) x'.Den.Groups], .agg [.at (.bool y.Num.Negative), slT (iC .u32) y.Num.Groups, .at (.bool y.Den.Negative), slT (iC .u32) y.Den.Groups]] (.at (.int .i64 r)) := by
 unfold fiducialref02_Compare at hr
 refine FnOk.body fine Tryz.func54 (c := (Tryz.f54.body).getD .skip) rfl (s := mkS 9 0 [(0, .agg (api_Rat.c x')), (1, .agg (api_Rat.c y))]) (by kernel_rfl) (rs := [.tmp 4]) rfl ?_
 unfold Tryz.f54
 simp only [Option.getD_some]
 refine .seq <| .rn fine [2, 3] (mkS 9 0 [(2, .hp 0 0), (3, .hp 1 0)]) [.own (api_Rat.c x'), .own (api_Rat.c y)] <| .seq ?_
 obtain ⟨v1, hc2, hr⟩ := bd hr
 obtain ⟨v3, hc4, hr⟩ := bd hr
 refine .region fine (callOf_cons (callOk_ref (H := [.own (api_Rat.c x'), .own (api_Rat.c y)]) (l := []) (SnL.cons (Sn.pure rfl) (SnL.cons (Sn.pure rfl) SnL.nil)) (fiducialref02_Sub_ok n x' y v1 hc2)) (callOf_cons (callOk_val (H := [.own (api_Rat.c x'), .own (api_Rat.c y)]) (l := []) rfl (SnL.cons (Sn.pure rfl) SnL.nil) (fiducialref02_Sign_ok n v1 v3 hc4)) callOf_nil)) <| .mu 2 <| .c0 (by kernel_rfl) (callOf_at (by kernel_rfl)) <| .c0 (by kernel_rfl) (callOf_skip (fun h _ => absurd (show (96 : Nat) = 97 from h) (by decide)) (callOf_at (by kernel_rfl))) <| .mu 1 <| .done <| .ret ?_
 obtain rfl := Option.some.inj hr
 exact FinQ.r1 [aI64 v3]

theorem fiducialref02_Same_ok (n : Nat) (x' : api_Rat) (y : api_Rat) (r : Bool) (hr : fiducialref02_Same n x' y = some r) : FnOk Tryz.prog 40 [.agg [.at (.bool x'.Num.Negative), slT (iC .u32) x'.Num.Groups, .at (.bool x'.Den.Negative), slT (iC .u32) x'.Den.Groups], .agg [.at (.bool y.Num.Negative), slT (iC .u32) y.Num.Groups, .at (.bool y.Den.Negative), slT (iC .u32) y.Den.Groups]] (.at (.bool r)) := by
 unfold fiducialref02_Same at hr
 refine FnOk.body fine Tryz.func40 (c := (Tryz.f40.body).getD .skip) rfl (s := mkS 17 0 [(0, .agg (api_Rat.c x')), (1, .agg (api_Rat.c y))]) (by kernel_rfl) (rs := [.tmp 4]) rfl ?_
 unfold Tryz.f40
 simp only [Option.getD_some]
 refine .seq <| .rn fine [2, 3] (mkS 17 0 [(2, .hp 0 0), (3, .hp 1 0)]) [.own (api_Rat.c x'), .own (api_Rat.c y)] <| .seq ?_
 obtain ⟨v1, hc2, hr⟩ := bd hr
 rcases Bool.eq_false_or_eq_true v1 with hb3 | hb3
 ·subst hb3
  replace hr := cd_t rfl hr
  obtain ⟨v4, hc5, hr⟩ := bd hr
  rcases Bool.eq_false_or_eq_true v4 with hb6 | hb6
  ·subst hb6
   replace hr := cd_t rfl hr
   obtain ⟨v7, hc8, hr⟩ := bd hr
   refine .region fine (callOf_cons (callOk_val (H := [.own (api_Rat.c x'), .own (api_Rat.c y)]) (l := []) rfl (SnL.cons (Sn.pure rfl) SnL.nil) (fiducialref02_Valid_ok n x' true hc2)) (callOf_cons (callOk_val (H := [.own (api_Rat.c x'), .own (api_Rat.c y)]) (l := []) rfl (SnL.cons (Sn.pure rfl) SnL.nil) (fiducialref02_Valid_ok n y true hc5)) (callOf_cons (callOk_val (H := [.own (api_Rat.c x'), .own (api_Rat.c y)]) (l := []) rfl (SnL.cons (Sn.pure rfl) (SnL.cons (Sn.pure rfl) SnL.nil)) (fiducialref02_Compare_ok n x' y v7 hc8)) callOf_nil))) <| .mu 1 <| .c0 (by kernel_rfl) (callOf_at (by kernel_rfl)) <| .mu 2 <| .cal (by kernel_rfl) (by kernel_rfl) (callOf_skip (fun _ h => by obtain e0 := fiducialref02_Valid_inj h; rw [show true = true from Option.some.inj (hc5.symm.trans ((show fiducialref02_Valid n y = fiducialref02_Valid n x' from (congr rfl e0)).trans hc2))]) (callOf_at (by kernel_rfl))) <| .mu 4 <| .cal (by kernel_rfl) (by kernel_rfl) (callOf_skip (fun h _ => absurd (show (54 : Nat) = 88 from h) (by decide)) (callOf_skip (fun h _ => absurd (show (54 : Nat) = 88 from h) (by decide)) (callOf_at (by kernel_rfl)))) <| .mu 3 <| .done <| .ret ?_
   obtain rfl := Option.some.inj hr
   exact FinQ.r1 [aB ((v7 : Int) == 0)]
  ·subst hb6
   replace hr := cd_f rfl hr
   refine .region fine (callOf_cons (callOk_val (H := [.own (api_Rat.c x'), .own (api_Rat.c y)]) (l := []) rfl (SnL.cons (Sn.pure rfl) SnL.nil) (fiducialref02_Valid_ok n x' true hc2)) (callOf_cons (callOk_val (H := [.own (api_Rat.c x'), .own (api_Rat.c y)]) (l := []) rfl (SnL.cons (Sn.pure rfl) SnL.nil) (fiducialref02_Valid_ok n y false hc5)) callOf_nil)) <| .mu 1 <| .c0 (by kernel_rfl) (callOf_at (by kernel_rfl)) <| .mu 2 <| .cal (by kernel_rfl) (by kernel_rfl) (callOf_skip (fun _ h => by obtain e0 := fiducialref02_Valid_inj h; rw [show false = true from Option.some.inj (hc5.symm.trans ((show fiducialref02_Valid n y = fiducialref02_Valid n x' from (congr rfl e0)).trans hc2))]) (callOf_at (by kernel_rfl))) <| .mu 8 <| .done <| .ret ?_
   obtain rfl := Option.some.inj hr
   exact FinQ.r1 [aB false]
 ·subst hb3
  replace hr := cd_f rfl hr
  refine .g1 fine (callOk_val (l := []) rfl (SnL.cons (Sn.pure rfl) SnL.nil) (fiducialref02_Valid_ok n x' false hc2)) <| .mu 1 <| .c0 (by kernel_rfl) (callOf_at (by kernel_rfl)) <| .mu 11 <| .done <| .ret ?_
  obtain rfl := Option.some.inj hr
  exact FinQ.r1 [aB false]

theorem fiduciallaw09_known_ok (n : Nat) (r : Bool) (hr : fiduciallaw09_known n = some r) : FnOk Tryz.prog 28 [] (.at (.bool r)) := by
 unfold fiduciallaw09_known at hr
 refine FnOk.body fine Tryz.func28 (c := (Tryz.f28.body).getD .skip) rfl (s := mkS 64 0 []) (by kernel_rfl) (rs := [.tmp 0]) rfl ?_
 unfold Tryz.f28
 simp only [Option.getD_some]
 refine .seq <| .rn fine [] (mkS 64 0 []) [] <| .seq <| .rn fine [1, 2, 3] (mkS 64 0 [(1, .hp 0 0), (2, .hp 1 0), (3, .hp 2 0)]) [.own [aI64 0, aI64 0], .own [aI64 4, aI64 0], .own [aI64 0, aI64 4]] <| .seq ?_
 obtain ⟨v1, hc2, hr⟩ := bd hr
 refine .g1 fine (callOk_val (l := []) rfl (SnL.cons (Sn.pure rfl) (SnL.cons (Sn.pure rfl) (SnL.cons (Sn.pure rfl) (SnL.cons (Sn.pure rfl) SnL.nil)))) (predicate_Relate_ok n (api_Pix.mk 0 0) (api_Pix.mk 4 4) (api_Pix.mk 4 0) (api_Pix.mk 0 4) v1 hc2)) <| .mu 4 <| .c0 (by kernel_rfl) (callOf_at (by kernel_rfl)) <| .mu 5 <| .done <| .n1 [1, 2, 3, 4, 5] (mkS 64 0 [(1, .hp 0 0), (2, .hp 1 0), (3, .hp 2 0), (4, aI64 v1.1), (5, aI64 v1.2)]) [.own [aI64 0, aI64 0], .own [aI64 4, aI64 0], .own [aI64 0, aI64 4]] <| .seq ?_
 obtain ⟨v3, hc4, hr⟩ := bd hr
 refine .g1 fine (callOk_ref (l := []) (SnL.cons (Sn.pure rfl) (SnL.cons (Sn.pure rfl) (SnL.cons (Sn.pure rfl) (SnL.cons (Sn.pure rfl) SnL.nil)))) (predicate_Meet_ok n (api_Pix.mk 0 0) (api_Pix.mk 4 4) (api_Pix.mk 4 0) (api_Pix.mk 0 4) v3 hc4)) <| .mu 4 <| .c0 (by kernel_rfl) (callOf_at (by kernel_rfl)) <| .mu 6 <| .done <| .n1 [1, 2, 3, 4, 5, 6, 7] (mkS 64 0 [(1, .hp 0 0), (2, .hp 1 0), (3, .hp 2 0), (4, aI64 v1.1), (5, aI64 v1.2), (6, .hp 3 0), (7, aI64 v3.2)]) [.own [aI64 0, aI64 0], .own [aI64 4, aI64 0], .own [aI64 0, aI64 4], .own (api_Place.c v3.1)] <| .seq ?_
 obtain ⟨v5, hc6, hr⟩ := bd hr
 rcases Bool.eq_false_or_eq_true ((v5 : Int) == 1) with hb7 | hb7
 ·replace hr := cd_t hb7 hr
  obtain ⟨v8, hc9, hr⟩ := bd hr
  rcases Bool.eq_false_or_eq_true ((v8 : Int) == 1) with hb10 | hb10
  ·replace hr := cd_t hb10 hr
   rcases Bool.eq_false_or_eq_true ((v1.1 : Int) == 2) with hb11 | hb11
   ·replace hr := cd_t hb11 hr
    rcases Bool.eq_false_or_eq_true ((v1.2 : Int) == 0) with hb12 | hb12
    ·replace hr := cd_t hb12 hr
     rcases Bool.eq_false_or_eq_true ((v3.2 : Int) == 0) with hb13 | hb13
     ·replace hr := cd_t hb13 hr
      obtain ⟨v14, hc15, hr⟩ := bd hr
      obtain ⟨v16, hc17, hr⟩ := bd hr
      rcases Bool.eq_false_or_eq_true v16 with hb18 | hb18
      ·subst hb18
       replace hr := cd_t rfl hr
       obtain ⟨v19, hc20, hr⟩ := bd hr
       refine .regionT fine (callOf_cons (callOk_val (H := [.own [aI64 0, aI64 0], .own [aI64 4, aI64 0], .own [aI64 0, aI64 4], .own (api_Place.c v3.1)]) (l := []) rfl (SnL.cons (Sn.pure rfl) (SnL.cons (Sn.pure rfl) (SnL.cons (Sn.pure rfl) SnL.nil))) (predicate_Orient_ok n (api_Pix.mk 0 0) (api_Pix.mk 4 0) (api_Pix.mk 0 4) v5 hc6)) (callOf_cons (callOk_val (H := [.own [aI64 0, aI64 0], .own [aI64 4, aI64 0], .own [aI64 0, aI64 4], .own (api_Place.c v3.1)]) (l := []) rfl (SnL.cons (Sn.pure rfl) (SnL.cons (Sn.pure rfl) (SnL.cons (Sn.pure rfl) (SnL.cons (Sn.pure rfl) SnL.nil)))) (predicate_Circle_ok n (api_Pix.mk 0 0) (api_Pix.mk 4 0) (api_Pix.mk 0 4) (api_Pix.mk 1 1) v8 hc9)) (callOf_cons (callOk_ref (H := [.own [aI64 0, aI64 0], .own [aI64 4, aI64 0], .own [aI64 0, aI64 4], .own (api_Place.c v3.1)]) (l := []) (SnL.cons (Sn.pure rfl) SnL.nil) (fiducialref02_Whole_ok n 2 v14 hc15)) (callOf_cons (callOk_val (H := [.own [aI64 0, aI64 0], .own [aI64 4, aI64 0], .own [aI64 0, aI64 4], .own (api_Place.c v3.1)]) (l := []) rfl (SnL.cons (Sn.pure rfl) (SnL.cons (Sn.pure rfl) SnL.nil)) (fiducialref02_Same_ok n v3.1.X v14 true hc17)) (callOf_cons (callOk_val (H := [.own [aI64 0, aI64 0], .own [aI64 4, aI64 0], .own [aI64 0, aI64 4], .own (api_Place.c v3.1), .own [aI64 2097152, aI64 0]]) (args := [.hs 4 0 1 2]) (l := [4]) rfl (SnL.cons (Sn.hs rfl (.inl rfl) (SnC.cons (Sn.pure rfl) (SnC.cons (Sn.pure rfl) SnC.nil)) (fun h => nomatch h)) SnL.nil) (predicate_Check_ok n [api_Pix.mk 2097152 0] v19 hc20)) callOf_nil))))) <| .mu 3 <| .cal (by kernel_rfl) (by kernel_rfl) (callOf_at (by kernel_rfl)) (by kernel_rfl) <| .pure (v := aB true) (by kernel_rfl) (Eq.trans (b := some (.pure (aB ((v5 : Int) == 1)))) (by kernel_rfl) (by rw [hb7])) (by kernel_rfl) <| .mu 5 <| .cal (by kernel_rfl) (by kernel_rfl) (callOf_skip (fun h _ => absurd (show (33 : Nat) = 29 from h) (by decide)) (callOf_at (by kernel_rfl))) (by kernel_rfl) <| .pure (v := aB true) (by kernel_rfl) (Eq.trans (b := some (.pure (aB ((v8 : Int) == 1)))) (by kernel_rfl) (by rw [hb10])) (by kernel_rfl) <| .mu 3 <| .pure (v := aB true) (by kernel_rfl) (Eq.trans (b := some (.pure (aB ((v1.1 : Int) == 2)))) (by kernel_rfl) (by rw [hb11])) (by kernel_rfl) <| .mu 3 <| .pure (v := aB true) (by kernel_rfl) (Eq.trans (b := some (.pure (aB ((v1.2 : Int) == 0)))) (by kernel_rfl) (by rw [hb12])) (by kernel_rfl) <| .mu 3 <| .pure (v := aB true) (by kernel_rfl) (Eq.trans (b := some (.pure (aB ((v3.2 : Int) == 0)))) (by kernel_rfl) (by rw [hb13])) (by kernel_rfl) <| .mu 4 <| .cal (by kernel_rfl) (by kernel_rfl) (callOf_skip (fun h _ => absurd (show (22 : Nat) = 29 from h) (by decide)) (callOf_skip (fun h _ => absurd (show (22 : Nat) = 33 from h) (by decide)) (callOf_at (by kernel_rfl)))) (by kernel_rfl) <| .cal (by kernel_rfl) (by kernel_rfl) (callOf_skip (fun h _ => absurd (show (40 : Nat) = 29 from h) (by decide)) (callOf_skip (fun h _ => absurd (show (40 : Nat) = 33 from h) (by decide)) (callOf_skip (fun h _ => absurd (show (40 : Nat) = 22 from h) (by decide)) (callOf_at (by kernel_rfl))))) (by kernel_rfl) <| .mu 4 <| .cal (by kernel_rfl) (by kernel_rfl) (callOf_skip (fun h _ => absurd (show (32 : Nat) = 29 from h) (by decide)) (callOf_skip (fun h _ => absurd (show (32 : Nat) = 33 from h) (by decide)) (callOf_skip (fun h _ => absurd (show (32 : Nat) = 22 from h) (by decide)) (callOf_skip (fun h _ => absurd (show (32 : Nat) = 40 from h) (by decide)) (callOf_at (by kernel_rfl)))))) (by kernel_rfl) <| .mu 3 ?_
       refine .done ⟨by kernel_rfl, ?_⟩
       refine .ret ?_
       obtain rfl := Option.some.inj hr
       exact FinQ.r1 [aB ((v19 : Int) == 2)]
      ·subst hb18
       replace hr := cd_f rfl hr
       refine .regionT fine (callOf_cons (callOk_val (H := [.own [aI64 0, aI64 0], .own [aI64 4, aI64 0], .own [aI64 0, aI64 4], .own (api_Place.c v3.1)]) (l := []) rfl (SnL.cons (Sn.pure rfl) (SnL.cons (Sn.pure rfl) (SnL.cons (Sn.pure rfl) SnL.nil))) (predicate_Orient_ok n (api_Pix.mk 0 0) (api_Pix.mk 4 0) (api_Pix.mk 0 4) v5 hc6)) (callOf_cons (callOk_val (H := [.own [aI64 0, aI64 0], .own [aI64 4, aI64 0], .own [aI64 0, aI64 4], .own (api_Place.c v3.1)]) (l := []) rfl (SnL.cons (Sn.pure rfl) (SnL.cons (Sn.pure rfl) (SnL.cons (Sn.pure rfl) (SnL.cons (Sn.pure rfl) SnL.nil)))) (predicate_Circle_ok n (api_Pix.mk 0 0) (api_Pix.mk 4 0) (api_Pix.mk 0 4) (api_Pix.mk 1 1) v8 hc9)) (callOf_cons (callOk_ref (H := [.own [aI64 0, aI64 0], .own [aI64 4, aI64 0], .own [aI64 0, aI64 4], .own (api_Place.c v3.1)]) (l := []) (SnL.cons (Sn.pure rfl) SnL.nil) (fiducialref02_Whole_ok n 2 v14 hc15)) (callOf_cons (callOk_val (H := [.own [aI64 0, aI64 0], .own [aI64 4, aI64 0], .own [aI64 0, aI64 4], .own (api_Place.c v3.1)]) (l := []) rfl (SnL.cons (Sn.pure rfl) (SnL.cons (Sn.pure rfl) SnL.nil)) (fiducialref02_Same_ok n v3.1.X v14 false hc17)) callOf_nil)))) <| .mu 3 <| .cal (by kernel_rfl) (by kernel_rfl) (callOf_at (by kernel_rfl)) (by kernel_rfl) <| .pure (v := aB true) (by kernel_rfl) (Eq.trans (b := some (.pure (aB ((v5 : Int) == 1)))) (by kernel_rfl) (by rw [hb7])) (by kernel_rfl) <| .mu 5 <| .cal (by kernel_rfl) (by kernel_rfl) (callOf_skip (fun h _ => absurd (show (33 : Nat) = 29 from h) (by decide)) (callOf_at (by kernel_rfl))) (by kernel_rfl) <| .pure (v := aB true) (by kernel_rfl) (Eq.trans (b := some (.pure (aB ((v8 : Int) == 1)))) (by kernel_rfl) (by rw [hb10])) (by kernel_rfl) <| .mu 3 <| .pure (v := aB true) (by kernel_rfl) (Eq.trans (b := some (.pure (aB ((v1.1 : Int) == 2)))) (by kernel_rfl) (by rw [hb11])) (by kernel_rfl) <| .mu 3 <| .pure (v := aB true) (by kernel_rfl) (Eq.trans (b := some (.pure (aB ((v1.2 : Int) == 0)))) (by kernel_rfl) (by rw [hb12])) (by kernel_rfl) <| .mu 3 <| .pure (v := aB true) (by kernel_rfl) (Eq.trans (b := some (.pure (aB ((v3.2 : Int) == 0)))) (by kernel_rfl) (by rw [hb13])) (by kernel_rfl) <| .mu 4 <| .cal (by kernel_rfl) (by kernel_rfl) (callOf_skip (fun h _ => absurd (show (22 : Nat) = 29 from h) (by decide)) (callOf_skip (fun h _ => absurd (show (22 : Nat) = 33 from h) (by decide)) (callOf_at (by kernel_rfl)))) (by kernel_rfl) <| .cal (by kernel_rfl) (by kernel_rfl) (callOf_skip (fun h _ => absurd (show (40 : Nat) = 29 from h) (by decide)) (callOf_skip (fun h _ => absurd (show (40 : Nat) = 33 from h) (by decide)) (callOf_skip (fun h _ => absurd (show (40 : Nat) = 22 from h) (by decide)) (callOf_at (by kernel_rfl))))) (by kernel_rfl) <| .mu 8 ?_
       refine .done ⟨by kernel_rfl, ?_⟩
       refine .ret ?_
       obtain rfl := Option.some.inj hr
       exact FinQ.r1 [aB false]
     ·replace hr := cd_f hb13 hr
      refine .regionT fine (callOf_cons (callOk_val (H := [.own [aI64 0, aI64 0], .own [aI64 4, aI64 0], .own [aI64 0, aI64 4], .own (api_Place.c v3.1)]) (l := []) rfl (SnL.cons (Sn.pure rfl) (SnL.cons (Sn.pure rfl) (SnL.cons (Sn.pure rfl) SnL.nil))) (predicate_Orient_ok n (api_Pix.mk 0 0) (api_Pix.mk 4 0) (api_Pix.mk 0 4) v5 hc6)) (callOf_cons (callOk_val (H := [.own [aI64 0, aI64 0], .own [aI64 4, aI64 0], .own [aI64 0, aI64 4], .own (api_Place.c v3.1)]) (l := []) rfl (SnL.cons (Sn.pure rfl) (SnL.cons (Sn.pure rfl) (SnL.cons (Sn.pure rfl) (SnL.cons (Sn.pure rfl) SnL.nil)))) (predicate_Circle_ok n (api_Pix.mk 0 0) (api_Pix.mk 4 0) (api_Pix.mk 0 4) (api_Pix.mk 1 1) v8 hc9)) callOf_nil)) <| .mu 3 <| .cal (by kernel_rfl) (by kernel_rfl) (callOf_at (by kernel_rfl)) (by kernel_rfl) <| .pure (v := aB true) (by kernel_rfl) (Eq.trans (b := some (.pure (aB ((v5 : Int) == 1)))) (by kernel_rfl) (by rw [hb7])) (by kernel_rfl) <| .mu 5 <| .cal (by kernel_rfl) (by kernel_rfl) (callOf_skip (fun h _ => absurd (show (33 : Nat) = 29 from h) (by decide)) (callOf_at (by kernel_rfl))) (by kernel_rfl) <| .pure (v := aB true) (by kernel_rfl) (Eq.trans (b := some (.pure (aB ((v8 : Int) == 1)))) (by kernel_rfl) (by rw [hb10])) (by kernel_rfl) <| .mu 3 <| .pure (v := aB true) (by kernel_rfl) (Eq.trans (b := some (.pure (aB ((v1.1 : Int) == 2)))) (by kernel_rfl) (by rw [hb11])) (by kernel_rfl) <| .mu 3 <| .pure (v := aB true) (by kernel_rfl) (Eq.trans (b := some (.pure (aB ((v1.2 : Int) == 0)))) (by kernel_rfl) (by rw [hb12])) (by kernel_rfl) <| .mu 3 <| .pure (v := aB false) (by kernel_rfl) (Eq.trans (b := some (.pure (aB ((v3.2 : Int) == 0)))) (by kernel_rfl) (by rw [hb13])) (by kernel_rfl) <| .mu 14 ?_
      refine .done ⟨by kernel_rfl, ?_⟩
      refine .ret ?_
      obtain rfl := Option.some.inj hr
      exact FinQ.r1 [aB false]
    ·replace hr := cd_f hb12 hr
     refine .regionT fine (callOf_cons (callOk_val (H := [.own [aI64 0, aI64 0], .own [aI64 4, aI64 0], .own [aI64 0, aI64 4], .own (api_Place.c v3.1)]) (l := []) rfl (SnL.cons (Sn.pure rfl) (SnL.cons (Sn.pure rfl) (SnL.cons (Sn.pure rfl) SnL.nil))) (predicate_Orient_ok n (api_Pix.mk 0 0) (api_Pix.mk 4 0) (api_Pix.mk 0 4) v5 hc6)) (callOf_cons (callOk_val (H := [.own [aI64 0, aI64 0], .own [aI64 4, aI64 0], .own [aI64 0, aI64 4], .own (api_Place.c v3.1)]) (l := []) rfl (SnL.cons (Sn.pure rfl) (SnL.cons (Sn.pure rfl) (SnL.cons (Sn.pure rfl) (SnL.cons (Sn.pure rfl) SnL.nil)))) (predicate_Circle_ok n (api_Pix.mk 0 0) (api_Pix.mk 4 0) (api_Pix.mk 0 4) (api_Pix.mk 1 1) v8 hc9)) callOf_nil)) <| .mu 3 <| .cal (by kernel_rfl) (by kernel_rfl) (callOf_at (by kernel_rfl)) (by kernel_rfl) <| .pure (v := aB true) (by kernel_rfl) (Eq.trans (b := some (.pure (aB ((v5 : Int) == 1)))) (by kernel_rfl) (by rw [hb7])) (by kernel_rfl) <| .mu 5 <| .cal (by kernel_rfl) (by kernel_rfl) (callOf_skip (fun h _ => absurd (show (33 : Nat) = 29 from h) (by decide)) (callOf_at (by kernel_rfl))) (by kernel_rfl) <| .pure (v := aB true) (by kernel_rfl) (Eq.trans (b := some (.pure (aB ((v8 : Int) == 1)))) (by kernel_rfl) (by rw [hb10])) (by kernel_rfl) <| .mu 3 <| .pure (v := aB true) (by kernel_rfl) (Eq.trans (b := some (.pure (aB ((v1.1 : Int) == 2)))) (by kernel_rfl) (by rw [hb11])) (by kernel_rfl) <| .mu 3 <| .pure (v := aB false) (by kernel_rfl) (Eq.trans (b := some (.pure (aB ((v1.2 : Int) == 0)))) (by kernel_rfl) (by rw [hb12])) (by kernel_rfl) <| .mu 18 ?_
     refine .done ⟨by kernel_rfl, ?_⟩
     refine .ret ?_
     obtain rfl := Option.some.inj hr
     exact FinQ.r1 [aB false]
   ·replace hr := cd_f hb11 hr
    refine .regionT fine (callOf_cons (callOk_val (H := [.own [aI64 0, aI64 0], .own [aI64 4, aI64 0], .own [aI64 0, aI64 4], .own (api_Place.c v3.1)]) (l := []) rfl (SnL.cons (Sn.pure rfl) (SnL.cons (Sn.pure rfl) (SnL.cons (Sn.pure rfl) SnL.nil))) (predicate_Orient_ok n (api_Pix.mk 0 0) (api_Pix.mk 4 0) (api_Pix.mk 0 4) v5 hc6)) (callOf_cons (callOk_val (H := [.own [aI64 0, aI64 0], .own [aI64 4, aI64 0], .own [aI64 0, aI64 4], .own (api_Place.c v3.1)]) (l := []) rfl (SnL.cons (Sn.pure rfl) (SnL.cons (Sn.pure rfl) (SnL.cons (Sn.pure rfl) (SnL.cons (Sn.pure rfl) SnL.nil)))) (predicate_Circle_ok n (api_Pix.mk 0 0) (api_Pix.mk 4 0) (api_Pix.mk 0 4) (api_Pix.mk 1 1) v8 hc9)) callOf_nil)) <| .mu 3 <| .cal (by kernel_rfl) (by kernel_rfl) (callOf_at (by kernel_rfl)) (by kernel_rfl) <| .pure (v := aB true) (by kernel_rfl) (Eq.trans (b := some (.pure (aB ((v5 : Int) == 1)))) (by kernel_rfl) (by rw [hb7])) (by kernel_rfl) <| .mu 5 <| .cal (by kernel_rfl) (by kernel_rfl) (callOf_skip (fun h _ => absurd (show (33 : Nat) = 29 from h) (by decide)) (callOf_at (by kernel_rfl))) (by kernel_rfl) <| .pure (v := aB true) (by kernel_rfl) (Eq.trans (b := some (.pure (aB ((v8 : Int) == 1)))) (by kernel_rfl) (by rw [hb10])) (by kernel_rfl) <| .mu 3 <| .pure (v := aB false) (by kernel_rfl) (Eq.trans (b := some (.pure (aB ((v1.1 : Int) == 2)))) (by kernel_rfl) (by rw [hb11])) (by kernel_rfl) <| .mu 22 ?_
    refine .done ⟨by kernel_rfl, ?_⟩
    refine .ret ?_
    obtain rfl := Option.some.inj hr
    exact FinQ.r1 [aB false]
  ·replace hr := cd_f hb10 hr
   refine .regionT fine (callOf_cons (callOk_val (H := [.own [aI64 0, aI64 0], .own [aI64 4, aI64 0], .own [aI64 0, aI64 4], .own (api_Place.c v3.1)]) (l := []) rfl (SnL.cons (Sn.pure rfl) (SnL.cons (Sn.pure rfl) (SnL.cons (Sn.pure rfl) SnL.nil))) (predicate_Orient_ok n (api_Pix.mk 0 0) (api_Pix.mk 4 0) (api_Pix.mk 0 4) v5 hc6)) (callOf_cons (callOk_val (H := [.own [aI64 0, aI64 0], .own [aI64 4, aI64 0], .own [aI64 0, aI64 4], .own (api_Place.c v3.1)]) (l := []) rfl (SnL.cons (Sn.pure rfl) (SnL.cons (Sn.pure rfl) (SnL.cons (Sn.pure rfl) (SnL.cons (Sn.pure rfl) SnL.nil)))) (predicate_Circle_ok n (api_Pix.mk 0 0) (api_Pix.mk 4 0) (api_Pix.mk 0 4) (api_Pix.mk 1 1) v8 hc9)) callOf_nil)) <| .mu 3 <| .cal (by kernel_rfl) (by kernel_rfl) (callOf_at (by kernel_rfl)) (by kernel_rfl) <| .pure (v := aB true) (by kernel_rfl) (Eq.trans (b := some (.pure (aB ((v5 : Int) == 1)))) (by kernel_rfl) (by rw [hb7])) (by kernel_rfl) <| .mu 5 <| .cal (by kernel_rfl) (by kernel_rfl) (callOf_skip (fun h _ => absurd (show (33 : Nat) = 29 from h) (by decide)) (callOf_at (by kernel_rfl))) (by kernel_rfl) <| .pure (v := aB false) (by kernel_rfl) (Eq.trans (b := some (.pure (aB ((v8 : Int) == 1)))) (by kernel_rfl) (by rw [hb10])) (by kernel_rfl) <| .mu 26 ?_
   refine .done ⟨by kernel_rfl, ?_⟩
   refine .ret ?_
   obtain rfl := Option.some.inj hr
   exact FinQ.r1 [aB false]
 ·replace hr := cd_f hb7 hr
  refine .t1 fine (callOk_val (l := []) rfl (SnL.cons (Sn.pure rfl) (SnL.cons (Sn.pure rfl) (SnL.cons (Sn.pure rfl) SnL.nil))) (predicate_Orient_ok n (api_Pix.mk 0 0) (api_Pix.mk 4 0) (api_Pix.mk 0 4) v5 hc6)) <| .mu 3 <| .cal (by kernel_rfl) (by kernel_rfl) (callOf_at (by kernel_rfl)) (by kernel_rfl) <| .pure (v := aB false) (by kernel_rfl) (Eq.trans (b := some (.pure (aB ((v5 : Int) == 1)))) (by kernel_rfl) (by rw [hb7])) (by kernel_rfl) <| .mu 33 ?_
  refine .done ⟨by kernel_rfl, ?_⟩
  refine .ret ?_
  obtain rfl := Option.some.inj hr
  exact FinQ.r1 [aB false]

theorem fiducialref09_Valid_ok (n : Nat) (p : api_Pix) (r : Bool) (hr : fiducialref09_Valid n p = some r) : FnOk Tryz.prog 59 [.agg [.at (.int .i64 p.X), .at (.int .i64 p.Y)]] (.at (.bool r)) := by
 unfold fiducialref09_Valid at hr
 refine FnOk.body fine Tryz.func59 (c := (Tryz.f59.body).getD .skip) rfl (s := mkS 21 0 [(0, .agg (api_Pix.c p))]) (by kernel_rfl) (rs := [.tmp 2]) rfl ?_
 unfold Tryz.f59
 simp only [Option.getD_some]
 refine .seq <| .rn fine [1] (mkS 21 0 [(1, .hp 0 0)]) [.own (api_Pix.c p)] <| .seq ?_
 rcases Bool.eq_false_or_eq_true (decide (p.X ≥ (-1048576))) with hb1 | hb1
 ·replace hr := cd_t hb1 hr
  rcases Bool.eq_false_or_eq_true (decide (p.X ≤ 1048576)) with hb2 | hb2
  ·replace hr := cd_t hb2 hr
   rcases Bool.eq_false_or_eq_true (decide (p.Y ≥ (-1048576))) with hb3 | hb3
   ·replace hr := cd_t hb3 hr
    refine .r0 fine <| .mu 2 <| .p0 (v := aB true) (Eq.trans (b := some (.pure (aB (decide (p.X ≥ (-1048576)))))) (by kernel_rfl) (by rw [hb1])) <| .mu 3 <| .pure (v := aB true) (by kernel_rfl) (Eq.trans (b := some (.pure (aB (decide (p.X ≤ 1048576))))) (by kernel_rfl) (by rw [hb2])) <| .mu 4 <| .pure (v := aB true) (by kernel_rfl) (Eq.trans (b := some (.pure (aB (decide (p.Y ≥ (-1048576)))))) (by kernel_rfl) (by rw [hb3])) <| .mu 7 <| .done <| .ret ?_
    obtain rfl := Option.some.inj hr
    exact FinQ.r1 [aB (decide (p.Y ≤ 1048576))]
   ·replace hr := cd_f hb3 hr
    refine .r0 fine <| .mu 2 <| .p0 (v := aB true) (Eq.trans (b := some (.pure (aB (decide (p.X ≥ (-1048576)))))) (by kernel_rfl) (by rw [hb1])) <| .mu 3 <| .pure (v := aB true) (by kernel_rfl) (Eq.trans (b := some (.pure (aB (decide (p.X ≤ 1048576))))) (by kernel_rfl) (by rw [hb2])) <| .mu 4 <| .pure (v := aB false) (by kernel_rfl) (Eq.trans (b := some (.pure (aB (decide (p.Y ≥ (-1048576)))))) (by kernel_rfl) (by rw [hb3])) <| .mu 7 <| .done <| .ret ?_
    obtain rfl := Option.some.inj hr
    exact FinQ.r1 [aB false]
  ·replace hr := cd_f hb2 hr
   refine .r0 fine <| .mu 2 <| .p0 (v := aB true) (Eq.trans (b := some (.pure (aB (decide (p.X ≥ (-1048576)))))) (by kernel_rfl) (by rw [hb1])) <| .mu 3 <| .pure (v := aB false) (by kernel_rfl) (Eq.trans (b := some (.pure (aB (decide (p.X ≤ 1048576))))) (by kernel_rfl) (by rw [hb2])) <| .mu 12 <| .done <| .ret ?_
   obtain rfl := Option.some.inj hr
   exact FinQ.r1 [aB false]
 ·replace hr := cd_f hb1 hr
  refine .r0 fine <| .mu 2 <| .p0 (v := aB false) (Eq.trans (b := some (.pure (aB (decide (p.X ≥ (-1048576)))))) (by kernel_rfl) (by rw [hb1])) <| .mu 16 <| .done <| .ret ?_
  obtain rfl := Option.some.inj hr
  exact FinQ.r1 [aB false]

theorem fiducialref09_All_ok (n : Nat) (l : List api_Pix) (r : Bool) (hr : fiducialref09_All n l = some r) : FnOk Tryz.prog 30 [slT api_Pix.c l] (.at (.bool r)) := by
 unfold fiducialref09_All at hr
 refine FnOk.body fine Tryz.func30 (c := (Tryz.f30.body).getD .skip) rfl (s := mkS 16 0 [(0, slT api_Pix.c l)]) (by kernel_rfl) (rs := [.tmp 2]) rfl ?_
 unfold Tryz.f30
 simp only [Option.getD_some]
 refine .seq <| .rn fine [0] (mkS 16 0 [(0, slT api_Pix.c l)]) [] <| .seq <| .seq <| .rn fine [0, 3] (mkS 16 0 [(0, slT api_Pix.c l), (3, aI64 0)]) [] <| .block ?_
 replace hr := bd hr; obtain ⟨o13, hL14, hr⟩ := hr
 refine .loopO (σ := fun z0 => match z0 with | i_1 => ⟨mkS 16 0 [(0, slT api_Pix.c l), (3, aI64 i_1)], []⟩) (Q := fun x st' => match (generalizing := false) o13 with | .inl _ => x = .exit 0 ∧ Wk 0 st' ⟨mkS 16 0 [], []⟩ | .inr (r0) => x = .ret ∧ FinQ Tryz.prog [.tmp 2] (aB r0) .ret st') hL14 ((Wk.gc [0, 3] [] rfl pK0).to (by kernel_rfl)) ?_ ?_
 ·clear hr
  rintro m i_1 hr
  show CQ _ _ _ _ _ ⟨_, _⟩
  refine .seq <| .seq <| .rn fine [0, 3, 7] (mkS 16 0 [(0, slT api_Pix.c l), (3, aI64 i_1), (7, aB (decide (i_1 < (l.length : Int))))]) [] ?_
  refine .cond (t := decide (i_1 < (l.length : Int))) (by kernel_rfl) (fun hb8 => ?_) (fun hb8 => ?_)
  ·replace hr := cd_t hb8 hr
   refine .skip <| .seq <| .block <| .seq ?_
   obtain ⟨hg9, hr⟩ := gd hr
   obtain ⟨v10, hc11, hr⟩ := bd hr
   refine .g1 fine (callOk_val (l := []) rfl (SnL.cons (Sn.pure rfl) SnL.nil) (fiducialref09_Valid_ok n (gt l i_1) v10 hc11)) <| .mu 2 <| .p0 (v := .pp (l.flatMap api_Pix.c) (i_1.toNat * 2)) (Eq.trans (b := ORes.ofP (guardV (inR i_1 l.length) (.pp (l.flatMap api_Pix.c) (i_1.toNat * 2)))) (by kernel_rfl) (ofP_guard hg9)) <| .p0 (v := .agg (api_Pix.c (gt l i_1))) (Eq.trans (b := ORes.ofP (guardV (decide (2 ≤ ((l.flatMap api_Pix.c).drop (i_1.toNat * 2)).length)) (.agg (((l.flatMap api_Pix.c).drop (i_1.toNat * 2)).take 2)))) (by kernel_rfl) (flat_load api_Pix.len (inR_lt hg9) (by decide) (by omega : i_1.toNat * 2 = i_1.toNat * 2 + 0) (by kernel_rfl))) <| .c0 (by kernel_rfl) (callOf_at (by kernel_rfl)) <| .mu 1 <| .done <| .n1 [0, 3, 15] (mkS 16 0 [(0, slT api_Pix.c l), (3, aI64 i_1), (15, aB (!v10))]) [] ?_
   refine .cond (t := !v10) (by kernel_rfl) (fun hb12 => ?_) (fun hb12 => ?_)
   ·replace hr := cd_t hb12 hr
    refine .seq <| .ru fine <| .ret ?_
    obtain rfl := Option.some.inj hr
    exact ⟨rfl, FinQ.ret (vs := [aB false]) (by kernel_rfl) (Sn.pure rfl)⟩
   ·replace hr := cd_f hb12 hr
    refine .skip <| .pop <| .ru fine ?_
    exact loopF_back (wrapF .i64 (i_1 + 1)) hr ((Wk.gc [0, 3] [] rfl pK0).to (by kernel_rfl))
  ·replace hr := cd_f hb8 hr
   refine .leave rfl ?_
   obtain rfl := Option.some.inj hr
   exact ⟨rfl, ((Wk.gc [] [] rfl pK0).to (by kernel_rfl))⟩
 ·rcases o13 with ⟨⟩ | r0
  ·rintro x st' hq15
   clear hL14
   obtain ⟨rfl, hq15⟩ := hq15
   refine CQ_exit _ rfl <| .wk hq15 <| .seq <| .ru fine <| .ret ?_
   obtain rfl := Option.some.inj hr
   exact FinQ.r1 [aB true]
  ·rintro x st' hq15
   clear hL14
   obtain ⟨rfl, hq15⟩ := hq15
   obtain rfl := Option.some.inj hr
   exact CQ_ret _ hq15

theorem fiducialref09_sign_ok (n : Nat) (n' : Int) (r : Int) (hr : fiducialref09_sign n n' = some r) : FnOk Tryz.prog 60 [.at (.int .i64 n')] (.at (.int .i64 r)) := by
 unfold fiducialref09_sign at hr
 refine FnOk.body fine Tryz.func60 (c := (Tryz.f60.body).getD .skip) rfl (s := mkS 7 0 [(0, aI64 n')]) (by kernel_rfl) (rs := [.tmp 2]) rfl ?_
 unfold Tryz.f60
 simp only [Option.getD_some]
 refine .seq <| .rn fine [0] (mkS 7 0 [(0, aI64 n')]) [] <| .seq <| .seq <| .rn fine [0, 4] (mkS 7 0 [(0, aI64 n'), (4, aB (decide (n' < 0)))]) [] ?_
 refine .cond (t := decide (n' < 0)) (by kernel_rfl) (fun hb1 => ?_) (fun hb1 => ?_)
 ·replace hr := cd_t hb1 hr
  refine .seq <| .ru fine <| .ret ?_
  obtain rfl := Option.some.inj hr
  exact FinQ.r1 [aI64 (-1)]
 ·replace hr := cd_f hb1 hr
  refine .skip <| .seq <| .seq <| .rn fine [6] (mkS 7 0 [(6, aB (decide (n' > 0)))]) [] ?_
  refine .cond (t := decide (n' > 0)) (by kernel_rfl) (fun hb2 => ?_) (fun hb2 => ?_)
  ·replace hr := cd_t hb2 hr
   refine .seq <| .ru fine <| .ret ?_
   obtain rfl := Option.some.inj hr
   exact FinQ.r1 [aI64 1]
  ·replace hr := cd_f hb2 hr
   refine .skip <| .seq <| .ru fine <| .ret ?_
   obtain rfl := Option.some.inj hr
   exact FinQ.r1 [aI64 0]

theorem fiducialref09_Orient_ok (n : Nat) (a : api_Pix) (b : api_Pix) (c : api_Pix) (r : Int) (hr : fiducialref09_Orient n a b c = some r) : FnOk Tryz.prog 31 [.agg [.at (.int .i64 a.X), .at (.int .i64 a.Y)], .agg [.at (.int .i64 b.X), .at (.int .i64 b.Y)], .agg [.at (.int .i64 c.X), .at (.int .i64 c.Y)]] (.at (.int .i64 r)) := by
 unfold fiducialref09_Orient at hr
 refine FnOk.body fine Tryz.func31 (c := (Tryz.f31.body).getD .skip) rfl (s := mkS 37 0 [(0, .agg (api_Pix.c a)), (1, .agg (api_Pix.c b)), (2, .agg (api_Pix.c c))]) (by kernel_rfl) (rs := [.tmp 6]) rfl ?_
 unfold Tryz.f31
 simp only [Option.getD_some]
 refine .seq <| .rn fine [3, 4, 5] (mkS 37 0 [(3, .hp 0 0), (4, .hp 1 0), (5, .hp 2 0)]) [.own (api_Pix.c a), .own (api_Pix.c b), .own (api_Pix.c c)] <| .seq <| .seq ?_
 obtain ⟨v1, hc2, hr⟩ := bd hr
 refine .region fine (callOf_cons (callOk_val (H := [.own (api_Pix.c a), .own (api_Pix.c b), .own (api_Pix.c c), .own [aI64 a.X, aI64 a.Y, aI64 b.X, aI64 b.Y, aI64 c.X, aI64 c.Y]]) (args := [.hs 3 0 3 2]) (l := [3]) rfl (SnL.cons (Sn.hs rfl (.inl rfl) (SnC.cons (Sn.pure rfl) (SnC.cons (Sn.pure rfl) (SnC.cons (Sn.pure rfl) (SnC.cons (Sn.pure rfl) (SnC.cons (Sn.pure rfl) (SnC.cons (Sn.pure rfl) SnC.nil)))))) (fun h => nomatch h)) SnL.nil) (fiducialref09_All_ok n [a, b, c] v1 hc2)) callOf_nil) <| .mu 4 <| .c0 (by kernel_rfl) (callOf_at (by kernel_rfl)) <| .mu 1 <| .done <| .n1 [3, 4, 5, 12] (mkS 37 0 [(3, .hp 0 0), (4, .hp 1 0), (5, .hp 2 0), (12, aB (!v1))]) [.own (api_Pix.c a), .own (api_Pix.c b), .own (api_Pix.c c), .own [aI64 a.X, aI64 a.Y, aI64 b.X, aI64 b.Y, aI64 c.X, aI64 c.Y]] ?_
 refine .cond (t := !v1) (by kernel_rfl) (fun hb3 => ?_) (fun hb3 => ?_)
 ·replace hr := cd_t hb3 hr
  refine .seq <| .ru fine <| .ret ?_
  obtain rfl := Option.some.inj hr
  exact FinQ.r1 [aI64 0]
 ·replace hr := cd_f hb3 hr
  refine .skip <| .seq ?_
  obtain ⟨v4, hc5, hr⟩ := bd hr
  refine .g1 fine (callOk_val (l := []) rfl (SnL.cons (Sn.pure rfl) SnL.nil) (fiducialref09_sign_ok n (wrapF .i64 ((wrapF .i64 ((wrapF .i64 (b.X - a.X)) * (wrapF .i64 (c.Y - a.Y)))) - (wrapF .i64 ((wrapF .i64 (b.Y - a.Y)) * (wrapF .i64 (c.X - a.X)))))) v4 hc5)) <| .mu 23 <| .c0 (by kernel_rfl) (callOf_at (by kernel_rfl)) <| .mu 1 <| .done <| .ret ?_
  obtain rfl := Option.some.inj hr
  exact FinQ.r1 [aI64 v4]

theorem fiducialref09_row_inj {p : api_Pix} {d : api_Pix} {p_ : api_Pix} {d_ : api_Pix} (h : ([.agg [.at (.int .i64 p.X), .at (.int .i64 p.Y)], .agg [.at (.int .i64 d.X), .at (.int .i64 d.Y)]] : List AV) = [.agg [.at (.int .i64 p_.X), .at (.int .i64 p_.Y)], .agg [.at (.int .i64 d_.X), .at (.int .i64 d_.Y)]]) : p = p_ ∧ d = d_ := by
 obtain ⟨_, _⟩ := p
 obtain ⟨_, _⟩ := p_
 obtain ⟨_, _⟩ := d
 obtain ⟨_, _⟩ := d_
 simp only [List.cons.injEq, AV.agg.injEq, AV.at.injEq, Value.int.injEq, Value.bool.injEq, AV.fn.injEq, AV.pp.injEq, true_and, and_true] at h
 simp_all
theorem fiducialref09_row_ok (n : Nat) (p : api_Pix) (d : api_Pix) (r : A3 api_Int) (hr : fiducialref09_row n p d = some r) : FnOk Tryz.prog 70 [.agg [.at (.int .i64 p.X), .at (.int .i64 p.Y)], .agg [.at (.int .i64 d.X), .at (.int .i64 d.Y)]] (.agg [.at (.bool r.e0.Negative), slT (iC .u32) r.e0.Groups, .at (.bool r.e1.Negative), slT (iC .u32) r.e1.Groups, .at (.bool r.e2.Negative), slT (iC .u32) r.e2.Groups]) := by
 unfold fiducialref09_row at hr
 refine FnOk.body fine Tryz.func70 (c := (Tryz.f70.body).getD .skip) rfl (s := mkS 30 0 [(0, .agg (api_Pix.c p)), (1, .agg (api_Pix.c d))]) (by kernel_rfl) (rs := [.cell 4 109]) rfl ?_
 unfold Tryz.f70
 simp only [Option.getD_some]
 refine .seq <| .rn fine [2, 3, 4] (mkS 30 0 [(2, .hp 0 0), (3, .hp 1 0), (4, .hp 2 0)]) [.own (api_Pix.c p), .own (api_Pix.c d), .own [aB false, .at (.slice none 0 0), aB false, .at (.slice none 0 0), aB false, .at (.slice none 0 0)]] <| .seq <| .regionT fine callOf_nil <| .mu 12 ?_
 refine .done ⟨by kernel_rfl, ?_⟩
 refine .n1 [4, 5, 6] (mkS 30 0 [(4, .hp 2 0), (5, aI64 (wrapF .i64 (p.X - d.X))), (6, aI64 (wrapF .i64 (p.Y - d.Y)))]) [.own (api_Pix.c p), .own (api_Pix.c d), .own [aB false, .at (.slice none 0 0), aB false, .at (.slice none 0 0), aB false, .at (.slice none 0 0)]] <| .seq ?_
 obtain ⟨v1, hc2, hr⟩ := bd hr
 obtain ⟨v3, hc4, hr⟩ := bd hr
 obtain ⟨v5, hc6, hr⟩ := bd hr
 refine .region fine (callOf_cons (callOk_ref (H := [.own (api_Pix.c p), .own (api_Pix.c d), .own [aB false, .at (.slice none 0 0), aB false, .at (.slice none 0 0), aB false, .at (.slice none 0 0)]]) (l := []) (SnL.cons (Sn.pure rfl) SnL.nil) (fiducialref01_Of_ok n (wrapF .i64 (p.X - d.X)) v1 hc2)) (callOf_cons (callOk_ref (H := [.own (api_Pix.c p), .own (api_Pix.c d), .own [aB false, .at (.slice none 0 0), aB false, .at (.slice none 0 0), aB false, .at (.slice none 0 0)]]) (l := []) (SnL.cons (Sn.pure rfl) SnL.nil) (fiducialref01_Of_ok n (wrapF .i64 (p.Y - d.Y)) v3 hc4)) (callOf_cons (callOk_ref (H := [.own (api_Pix.c p), .own (api_Pix.c d), .own [aB false, .at (.slice none 0 0), aB false, .at (.slice none 0 0), aB false, .at (.slice none 0 0)]]) (l := []) (SnL.cons (Sn.pure rfl) SnL.nil) (fiducialref01_Of_ok n (wrapF .i64 ((wrapF .i64 ((wrapF .i64 (p.X - d.X)) * (wrapF .i64 (p.X - d.X)))) + (wrapF .i64 ((wrapF .i64 (p.Y - d.Y)) * (wrapF .i64 (p.Y - d.Y)))))) v5 hc6)) callOf_nil))) <| .mu 1 <| .c0 (by kernel_rfl) (callOf_at (by kernel_rfl)) <| .mu 1 <| .c0 (by kernel_rfl) (callOf_skip (fun _ h => by obtain e0 := fiducialref01_Of_inj h; rw [show v3 = v1 from Option.some.inj (hc4.symm.trans ((show fiducialref01_Of n (wrapF .i64 (p.Y - d.Y)) = fiducialref01_Of n (wrapF .i64 (p.X - d.X)) from (congr rfl e0)).trans hc2))]) (callOf_at (by kernel_rfl))) <| .mu 7 <| .c0 (by kernel_rfl) (callOf_skip (fun _ h => by obtain e0 := fiducialref01_Of_inj h; rw [show v5 = v1 from Option.some.inj (hc6.symm.trans ((show fiducialref01_Of n (wrapF .i64 ((wrapF .i64 ((wrapF .i64 (p.X - d.X)) * (wrapF .i64 (p.X - d.X)))) + (wrapF .i64 ((wrapF .i64 (p.Y - d.Y)) * (wrapF .i64 (p.Y - d.Y)))))) = fiducialref01_Of n (wrapF .i64 (p.X - d.X)) from (congr rfl e0)).trans hc2))]) (callOf_skip (fun _ h => by obtain e0 := fiducialref01_Of_inj h; rw [show v5 = v3 from Option.some.inj (hc6.symm.trans ((show fiducialref01_Of n (wrapF .i64 ((wrapF .i64 ((wrapF .i64 (p.X - d.X)) * (wrapF .i64 (p.X - d.X)))) + (wrapF .i64 ((wrapF .i64 (p.Y - d.Y)) * (wrapF .i64 (p.Y - d.Y)))))) = fiducialref01_Of n (wrapF .i64 (p.Y - d.Y)) from (congr rfl e0)).trans hc4))]) (callOf_at (by kernel_rfl)))) <| .mu 2 <| .done <| .n1 [4] (mkS 30 0 [(4, .hp 2 0)]) [.own (api_Pix.c p), .own (api_Pix.c d), .own [aB v1.Negative, sU32 v1.Groups, aB v3.Negative, sU32 v3.Groups, aB v5.Negative, sU32 v5.Groups]] <| .ret ?_
 obtain rfl := Option.some.inj hr
 exact FinQ.r1 [.agg [aB v1.Negative, sU32 v1.Groups, aB v3.Negative, sU32 v3.Groups, aB v5.Negative, sU32 v5.Groups]]

theorem fiducialref09_two_c1_c2_ok (n : Nat) (a : A3 api_Int) (b : A3 api_Int) (r : api_Int) (hr : fiducialref09_two_c1_c2 n a b = some r) : FnOk Tryz.prog 72 [.agg [.at (.bool a.e0.Negative), slT (iC .u32) a.e0.Groups, .at (.bool a.e1.Negative), slT (iC .u32) a.e1.Groups, .at (.bool a.e2.Negative), slT (iC .u32) a.e2.Groups], .agg [.at (.bool b.e0.Negative), slT (iC .u32) b.e0.Groups, .at (.bool b.e1.Negative), slT (iC .u32) b.e1.Groups, .at (.bool b.e2.Negative), slT (iC .u32) b.e2.Groups], .at (.int .i64 1), .at (.int .i64 2)] (.agg [.at (.bool r.Negative), slT (iC .u32) r.Groups]) := by
 unfold fiducialref09_two_c1_c2 at hr
 refine FnOk.body fine Tryz.func72 (c := (Tryz.f72.body).getD .skip) rfl (s := mkS 24 0 [(0, .agg [aB a.e0.Negative, sU32 a.e0.Groups, aB a.e1.Negative, sU32 a.e1.Groups, aB a.e2.Negative, sU32 a.e2.Groups]), (1, .agg [aB b.e0.Negative, sU32 b.e0.Groups, aB b.e1.Negative, sU32 b.e1.Groups, aB b.e2.Negative, sU32 b.e2.Groups]), (2, aI64 1), (3, aI64 2)]) (by kernel_rfl) (rs := [.cell 8 35]) rfl ?_
 unfold Tryz.f72
 simp only [Option.getD_some]
 refine .seq <| .rn fine [2, 3, 4, 5, 8] (mkS 24 0 [(2, aI64 1), (3, aI64 2), (4, .hp 0 0), (5, .hp 1 0), (8, .hp 2 0)]) [.own [aB a.e0.Negative, sU32 a.e0.Groups, aB a.e1.Negative, sU32 a.e1.Groups, aB a.e2.Negative, sU32 a.e2.Groups], .own [aB b.e0.Negative, sU32 b.e0.Groups, aB b.e1.Negative, sU32 b.e1.Groups, aB b.e2.Negative, sU32 b.e2.Groups], .own [aB false, .at (.slice none 0 0)]] <| .seq ?_
 obtain ⟨v1, hc2, hr⟩ := bd hr
 obtain ⟨v3, hc4, hr⟩ := bd hr
 obtain ⟨v5, hc6, hr⟩ := bd hr
 refine .regionT fine (callOf_cons (callOk_ref (H := [.own [aB a.e0.Negative, sU32 a.e0.Groups, aB a.e1.Negative, sU32 a.e1.Groups, aB a.e2.Negative, sU32 a.e2.Groups], .own [aB b.e0.Negative, sU32 b.e0.Groups, aB b.e1.Negative, sU32 b.e1.Groups, aB b.e2.Negative, sU32 b.e2.Groups], .own [aB false, .at (.slice none 0 0)]]) (l := []) (SnL.cons (Sn.pure rfl) (SnL.cons (Sn.pure rfl) SnL.nil)) (fiducialref01_Mul_ok n a.e1 b.e2 v1 hc2)) (callOf_cons (callOk_ref (H := [.own [aB a.e0.Negative, sU32 a.e0.Groups, aB a.e1.Negative, sU32 a.e1.Groups, aB a.e2.Negative, sU32 a.e2.Groups], .own [aB b.e0.Negative, sU32 b.e0.Groups, aB b.e1.Negative, sU32 b.e1.Groups, aB b.e2.Negative, sU32 b.e2.Groups], .own [aB false, .at (.slice none 0 0)]]) (l := []) (SnL.cons (Sn.pure rfl) (SnL.cons (Sn.pure rfl) SnL.nil)) (fiducialref01_Mul_ok n a.e2 b.e1 v3 hc4)) (callOf_cons (callOk_ref (H := [.own [aB a.e0.Negative, sU32 a.e0.Groups, aB a.e1.Negative, sU32 a.e1.Groups, aB a.e2.Negative, sU32 a.e2.Groups], .own [aB b.e0.Negative, sU32 b.e0.Groups, aB b.e1.Negative, sU32 b.e1.Groups, aB b.e2.Negative, sU32 b.e2.Groups], .own [aB false, .at (.slice none 0 0)]]) (l := []) (SnL.cons (Sn.pure rfl) (SnL.cons (Sn.pure rfl) SnL.nil)) (fiducialref01_Sub_ok n v1 v3 v5 hc6)) callOf_nil))) <| .mu 6 <| .cal (by kernel_rfl) (by kernel_rfl) (callOf_at (by kernel_rfl)) (by kernel_rfl) <| .mu 6 <| .cal (by kernel_rfl) (by kernel_rfl) (callOf_skip (fun _ h => by obtain ⟨e0, e1⟩ := fiducialref01_Mul_inj h; rw [show v3 = v1 from Option.some.inj (hc4.symm.trans ((show fiducialref01_Mul n a.e2 b.e1 = fiducialref01_Mul n a.e1 b.e2 from (congr (congr rfl e0) e1)).trans hc2))]) (callOf_at (by kernel_rfl))) (by kernel_rfl) <| .cal (by kernel_rfl) (by kernel_rfl) (callOf_skip (fun h _ => absurd (show (73 : Nat) = 71 from h) (by decide)) (callOf_skip (fun h _ => absurd (show (73 : Nat) = 71 from h) (by decide)) (callOf_at (by kernel_rfl)))) (by kernel_rfl) <| .mu 1 ?_
 refine .done ⟨by kernel_rfl, ?_⟩
 refine .n1 [8] (mkS 24 0 [(8, .hp 2 0)]) [.own [aB a.e0.Negative, sU32 a.e0.Groups, aB a.e1.Negative, sU32 a.e1.Groups, aB a.e2.Negative, sU32 a.e2.Groups], .own [aB b.e0.Negative, sU32 b.e0.Groups, aB b.e1.Negative, sU32 b.e1.Groups, aB b.e2.Negative, sU32 b.e2.Groups], .own (api_Int.c v5)] <| .ret ?_
 obtain rfl := Option.some.inj hr
 exact FinQ.r1 [.agg (api_Int.c v5)]

theorem fiducialref09_two_c0_c2_ok (n : Nat) (a : A3 api_Int) (b : A3 api_Int) (r : api_Int) (hr : fiducialref09_two_c0_c2 n a b = some r) : FnOk Tryz.prog 72 [.agg [.at (.bool a.e0.Negative), slT (iC .u32) a.e0.Groups, .at (.bool a.e1.Negative), slT (iC .u32) a.e1.Groups, .at (.bool a.e2.Negative), slT (iC .u32) a.e2.Groups], .agg [.at (.bool b.e0.Negative), slT (iC .u32) b.e0.Groups, .at (.bool b.e1.Negative), slT (iC .u32) b.e1.Groups, .at (.bool b.e2.Negative), slT (iC .u32) b.e2.Groups], .at (.int .i64 0), .at (.int .i64 2)] (.agg [.at (.bool r.Negative), slT (iC .u32) r.Groups]) := by
 unfold fiducialref09_two_c0_c2 at hr
 refine FnOk.body fine Tryz.func72 (c := (Tryz.f72.body).getD .skip) rfl (s := mkS 24 0 [(0, .agg [aB a.e0.Negative, sU32 a.e0.Groups, aB a.e1.Negative, sU32 a.e1.Groups, aB a.e2.Negative, sU32 a.e2.Groups]), (1, .agg [aB b.e0.Negative, sU32 b.e0.Groups, aB b.e1.Negative, sU32 b.e1.Groups, aB b.e2.Negative, sU32 b.e2.Groups]), (2, aI64 0), (3, aI64 2)]) (by kernel_rfl) (rs := [.cell 8 35]) rfl ?_
 unfold Tryz.f72
 simp only [Option.getD_some]
 refine .seq <| .rn fine [2, 3, 4, 5, 8] (mkS 24 0 [(2, aI64 0), (3, aI64 2), (4, .hp 0 0), (5, .hp 1 0), (8, .hp 2 0)]) [.own [aB a.e0.Negative, sU32 a.e0.Groups, aB a.e1.Negative, sU32 a.e1.Groups, aB a.e2.Negative, sU32 a.e2.Groups], .own [aB b.e0.Negative, sU32 b.e0.Groups, aB b.e1.Negative, sU32 b.e1.Groups, aB b.e2.Negative, sU32 b.e2.Groups], .own [aB false, .at (.slice none 0 0)]] <| .seq ?_
 obtain ⟨v1, hc2, hr⟩ := bd hr
 obtain ⟨v3, hc4, hr⟩ := bd hr
 obtain ⟨v5, hc6, hr⟩ := bd hr
 refine .regionT fine (callOf_cons (callOk_ref (H := [.own [aB a.e0.Negative, sU32 a.e0.Groups, aB a.e1.Negative, sU32 a.e1.Groups, aB a.e2.Negative, sU32 a.e2.Groups], .own [aB b.e0.Negative, sU32 b.e0.Groups, aB b.e1.Negative, sU32 b.e1.Groups, aB b.e2.Negative, sU32 b.e2.Groups], .own [aB false, .at (.slice none 0 0)]]) (l := []) (SnL.cons (Sn.pure rfl) (SnL.cons (Sn.pure rfl) SnL.nil)) (fiducialref01_Mul_ok n a.e0 b.e2 v1 hc2)) (callOf_cons (callOk_ref (H := [.own [aB a.e0.Negative, sU32 a.e0.Groups, aB a.e1.Negative, sU32 a.e1.Groups, aB a.e2.Negative, sU32 a.e2.Groups], .own [aB b.e0.Negative, sU32 b.e0.Groups, aB b.e1.Negative, sU32 b.e1.Groups, aB b.e2.Negative, sU32 b.e2.Groups], .own [aB false, .at (.slice none 0 0)]]) (l := []) (SnL.cons (Sn.pure rfl) (SnL.cons (Sn.pure rfl) SnL.nil)) (fiducialref01_Mul_ok n a.e2 b.e0 v3 hc4)) (callOf_cons (callOk_ref (H := [.own [aB a.e0.Negative, sU32 a.e0.Groups, aB a.e1.Negative, sU32 a.e1.Groups, aB a.e2.Negative, sU32 a.e2.Groups], .own [aB b.e0.Negative, sU32 b.e0.Groups, aB b.e1.Negative, sU32 b.e1.Groups, aB b.e2.Negative, sU32 b.e2.Groups], .own [aB false, .at (.slice none 0 0)]]) (l := []) (SnL.cons (Sn.pure rfl) (SnL.cons (Sn.pure rfl) SnL.nil)) (fiducialref01_Sub_ok n v1 v3 v5 hc6)) callOf_nil))) <| .mu 6 <| .cal (by kernel_rfl) (by kernel_rfl) (callOf_at (by kernel_rfl)) (by kernel_rfl) <| .mu 6 <| .cal (by kernel_rfl) (by kernel_rfl) (callOf_skip (fun _ h => by obtain ⟨e0, e1⟩ := fiducialref01_Mul_inj h; rw [show v3 = v1 from Option.some.inj (hc4.symm.trans ((show fiducialref01_Mul n a.e2 b.e0 = fiducialref01_Mul n a.e0 b.e2 from (congr (congr rfl e0) e1)).trans hc2))]) (callOf_at (by kernel_rfl))) (by kernel_rfl) <| .cal (by kernel_rfl) (by kernel_rfl) (callOf_skip (fun h _ => absurd (show (73 : Nat) = 71 from h) (by decide)) (callOf_skip (fun h _ => absurd (show (73 : Nat) = 71 from h) (by decide)) (callOf_at (by kernel_rfl)))) (by kernel_rfl) <| .mu 1 ?_
 refine .done ⟨by kernel_rfl, ?_⟩
 refine .n1 [8] (mkS 24 0 [(8, .hp 2 0)]) [.own [aB a.e0.Negative, sU32 a.e0.Groups, aB a.e1.Negative, sU32 a.e1.Groups, aB a.e2.Negative, sU32 a.e2.Groups], .own [aB b.e0.Negative, sU32 b.e0.Groups, aB b.e1.Negative, sU32 b.e1.Groups, aB b.e2.Negative, sU32 b.e2.Groups], .own (api_Int.c v5)] <| .ret ?_
 obtain rfl := Option.some.inj hr
 exact FinQ.r1 [.agg (api_Int.c v5)]

theorem fiducialref09_two_c0_c1_ok (n : Nat) (a : A3 api_Int) (b : A3 api_Int) (r : api_Int) (hr : fiducialref09_two_c0_c1 n a b = some r) : FnOk Tryz.prog 72 [.agg [.at (.bool a.e0.Negative), slT (iC .u32) a.e0.Groups, .at (.bool a.e1.Negative), slT (iC .u32) a.e1.Groups, .at (.bool a.e2.Negative), slT (iC .u32) a.e2.Groups], .agg [.at (.bool b.e0.Negative), slT (iC .u32) b.e0.Groups, .at (.bool b.e1.Negative), slT (iC .u32) b.e1.Groups, .at (.bool b.e2.Negative), slT (iC .u32) b.e2.Groups], .at (.int .i64 0), .at (.int .i64 1)] (.agg [.at (.bool r.Negative), slT (iC .u32) r.Groups]) := by
 unfold fiducialref09_two_c0_c1 at hr
 refine FnOk.body fine Tryz.func72 (c := (Tryz.f72.body).getD .skip) rfl (s := mkS 24 0 [(0, .agg [aB a.e0.Negative, sU32 a.e0.Groups, aB a.e1.Negative, sU32 a.e1.Groups, aB a.e2.Negative, sU32 a.e2.Groups]), (1, .agg [aB b.e0.Negative, sU32 b.e0.Groups, aB b.e1.Negative, sU32 b.e1.Groups, aB b.e2.Negative, sU32 b.e2.Groups]), (2, aI64 0), (3, aI64 1)]) (by kernel_rfl) (rs := [.cell 8 35]) rfl ?_
 unfold Tryz.f72
 simp only [Option.getD_some]
 refine .seq <| .rn fine [2, 3, 4, 5, 8] (mkS 24 0 [(2, aI64 0), (3, aI64 1), (4, .hp 0 0), (5, .hp 1 0), (8, .hp 2 0)]) [.own [aB a.e0.Negative, sU32 a.e0.Groups, aB a.e1.Negative, sU32 a.e1.Groups, aB a.e2.Negative, sU32 a.e2.Groups], .own [aB b.e0.Negative, sU32 b.e0.Groups, aB b.e1.Negative, sU32 b.e1.Groups, aB b.e2.Negative, sU32 b.e2.Groups], .own [aB false, .at (.slice none 0 0)]] <| .seq ?_
 obtain ⟨v1, hc2, hr⟩ := bd hr
 obtain ⟨v3, hc4, hr⟩ := bd hr
 obtain ⟨v5, hc6, hr⟩ := bd hr
 refine .regionT fine (callOf_cons (callOk_ref (H := [.own [aB a.e0.Negative, sU32 a.e0.Groups, aB a.e1.Negative, sU32 a.e1.Groups, aB a.e2.Negative, sU32 a.e2.Groups], .own [aB b.e0.Negative, sU32 b.e0.Groups, aB b.e1.Negative, sU32 b.e1.Groups, aB b.e2.Negative, sU32 b.e2.Groups], .own [aB false, .at (.slice none 0 0)]]) (l := []) (SnL.cons (Sn.pure rfl) (SnL.cons (Sn.pure rfl) SnL.nil)) (fiducialref01_Mul_ok n a.e0 b.e1 v1 hc2)) (callOf_cons (callOk_ref (H := [.own [aB a.e0.Negative, sU32 a.e0.Groups, aB a.e1.Negative, sU32 a.e1.Groups, aB a.e2.Negative, sU32 a.e2.Groups], .own [aB b.e0.Negative, sU32 b.e0.Groups, aB b.e1.Negative, sU32 b.e1.Groups, aB b.e2.Negative, sU32 b.e2.Groups], .own [aB false, .at (.slice none 0 0)]]) (l := []) (SnL.cons (Sn.pure rfl) (SnL.cons (Sn.pure rfl) SnL.nil)) (fiducialref01_Mul_ok n a.e1 b.e0 v3 hc4)) (callOf_cons (callOk_ref (H := [.own [aB a.e0.Negative, sU32 a.e0.Groups, aB a.e1.Negative, sU32 a.e1.Groups, aB a.e2.Negative, sU32 a.e2.Groups], .own [aB b.e0.Negative, sU32 b.e0.Groups, aB b.e1.Negative, sU32 b.e1.Groups, aB b.e2.Negative, sU32 b.e2.Groups], .own [aB false, .at (.slice none 0 0)]]) (l := []) (SnL.cons (Sn.pure rfl) (SnL.cons (Sn.pure rfl) SnL.nil)) (fiducialref01_Sub_ok n v1 v3 v5 hc6)) callOf_nil))) <| .mu 6 <| .cal (by kernel_rfl) (by kernel_rfl) (callOf_at (by kernel_rfl)) (by kernel_rfl) <| .mu 6 <| .cal (by kernel_rfl) (by kernel_rfl) (callOf_skip (fun _ h => by obtain ⟨e0, e1⟩ := fiducialref01_Mul_inj h; rw [show v3 = v1 from Option.some.inj (hc4.symm.trans ((show fiducialref01_Mul n a.e1 b.e0 = fiducialref01_Mul n a.e0 b.e1 from (congr (congr rfl e0) e1)).trans hc2))]) (callOf_at (by kernel_rfl))) (by kernel_rfl) <| .cal (by kernel_rfl) (by kernel_rfl) (callOf_skip (fun h _ => absurd (show (73 : Nat) = 71 from h) (by decide)) (callOf_skip (fun h _ => absurd (show (73 : Nat) = 71 from h) (by decide)) (callOf_at (by kernel_rfl)))) (by kernel_rfl) <| .mu 1 ?_
 refine .done ⟨by kernel_rfl, ?_⟩
 refine .n1 [8] (mkS 24 0 [(8, .hp 2 0)]) [.own [aB a.e0.Negative, sU32 a.e0.Groups, aB a.e1.Negative, sU32 a.e1.Groups, aB a.e2.Negative, sU32 a.e2.Groups], .own [aB b.e0.Negative, sU32 b.e0.Groups, aB b.e1.Negative, sU32 b.e1.Groups, aB b.e2.Negative, sU32 b.e2.Groups], .own (api_Int.c v5)] <| .ret ?_
 obtain rfl := Option.some.inj hr
 exact FinQ.r1 [.agg (api_Int.c v5)]

theorem fiducialref09_Circle_ok (n : Nat) (a : api_Pix) (b : api_Pix) (c : api_Pix) (d : api_Pix) (r : Int) (hr : fiducialref09_Circle n a b c d = some r) : FnOk Tryz.prog 34 [.agg [.at (.int .i64 a.X), .at (.int .i64 a.Y)], .agg [.at (.int .i64 b.X), .at (.int .i64 b.Y)], .agg [.at (.int .i64 c.X), .at (.int .i64 c.Y)], .agg [.at (.int .i64 d.X), .at (.int .i64 d.Y)]] (.at (.int .i64 r)) := by
 unfold fiducialref09_Circle at hr
 refine FnOk.body fine Tryz.func34 (c := (Tryz.f34.body).getD .skip) rfl (s := mkS 60 0 [(0, .agg (api_Pix.c a)), (1, .agg (api_Pix.c b)), (2, .agg (api_Pix.c c)), (3, .agg (api_Pix.c d))]) (by kernel_rfl) (rs := [.tmp 8]) rfl ?_
 unfold Tryz.f34
 simp only [Option.getD_some]
 refine .seq <| .rn fine [4, 5, 6, 7] (mkS 60 0 [(4, .hp 0 0), (5, .hp 1 0), (6, .hp 2 0), (7, .hp 3 0)]) [.own (api_Pix.c a), .own (api_Pix.c b), .own (api_Pix.c c), .own (api_Pix.c d)] <| .seq ?_
 obtain ⟨v1, hc2, hr⟩ := bd hr
 refine .g1 fine (callOk_val (l := []) rfl (SnL.cons (Sn.pure rfl) (SnL.cons (Sn.pure rfl) (SnL.cons (Sn.pure rfl) SnL.nil))) (fiducialref09_Orient_ok n a b c v1 hc2)) <| .mu 3 <| .c0 (by kernel_rfl) (callOf_at (by kernel_rfl)) <| .mu 1 <| .done <| .n1 [4, 5, 6, 7, 9] (mkS 60 0 [(4, .hp 0 0), (5, .hp 1 0), (6, .hp 2 0), (7, .hp 3 0), (9, aI64 v1)]) [.own (api_Pix.c a), .own (api_Pix.c b), .own (api_Pix.c c), .own (api_Pix.c d)] <| .seq <| .seq ?_
 rcases Bool.eq_false_or_eq_true ((v1 : Int) == 0) with hb3 | hb3
 ·replace hr := cd_t hb3 hr
  refine .r0 fine <| .mu 1 <| .p0 (v := aB true) (Eq.trans (b := some (.pure (aB ((v1 : Int) == 0)))) (by kernel_rfl) (by rw [hb3])) <| .mu 5 <| .done <| .n1 [4, 5, 6, 7, 9, 24] (mkS 60 0 [(4, .hp 0 0), (5, .hp 1 0), (6, .hp 2 0), (7, .hp 3 0), (9, aI64 v1), (24, aB true)]) [.own (api_Pix.c a), .own (api_Pix.c b), .own (api_Pix.c c), .own (api_Pix.c d)] <| .cT (by kernel_rfl) <| .seq <| .ru fine <| .ret ?_
  obtain rfl := Option.some.inj hr
  exact FinQ.r1 [aI64 0]
 ·replace hr := cd_f hb3 hr
  obtain ⟨v4, hc5, hr⟩ := bd hr
  refine .g1 fine (callOk_val (l := []) rfl (SnL.cons (Sn.pure rfl) SnL.nil) (fiducialref09_Valid_ok n d v4 hc5)) <| .mu 1 <| .p0 (v := aB false) (Eq.trans (b := some (.pure (aB ((v1 : Int) == 0)))) (by kernel_rfl) (by rw [hb3])) <| .mu 2 <| .cal (by kernel_rfl) (by kernel_rfl) (callOf_at (by kernel_rfl)) <| .mu 2 <| .done <| .n1 [4, 5, 6, 7, 9, 24] (mkS 60 0 [(4, .hp 0 0), (5, .hp 1 0), (6, .hp 2 0), (7, .hp 3 0), (9, aI64 v1), (24, aB (!v4))]) [.own (api_Pix.c a), .own (api_Pix.c b), .own (api_Pix.c c), .own (api_Pix.c d)] ?_
  refine .cond (t := !v4) (by kernel_rfl) (fun hb6 => ?_) (fun hb6 => ?_)
  ·replace hr := cd_t hb6 hr
   refine .seq <| .ru fine <| .ret ?_
   obtain rfl := Option.some.inj hr
   exact FinQ.r1 [aI64 0]
  ·replace hr := cd_f hb6 hr
   refine .skip <| .seq ?_
   obtain ⟨v7, hc8, hr⟩ := bd hr
   obtain ⟨v9, hc10, hr⟩ := bd hr
   obtain ⟨v11, hc12, hr⟩ := bd hr
   refine .regionT fine (callOf_cons (callOk_ref (H := [.own (api_Pix.c a), .own (api_Pix.c b), .own (api_Pix.c c), .own (api_Pix.c d)]) (l := []) (SnL.cons (Sn.pure rfl) (SnL.cons (Sn.pure rfl) SnL.nil)) (fiducialref09_row_ok n a d v7 hc8)) (callOf_cons (callOk_ref (H := [.own (api_Pix.c a), .own (api_Pix.c b), .own (api_Pix.c c), .own (api_Pix.c d)]) (l := []) (SnL.cons (Sn.pure rfl) (SnL.cons (Sn.pure rfl) SnL.nil)) (fiducialref09_row_ok n b d v9 hc10)) (callOf_cons (callOk_ref (H := [.own (api_Pix.c a), .own (api_Pix.c b), .own (api_Pix.c c), .own (api_Pix.c d)]) (l := []) (SnL.cons (Sn.pure rfl) (SnL.cons (Sn.pure rfl) SnL.nil)) (fiducialref09_row_ok n c d v11 hc12)) callOf_nil))) <| .mu 2 <| .cal (by kernel_rfl) (by kernel_rfl) (callOf_at (by kernel_rfl)) (by kernel_rfl) <| .mu 2 <| .cal (by kernel_rfl) (by kernel_rfl) (callOf_skip (fun _ h => by obtain ⟨e0, e1⟩ := fiducialref09_row_inj h; rw [show v9 = v7 from Option.some.inj (hc10.symm.trans ((show fiducialref09_row n b d = fiducialref09_row n a d from (congr (congr rfl e0) e1)).trans hc8))]) (callOf_at (by kernel_rfl))) (by kernel_rfl) <| .mu 2 <| .cal (by kernel_rfl) (by kernel_rfl) (callOf_skip (fun _ h => by obtain ⟨e0, e1⟩ := fiducialref09_row_inj h; rw [show v11 = v7 from Option.some.inj (hc12.symm.trans ((show fiducialref09_row n c d = fiducialref09_row n a d from (congr (congr rfl e0) e1)).trans hc8))]) (callOf_skip (fun _ h => by obtain ⟨e0, e1⟩ := fiducialref09_row_inj h; rw [show v11 = v9 from Option.some.inj (hc12.symm.trans ((show fiducialref09_row n c d = fiducialref09_row n b d from (congr (congr rfl e0) e1)).trans hc10))]) (callOf_at (by kernel_rfl)))) (by kernel_rfl) <| .mu 6 ?_
   refine .done ⟨by kernel_rfl, ?_⟩
   refine .n1 [9, 10, 11, 12] (mkS 60 0 [(9, aI64 v1), (10, .hp 4 0), (11, .hp 5 0), (12, .hp 6 0)]) [.own (api_Pix.c a), .own (api_Pix.c b), .own (api_Pix.c c), .own (api_Pix.c d), .own [aB v7.e0.Negative, sU32 v7.e0.Groups, aB v7.e1.Negative, sU32 v7.e1.Groups, aB v7.e2.Negative, sU32 v7.e2.Groups], .own [aB v9.e0.Negative, sU32 v9.e0.Groups, aB v9.e1.Negative, sU32 v9.e1.Groups, aB v9.e2.Negative, sU32 v9.e2.Groups], .own [aB v11.e0.Negative, sU32 v11.e0.Groups, aB v11.e1.Negative, sU32 v11.e1.Groups, aB v11.e2.Negative, sU32 v11.e2.Groups]] <| .seq ?_
   obtain ⟨v13, hc14, hr⟩ := bd hr
   obtain ⟨v15, hc16, hr⟩ := bd hr
   refine .regionT fine (callOf_cons (callOk_ref (H := [.own (api_Pix.c a), .own (api_Pix.c b), .own (api_Pix.c c), .own (api_Pix.c d), .own [aB v7.e0.Negative, sU32 v7.e0.Groups, aB v7.e1.Negative, sU32 v7.e1.Groups, aB v7.e2.Negative, sU32 v7.e2.Groups], .own [aB v9.e0.Negative, sU32 v9.e0.Groups, aB v9.e1.Negative, sU32 v9.e1.Groups, aB v9.e2.Negative, sU32 v9.e2.Groups], .own [aB v11.e0.Negative, sU32 v11.e0.Groups, aB v11.e1.Negative, sU32 v11.e1.Groups, aB v11.e2.Negative, sU32 v11.e2.Groups]]) (l := []) (SnL.cons (Sn.pure rfl) (SnL.cons (Sn.pure rfl) (SnL.cons (Sn.pure rfl) (SnL.cons (Sn.pure rfl) SnL.nil)))) (fiducialref09_two_c1_c2_ok n v9 v11 v13 hc14)) (callOf_cons (callOk_ref (H := [.own (api_Pix.c a), .own (api_Pix.c b), .own (api_Pix.c c), .own (api_Pix.c d), .own [aB v7.e0.Negative, sU32 v7.e0.Groups, aB v7.e1.Negative, sU32 v7.e1.Groups, aB v7.e2.Negative, sU32 v7.e2.Groups], .own [aB v9.e0.Negative, sU32 v9.e0.Groups, aB v9.e1.Negative, sU32 v9.e1.Groups, aB v9.e2.Negative, sU32 v9.e2.Groups], .own [aB v11.e0.Negative, sU32 v11.e0.Groups, aB v11.e1.Negative, sU32 v11.e1.Groups, aB v11.e2.Negative, sU32 v11.e2.Groups]]) (l := []) (SnL.cons (Sn.pure rfl) (SnL.cons (Sn.pure rfl) SnL.nil)) (fiducialref01_Mul_ok n v7.e0 v13 v15 hc16)) callOf_nil)) <| .mu 4 <| .cal (by kernel_rfl) (by kernel_rfl) (callOf_at (by kernel_rfl)) (by kernel_rfl) <| .cal (by kernel_rfl) (by kernel_rfl) (callOf_skip (fun h _ => absurd (show (71 : Nat) = 72 from h) (by decide)) (callOf_at (by kernel_rfl))) (by kernel_rfl) <| .mu 2 ?_
   refine .done ⟨by kernel_rfl, ?_⟩
   refine .n1 [9, 10, 11, 12, 13] (mkS 60 0 [(9, aI64 v1), (10, .hp 4 0), (11, .hp 5 0), (12, .hp 6 0), (13, .hp 7 0)]) [.own (api_Pix.c a), .own (api_Pix.c b), .own (api_Pix.c c), .own (api_Pix.c d), .own [aB v7.e0.Negative, sU32 v7.e0.Groups, aB v7.e1.Negative, sU32 v7.e1.Groups, aB v7.e2.Negative, sU32 v7.e2.Groups], .own [aB v9.e0.Negative, sU32 v9.e0.Groups, aB v9.e1.Negative, sU32 v9.e1.Groups, aB v9.e2.Negative, sU32 v9.e2.Groups], .own [aB v11.e0.Negative, sU32 v11.e0.Groups, aB v11.e1.Negative, sU32 v11.e1.Groups, aB v11.e2.Negative, sU32 v11.e2.Groups], .own (api_Int.c v15)] <| .seq ?_
   obtain ⟨v17, hc18, hr⟩ := bd hr
   obtain ⟨v19, hc20, hr⟩ := bd hr
   obtain ⟨v21, hc22, hr⟩ := bd hr
   refine .regionT fine (callOf_cons (callOk_ref (H := [.own (api_Pix.c a), .own (api_Pix.c b), .own (api_Pix.c c), .own (api_Pix.c d), .own [aB v7.e0.Negative, sU32 v7.e0.Groups, aB v7.e1.Negative, sU32 v7.e1.Groups, aB v7.e2.Negative, sU32 v7.e2.Groups], .own [aB v9.e0.Negative, sU32 v9.e0.Groups, aB v9.e1.Negative, sU32 v9.e1.Groups, aB v9.e2.Negative, sU32 v9.e2.Groups], .own [aB v11.e0.Negative, sU32 v11.e0.Groups, aB v11.e1.Negative, sU32 v11.e1.Groups, aB v11.e2.Negative, sU32 v11.e2.Groups], .own (api_Int.c v15)]) (l := []) (SnL.cons (Sn.pure rfl) (SnL.cons (Sn.pure rfl) (SnL.cons (Sn.pure rfl) (SnL.cons (Sn.pure rfl) SnL.nil)))) (fiducialref09_two_c0_c2_ok n v9 v11 v17 hc18)) (callOf_cons (callOk_ref (H := [.own (api_Pix.c a), .own (api_Pix.c b), .own (api_Pix.c c), .own (api_Pix.c d), .own [aB v7.e0.Negative, sU32 v7.e0.Groups, aB v7.e1.Negative, sU32 v7.e1.Groups, aB v7.e2.Negative, sU32 v7.e2.Groups], .own [aB v9.e0.Negative, sU32 v9.e0.Groups, aB v9.e1.Negative, sU32 v9.e1.Groups, aB v9.e2.Negative, sU32 v9.e2.Groups], .own [aB v11.e0.Negative, sU32 v11.e0.Groups, aB v11.e1.Negative, sU32 v11.e1.Groups, aB v11.e2.Negative, sU32 v11.e2.Groups], .own (api_Int.c v15)]) (l := []) (SnL.cons (Sn.pure rfl) (SnL.cons (Sn.pure rfl) SnL.nil)) (fiducialref01_Mul_ok n v7.e1 v17 v19 hc20)) (callOf_cons (callOk_ref (H := [.own (api_Pix.c a), .own (api_Pix.c b), .own (api_Pix.c c), .own (api_Pix.c d), .own [aB v7.e0.Negative, sU32 v7.e0.Groups, aB v7.e1.Negative, sU32 v7.e1.Groups, aB v7.e2.Negative, sU32 v7.e2.Groups], .own [aB v9.e0.Negative, sU32 v9.e0.Groups, aB v9.e1.Negative, sU32 v9.e1.Groups, aB v9.e2.Negative, sU32 v9.e2.Groups], .own [aB v11.e0.Negative, sU32 v11.e0.Groups, aB v11.e1.Negative, sU32 v11.e1.Groups, aB v11.e2.Negative, sU32 v11.e2.Groups], .own (api_Int.c v15)]) (l := []) (SnL.cons (Sn.pure rfl) (SnL.cons (Sn.pure rfl) SnL.nil)) (fiducialref01_Sub_ok n v15 v19 v21 hc22)) callOf_nil))) <| .mu 5 <| .cal (by kernel_rfl) (by kernel_rfl) (callOf_at (by kernel_rfl)) (by kernel_rfl) <| .cal (by kernel_rfl) (by kernel_rfl) (callOf_skip (fun h _ => absurd (show (71 : Nat) = 72 from h) (by decide)) (callOf_at (by kernel_rfl))) (by kernel_rfl) <| .cal (by kernel_rfl) (by kernel_rfl) (callOf_skip (fun h _ => absurd (show (73 : Nat) = 72 from h) (by decide)) (callOf_skip (fun h _ => absurd (show (73 : Nat) = 71 from h) (by decide)) (callOf_at (by kernel_rfl)))) (by kernel_rfl) <| .mu 1 ?_
   refine .done ⟨by kernel_rfl, ?_⟩
   refine .n1 [9, 10, 11, 12, 13] (mkS 60 0 [(9, aI64 v1), (10, .hp 4 0), (11, .hp 5 0), (12, .hp 6 0), (13, .hp 7 0)]) [.own (api_Pix.c a), .own (api_Pix.c b), .own (api_Pix.c c), .own (api_Pix.c d), .own [aB v7.e0.Negative, sU32 v7.e0.Groups, aB v7.e1.Negative, sU32 v7.e1.Groups, aB v7.e2.Negative, sU32 v7.e2.Groups], .own [aB v9.e0.Negative, sU32 v9.e0.Groups, aB v9.e1.Negative, sU32 v9.e1.Groups, aB v9.e2.Negative, sU32 v9.e2.Groups], .own [aB v11.e0.Negative, sU32 v11.e0.Groups, aB v11.e1.Negative, sU32 v11.e1.Groups, aB v11.e2.Negative, sU32 v11.e2.Groups], .own (api_Int.c v21)] <| .seq ?_
   obtain ⟨v23, hc24, hr⟩ := bd hr
   obtain ⟨v25, hc26, hr⟩ := bd hr
   obtain ⟨v27, hc28, hr⟩ := bd hr
   refine .regionT fine (callOf_cons (callOk_ref (H := [.own (api_Pix.c a), .own (api_Pix.c b), .own (api_Pix.c c), .own (api_Pix.c d), .own [aB v7.e0.Negative, sU32 v7.e0.Groups, aB v7.e1.Negative, sU32 v7.e1.Groups, aB v7.e2.Negative, sU32 v7.e2.Groups], .own [aB v9.e0.Negative, sU32 v9.e0.Groups, aB v9.e1.Negative, sU32 v9.e1.Groups, aB v9.e2.Negative, sU32 v9.e2.Groups], .own [aB v11.e0.Negative, sU32 v11.e0.Groups, aB v11.e1.Negative, sU32 v11.e1.Groups, aB v11.e2.Negative, sU32 v11.e2.Groups], .own (api_Int.c v21)]) (l := []) (SnL.cons (Sn.pure rfl) (SnL.cons (Sn.pure rfl) (SnL.cons (Sn.pure rfl) (SnL.cons (Sn.pure rfl) SnL.nil)))) (fiducialref09_two_c0_c1_ok n v9 v11 v23 hc24)) (callOf_cons (callOk_ref (H := [.own (api_Pix.c a), .own (api_Pix.c b), .own (api_Pix.c c), .own (api_Pix.c d), .own [aB v7.e0.Negative, sU32 v7.e0.Groups, aB v7.e1.Negative, sU32 v7.e1.Groups, aB v7.e2.Negative, sU32 v7.e2.Groups], .own [aB v9.e0.Negative, sU32 v9.e0.Groups, aB v9.e1.Negative, sU32 v9.e1.Groups, aB v9.e2.Negative, sU32 v9.e2.Groups], .own [aB v11.e0.Negative, sU32 v11.e0.Groups, aB v11.e1.Negative, sU32 v11.e1.Groups, aB v11.e2.Negative, sU32 v11.e2.Groups], .own (api_Int.c v21)]) (l := []) (SnL.cons (Sn.pure rfl) (SnL.cons (Sn.pure rfl) SnL.nil)) (fiducialref01_Mul_ok n v7.e2 v23 v25 hc26)) (callOf_cons (callOk_ref (H := [.own (api_Pix.c a), .own (api_Pix.c b), .own (api_Pix.c c), .own (api_Pix.c d), .own [aB v7.e0.Negative, sU32 v7.e0.Groups, aB v7.e1.Negative, sU32 v7.e1.Groups, aB v7.e2.Negative, sU32 v7.e2.Groups], .own [aB v9.e0.Negative, sU32 v9.e0.Groups, aB v9.e1.Negative, sU32 v9.e1.Groups, aB v9.e2.Negative, sU32 v9.e2.Groups], .own [aB v11.e0.Negative, sU32 v11.e0.Groups, aB v11.e1.Negative, sU32 v11.e1.Groups, aB v11.e2.Negative, sU32 v11.e2.Groups], .own (api_Int.c v21)]) (l := []) (SnL.cons (Sn.pure rfl) (SnL.cons (Sn.pure rfl) SnL.nil)) (fiducialref01_Add_ok n v21 v25 v27 hc28)) callOf_nil))) <| .mu 5 <| .cal (by kernel_rfl) (by kernel_rfl) (callOf_at (by kernel_rfl)) (by kernel_rfl) <| .cal (by kernel_rfl) (by kernel_rfl) (callOf_skip (fun h _ => absurd (show (71 : Nat) = 72 from h) (by decide)) (callOf_at (by kernel_rfl))) (by kernel_rfl) <| .cal (by kernel_rfl) (by kernel_rfl) (callOf_skip (fun h _ => absurd (show (74 : Nat) = 72 from h) (by decide)) (callOf_skip (fun h _ => absurd (show (74 : Nat) = 71 from h) (by decide)) (callOf_at (by kernel_rfl)))) (by kernel_rfl) <| .mu 1 ?_
   refine .done ⟨by kernel_rfl, ?_⟩
   refine .n1 [9, 13] (mkS 60 0 [(9, aI64 v1), (13, .hp 7 0)]) [.own (api_Pix.c a), .own (api_Pix.c b), .own (api_Pix.c c), .own (api_Pix.c d), .own [aB v7.e0.Negative, sU32 v7.e0.Groups, aB v7.e1.Negative, sU32 v7.e1.Groups, aB v7.e2.Negative, sU32 v7.e2.Groups], .own [aB v9.e0.Negative, sU32 v9.e0.Groups, aB v9.e1.Negative, sU32 v9.e1.Groups, aB v9.e2.Negative, sU32 v9.e2.Groups], .own [aB v11.e0.Negative, sU32 v11.e0.Groups, aB v11.e1.Negative, sU32 v11.e1.Groups, aB v11.e2.Negative, sU32 v11.e2.Groups], .own (api_Int.c v27)] <| .seq ?_
   obtain ⟨v29, hc30, hr⟩ := bd hr
   refine .g1 fine (callOk_val (l := []) rfl (SnL.cons (Sn.pure rfl) SnL.nil) (fiducialref01_Sign_ok n v27 v29 hc30)) <| .mu 2 <| .c0 (by kernel_rfl) (callOf_at (by kernel_rfl)) <| .mu 2 <| .done <| .ret ?_
   obtain rfl := Option.some.inj hr
   exact FinQ.r1 [aI64 (wrapF .i64 (v1 * v29))]

theorem fiduciallaw09_PredicateCircle_ok (n : Nat) (l : A4 api_Pix) (r : Bool) (hr : fiduciallaw09_PredicateCircle n l = some r) : FnOk Tryz.prog 7 [.agg [.at (.int .i64 l.e0.X), .at (.int .i64 l.e0.Y), .at (.int .i64 l.e1.X), .at (.int .i64 l.e1.Y), .at (.int .i64 l.e2.X), .at (.int .i64 l.e2.Y), .at (.int .i64 l.e3.X), .at (.int .i64 l.e3.Y)]] (.at (.bool r)) := by
 unfold fiduciallaw09_PredicateCircle at hr
 refine FnOk.body fine Tryz.func7 (c := (Tryz.f7.body).getD .skip) rfl (s := mkS 52 0 [(0, .agg [aI64 l.e0.X, aI64 l.e0.Y, aI64 l.e1.X, aI64 l.e1.Y, aI64 l.e2.X, aI64 l.e2.Y, aI64 l.e3.X, aI64 l.e3.Y])]) (by kernel_rfl) (rs := [.tmp 2]) rfl ?_
 unfold Tryz.f7
 simp only [Option.getD_some]
 refine .seq <| .rn fine [1] (mkS 52 0 [(1, .hp 0 0)]) [.own [aI64 l.e0.X, aI64 l.e0.Y, aI64 l.e1.X, aI64 l.e1.Y, aI64 l.e2.X, aI64 l.e2.Y, aI64 l.e3.X, aI64 l.e3.Y]] <| .seq <| .seq ?_
 obtain ⟨v1, hc2, hr⟩ := bd hr
 refine .g1 fine (callOk_val (l := []) rfl SnL.nil (fiduciallaw09_known_ok n v1 hc2)) <| .c0 (by kernel_rfl) (callOf_at (by kernel_rfl)) <| .mu 1 <| .done <| .n1 [1, 5] (mkS 52 0 [(1, .hp 0 0), (5, aB (!v1))]) [.own [aI64 l.e0.X, aI64 l.e0.Y, aI64 l.e1.X, aI64 l.e1.Y, aI64 l.e2.X, aI64 l.e2.Y, aI64 l.e3.X, aI64 l.e3.Y]] ?_
 refine .cond (t := !v1) (by kernel_rfl) (fun hb3 => ?_) (fun hb3 => ?_)
 ·replace hr := cd_t hb3 hr
  refine .seq <| .ru fine <| .ret ?_
  obtain rfl := Option.some.inj hr
  exact FinQ.r1 [aB false]
 ·replace hr := cd_f hb3 hr
  refine .skip <| .seq ?_
  obtain ⟨v4, hc5, hr⟩ := bd hr
  refine .g1 fine (callOk_val (l := []) rfl (SnL.cons (Sn.pure rfl) (SnL.cons (Sn.pure rfl) (SnL.cons (Sn.pure rfl) (SnL.cons (Sn.pure rfl) SnL.nil)))) (predicate_Circle_ok n l.e0 l.e1 l.e2 l.e3 v4 hc5)) <| .mu 8 <| .c0 (by kernel_rfl) (callOf_at (by kernel_rfl)) <| .mu 1 <| .done <| .n1 [1, 3] (mkS 52 0 [(1, .hp 0 0), (3, aI64 v4)]) [.own [aI64 l.e0.X, aI64 l.e0.Y, aI64 l.e1.X, aI64 l.e1.Y, aI64 l.e2.X, aI64 l.e2.Y, aI64 l.e3.X, aI64 l.e3.Y]] <| .seq ?_
  obtain ⟨v6, hc7, hr⟩ := bd hr
  rcases Bool.eq_false_or_eq_true ((v4 : Int) == v6) with hb8 | hb8
  ·replace hr := cd_t hb8 hr
   obtain ⟨v9, hc10, hr⟩ := bd hr
   rcases Bool.eq_false_or_eq_true ((v9 : Int) == v4) with hb11 | hb11
   ·replace hr := cd_t hb11 hr
    obtain ⟨v12, hc13, hr⟩ := bd hr
    refine .region fine (callOf_cons (callOk_val (H := [.own [aI64 l.e0.X, aI64 l.e0.Y, aI64 l.e1.X, aI64 l.e1.Y, aI64 l.e2.X, aI64 l.e2.Y, aI64 l.e3.X, aI64 l.e3.Y]]) (l := []) rfl (SnL.cons (Sn.pure rfl) (SnL.cons (Sn.pure rfl) (SnL.cons (Sn.pure rfl) (SnL.cons (Sn.pure rfl) SnL.nil)))) (fiducialref09_Circle_ok n l.e0 l.e1 l.e2 l.e3 v6 hc7)) (callOf_cons (callOk_val (H := [.own [aI64 l.e0.X, aI64 l.e0.Y, aI64 l.e1.X, aI64 l.e1.Y, aI64 l.e2.X, aI64 l.e2.Y, aI64 l.e3.X, aI64 l.e3.Y]]) (l := []) rfl (SnL.cons (Sn.pure rfl) (SnL.cons (Sn.pure rfl) (SnL.cons (Sn.pure rfl) (SnL.cons (Sn.pure rfl) SnL.nil)))) (predicate_Circle_ok n l.e1 l.e0 l.e2 l.e3 v9 hc10)) (callOf_cons (callOk_val (H := [.own [aI64 l.e0.X, aI64 l.e0.Y, aI64 l.e1.X, aI64 l.e1.Y, aI64 l.e2.X, aI64 l.e2.Y, aI64 l.e3.X, aI64 l.e3.Y]]) (l := []) rfl (SnL.cons (Sn.pure rfl) (SnL.cons (Sn.pure rfl) (SnL.cons (Sn.pure rfl) (SnL.cons (Sn.pure rfl) SnL.nil)))) (predicate_Circle_ok n l.e1 l.e2 l.e0 l.e3 v12 hc13)) callOf_nil))) <| .mu 9 <| .c0 (by kernel_rfl) (callOf_at (by kernel_rfl)) <| .p0 (v := aB true) (Eq.trans (b := some (.pure (aB ((v4 : Int) == v6)))) (by kernel_rfl) (by rw [hb8])) <| .mu 9 <| .cal (by kernel_rfl) (by kernel_rfl) (callOf_skip (fun h _ => absurd (show (33 : Nat) = 34 from h) (by decide)) (callOf_at (by kernel_rfl))) <| .mu 1 <| .pure (v := aB true) (by kernel_rfl) (Eq.trans (b := some (.pure (aB ((v9 : Int) == v4)))) (by kernel_rfl) (by rw [hb11])) <| .mu 10 <| .cal (by kernel_rfl) (by kernel_rfl) (callOf_skip (fun h _ => absurd (show (33 : Nat) = 34 from h) (by decide)) (callOf_skip (fun _ h => by obtain ⟨e0, e1, e2, e3⟩ := predicate_Circle_inj h; rw [show v12 = v9 from Option.some.inj (hc13.symm.trans ((show predicate_Circle n l.e1 l.e2 l.e0 l.e3 = predicate_Circle n l.e1 l.e0 l.e2 l.e3 from (congr (congr (congr (congr rfl e0) e1) e2) e3)).trans hc10))]) (callOf_at (by kernel_rfl)))) <| .mu 4 <| .done <| .ret ?_
    obtain rfl := Option.some.inj hr
    exact FinQ.r1 [aB ((v12 : Int) == v4)]
   ·replace hr := cd_f hb11 hr
    refine .region fine (callOf_cons (callOk_val (H := [.own [aI64 l.e0.X, aI64 l.e0.Y, aI64 l.e1.X, aI64 l.e1.Y, aI64 l.e2.X, aI64 l.e2.Y, aI64 l.e3.X, aI64 l.e3.Y]]) (l := []) rfl (SnL.cons (Sn.pure rfl) (SnL.cons (Sn.pure rfl) (SnL.cons (Sn.pure rfl) (SnL.cons (Sn.pure rfl) SnL.nil)))) (fiducialref09_Circle_ok n l.e0 l.e1 l.e2 l.e3 v6 hc7)) (callOf_cons (callOk_val (H := [.own [aI64 l.e0.X, aI64 l.e0.Y, aI64 l.e1.X, aI64 l.e1.Y, aI64 l.e2.X, aI64 l.e2.Y, aI64 l.e3.X, aI64 l.e3.Y]]) (l := []) rfl (SnL.cons (Sn.pure rfl) (SnL.cons (Sn.pure rfl) (SnL.cons (Sn.pure rfl) (SnL.cons (Sn.pure rfl) SnL.nil)))) (predicate_Circle_ok n l.e1 l.e0 l.e2 l.e3 v9 hc10)) callOf_nil)) <| .mu 9 <| .c0 (by kernel_rfl) (callOf_at (by kernel_rfl)) <| .p0 (v := aB true) (Eq.trans (b := some (.pure (aB ((v4 : Int) == v6)))) (by kernel_rfl) (by rw [hb8])) <| .mu 9 <| .cal (by kernel_rfl) (by kernel_rfl) (callOf_skip (fun h _ => absurd (show (33 : Nat) = 34 from h) (by decide)) (callOf_at (by kernel_rfl))) <| .mu 1 <| .pure (v := aB false) (by kernel_rfl) (Eq.trans (b := some (.pure (aB ((v9 : Int) == v4)))) (by kernel_rfl) (by rw [hb11])) <| .mu 15 <| .done <| .ret ?_
    obtain rfl := Option.some.inj hr
    exact FinQ.r1 [aB false]
  ·replace hr := cd_f hb8 hr
   refine .g1 fine (callOk_val (l := []) rfl (SnL.cons (Sn.pure rfl) (SnL.cons (Sn.pure rfl) (SnL.cons (Sn.pure rfl) (SnL.cons (Sn.pure rfl) SnL.nil)))) (fiducialref09_Circle_ok n l.e0 l.e1 l.e2 l.e3 v6 hc7)) <| .mu 9 <| .c0 (by kernel_rfl) (callOf_at (by kernel_rfl)) <| .p0 (v := aB false) (Eq.trans (b := some (.pure (aB ((v4 : Int) == v6)))) (by kernel_rfl) (by rw [hb8])) <| .mu 27 <| .done <| .ret ?_
   obtain rfl := Option.some.inj hr
   exact FinQ.r1 [aB false]
end Go.L
