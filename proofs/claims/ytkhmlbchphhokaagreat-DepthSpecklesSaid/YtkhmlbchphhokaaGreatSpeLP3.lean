/- The program's functions compute what the plain Lean programs compute, part 3; printed by a program. -/
import Derived.Test.YtkhmlbchphhokaaGreatSpeLP2
import Derived.Test.YtkhmlbchphhokaaGreatL0maifdjme
import Derived.Test.YtkhmlbchphhokaaGreatSmalleafclaai
import Derived.Test.YtkhmlbchphhokaaGreatChecked
import Derived.KernelRfl
set_option linter.unusedVariables false
set_option linter.unusedSimpArgs false
set_option maxRecDepth 100000
set_option maxHeartbeats 4000000
namespace Go.L
open Go Go.Eng Go.Proofs
theorem fiducialref01_Divide_ok (n : Nat) (x' : api_Int) (y : api_Int) (r : api_Int × api_Int × Int) (hr : fiducialref01_Divide n x' y = some r) : FnOk Tryz.prog 229 [.agg (api_Int.c x'), .agg (api_Int.c y)] (.tup [.agg (api_Int.c r.1), .agg (api_Int.c r.2.1), aI64 r.2.2]) := by
 unfold fiducialref01_Divide at hr
 refine FnOk.bd fine Tryz.func229 [.cell 4 72, .cell 5 72, .tmp 6] ?_
 unfold Tryz.f229
 simp only [Option.getD_some]
 refine .seq <| .r2 fine 54 [(2, .hp 0 0), (3, .hp 1 0), (4, .hp 2 0), (5, .hp 3 0)] [.own (api_Int.c x'), .own (api_Int.c y), .own [aB false, nS], .own [aB false, nS]] <| .seq ?_
 obtain ⟨v1, hc2, v3, hc4, hr⟩ := bd2 hr
 refine .tn fine (ca1 (ok0 (fiducialref01_Value_ok n x' v1 hc2)) (ca3 (ok0 (fiducialref01_Value_ok n y v3 hc4)))) <| .mu 1 <| .ca cf0 <| .mu 1 <| .ca (cfA (fun h => by rw [sv hc4 hc2 (fiducialref01_Value_cg n h)]) cf0) <| .mu 2 ?_
 refine .done ⟨by kernel_rfl, ?_⟩
 refine .n2 54 [(2, .hp 0 0), (3, .hp 1 0), (4, .hp 2 0), (5, .hp 3 0)] [.own (api_Int.c v1), .own (api_Int.c v3), .own [aB false, nS], .own [aB false, nS]] <| .seq <| .seq <| .r3 fine 54 [(2, .hp 0 0), (3, .hp 1 0), (4, .hp 2 0), (5, .hp 3 0), (17, aB (((v3.Groups.length : Int) : Int) == 0))] ?_
 refine .cd hr (fun hb5 hr => ?_) (fun hb5 hr => ?_)
 ·refine .seq <| .r3 fine 54 [(4, .hp 2 0), (5, .hp 3 0), (6, aI64 14)] <| .ret ?_
  obtain rfl := Option.some.inj hr
  exact FinQ.ret (vs := [.agg [aB false, nS], .agg [aB false, nS], aI64 14]) (by kernel_rfl) (Sn.tup (SnL.cons (Sn.agg (SnL.cons (Sn.pure rfl) (SnL.cons Sn.nilsl SnL.nil))) (SnL.cons (Sn.agg (SnL.cons (Sn.pure rfl) (SnL.cons Sn.nilsl SnL.nil))) (SnL.cons (Sn.pure rfl) SnL.nil))))
 ·refine .skip <| .seq ?_
  obtain ⟨v6, hc7, hr⟩ := bd hr
  refine .g1 fine (ok0 (fiducialref01_parts_ok n v1.Groups v3.Groups v6 hc7)) <| .mu 4 <| .ca cf0 <| .mu 5 <| .done <| .n2 54 [(2, .hp 0 0), (3, .hp 1 0), (4, .hp 2 0), (5, .hp 3 0), (7, sU32 v6.1), (8, sU32 v6.2)] [.own (api_Int.c v1), .own (api_Int.c v3), .own [aB false, nS], .own [aB false, nS]] <| .seq ?_
  obtain ⟨v8, hc9, hr⟩ := bd hr
  refine .g1 fine (ok0 (fiducialref01_made_ok n (v1.Negative != v3.Negative) v6.1 v8 hc9)) <| .mu 6 <| .ca cf0 <| .mu 2 <| .done <| .n2 54 [(2, .hp 0 0), (3, .hp 1 0), (4, .hp 2 0), (5, .hp 3 0), (8, sU32 v6.2), (9, .hp 4 0)] [.own (api_Int.c v1), .own (api_Int.c v3), .own [aB false, nS], .own [aB false, nS], .own (api_Int.c v8)] <| .seq <| .seq ?_
  rcases Bool.eq_false_or_eq_true (v1.Negative != v3.Negative) with hb10 | hb10
  ·replace hr := cd_t hb10 hr
   refine .r0 fine <| .mu 4 <| .p0 (v := aB true) (Eq.trans (b := some (.pure (aB (v1.Negative != v3.Negative)))) (by kernel_rfl) (by rw [hb10])) <| .mu 5 <| .done <| .n2 54 [(2, .hp 0 0), (3, .hp 1 0), (4, .hp 2 0), (5, .hp 3 0), (9, .hp 4 0), (44, aB (decide ((v6.2.length : Int) > 0)))] [.own (api_Int.c v1), .own (api_Int.c v3), .own [aB false, nS], .own [aB false, nS], .own (api_Int.c v8)] ?_
   refine .cd hr (fun hb11 hr => ?_) (fun hb11 hr => ?_)
   ·obtain ⟨v12, hc13, v14, hc15, hr⟩ := bd2 hr
    refine .tn fine (ca1 (ok0 (fiducialref01_Of_ok n 1 v12 hc13)) (ca3 (ok0 (fiducialref01_Sub_ok n v8 v12 v14 hc15)))) <| .mu 1 <| .ca cf0 <| .ca (cfF cf0) <| .mu 1 ?_
    refine .done ⟨by kernel_rfl, ?_⟩
    refine .n2 54 [(2, .hp 0 0), (3, .hp 1 0), (4, .hp 2 0), (5, .hp 3 0), (9, .hp 4 0)] [.own (api_Int.c v1), .own (api_Int.c v3), .own [aB false, nS], .own [aB false, nS], .own (api_Int.c v14)] <| .seq ?_
    obtain ⟨v16, hc17, v18, hc19, hr⟩ := bd2 hr
    refine .tn fine (ca1 (ok0 (fiducialref01_Mul_ok n v14 v3 v16 hc17)) (ca3 (ok0 (fiducialref01_Sub_ok n v1 v16 v18 hc19)))) <| .mu 4 <| .ca cf0 <| .ca (cfF cf0) <| .mu 3 ?_
    refine .done ⟨by kernel_rfl, ?_⟩
    refine .n2 54 [(4, .hp 2 0), (5, .hp 3 0), (6, aI64 0)] [.own (api_Int.c v1), .own (api_Int.c v3), .own (api_Int.c v14), .own (api_Int.c v18), .own (api_Int.c v14)] <| .ret ?_
    obtain rfl := Option.some.inj hr
    exact FinQ.ret (vs := [.agg (api_Int.c v14), .agg (api_Int.c v18), aI64 0]) (by kernel_rfl) (Sn.tup (SnL.cons (Sn.pure rfl) (SnL.cons (Sn.pure rfl) (SnL.cons (Sn.pure rfl) SnL.nil))))
   ·refine .skip <| .seq ?_
    obtain ⟨v20, hc21, v22, hc23, hr⟩ := bd2 hr
    refine .tn fine (ca1 (ok0 (fiducialref01_Mul_ok n v8 v3 v20 hc21)) (ca3 (ok0 (fiducialref01_Sub_ok n v1 v20 v22 hc23)))) <| .mu 4 <| .ca cf0 <| .ca (cfF cf0) <| .mu 3 ?_
    refine .done ⟨by kernel_rfl, ?_⟩
    refine .n2 54 [(4, .hp 2 0), (5, .hp 3 0), (6, aI64 0)] [.own (api_Int.c v1), .own (api_Int.c v3), .own (api_Int.c v8), .own (api_Int.c v22), .own (api_Int.c v8)] <| .ret ?_
    obtain rfl := Option.some.inj hr
    exact FinQ.ret (vs := [.agg (api_Int.c v8), .agg (api_Int.c v22), aI64 0]) (by kernel_rfl) (Sn.tup (SnL.cons (Sn.pure rfl) (SnL.cons (Sn.pure rfl) (SnL.cons (Sn.pure rfl) SnL.nil))))
  ·replace hr := cd_f hb10 hr
   refine .r0 fine <| .mu 4 <| .p0 (v := aB false) (Eq.trans (b := some (.pure (aB (v1.Negative != v3.Negative)))) (by kernel_rfl) (by rw [hb10])) <| .mu 5 <| .done <| .n2 54 [(2, .hp 0 0), (3, .hp 1 0), (4, .hp 2 0), (5, .hp 3 0), (9, .hp 4 0), (44, aB false)] [.own (api_Int.c v1), .own (api_Int.c v3), .own [aB false, nS], .own [aB false, nS], .own (api_Int.c v8)] <| .cF (by kernel_rfl) <| .skip <| .seq ?_
   obtain ⟨v24, hc25, v26, hc27, hr⟩ := bd2 hr
   refine .tn fine (ca1 (ok0 (fiducialref01_Mul_ok n v8 v3 v24 hc25)) (ca3 (ok0 (fiducialref01_Sub_ok n v1 v24 v26 hc27)))) <| .mu 4 <| .ca cf0 <| .ca (cfF cf0) <| .mu 3 ?_
   refine .done ⟨by kernel_rfl, ?_⟩
   refine .n2 54 [(4, .hp 2 0), (5, .hp 3 0), (6, aI64 0)] [.own (api_Int.c v1), .own (api_Int.c v3), .own (api_Int.c v8), .own (api_Int.c v26), .own (api_Int.c v8)] <| .ret ?_
   obtain rfl := Option.some.inj hr
   exact FinQ.ret (vs := [.agg (api_Int.c v8), .agg (api_Int.c v26), aI64 0]) (by kernel_rfl) (Sn.tup (SnL.cons (Sn.pure rfl) (SnL.cons (Sn.pure rfl) (SnL.cons (Sn.pure rfl) SnL.nil))))

theorem fiducialref02_reduced_ok (n : Nat) (num : api_Int) (den : api_Int) (r : api_Rat) (hr : fiducialref02_reduced n num den = some r) : FnOk Tryz.prog 222 [.agg (api_Int.c num), .agg (api_Int.c den)] (.agg (api_Rat.c r)) := by
 unfold fiducialref02_reduced at hr
 refine FnOk.bd fine Tryz.func222 [.cell 4 74] ?_
 unfold Tryz.f222
 simp only [Option.getD_some]
 refine .seq <| .r2 fine 37 [(2, .hp 0 0), (3, .hp 1 0), (4, .hp 2 0)] [.own (api_Int.c num), .own (api_Int.c den), .own [aB false, nS, aB false, nS]] <| .seq ?_
 obtain ⟨v1, hc2, hr⟩ := bd hr
 refine .g1 fine (ok0 (fiducialref01_Gcd_ok n num den v1 hc2)) <| .mu 2 <| .ca cf0 <| .mu 2 <| .done <| .n2 37 [(2, .hp 0 0), (3, .hp 1 0), (4, .hp 2 0), (5, .hp 3 0)] [.own (api_Int.c num), .own (api_Int.c den), .own [aB false, nS, aB false, nS], .own (api_Int.c v1)] <| .seq <| .seq ?_
 obtain ⟨v3, hc4, hr⟩ := bd hr
 refine .g1 fine (ok0 (fiducialref01_Sign_ok n den v3 hc4)) <| .mu 1 <| .ca cf0 <| .mu 1 <| .done <| .n2 37 [(2, .hp 0 0), (3, .hp 1 0), (4, .hp 2 0), (5, .hp 3 0), (17, aB (decide (v3 < 0)))] [.own (api_Int.c num), .own (api_Int.c den), .own [aB false, nS, aB false, nS], .own (api_Int.c v1)] ?_
 refine .cd hr (fun hb5 hr => ?_) (fun hb5 hr => ?_)
 ·obtain ⟨v6, hc7, hr⟩ := bd hr
  refine .g1 fine (ok0 (fiducialref01_Neg_ok n v1 v6 hc7)) <| .mu 1 <| .ca cf0 <| .mu 1 <| .done <| .n2 37 [(2, .hp 0 0), (3, .hp 1 0), (4, .hp 2 0), (5, .hp 3 0)] [.own (api_Int.c num), .own (api_Int.c den), .own [aB false, nS, aB false, nS], .own (api_Int.c v6)] <| .seq ?_
  obtain ⟨v8, hc9, hr⟩ := bd hr
  refine .g1 fine (ok0 (fiducialref01_Divide_ok n num v6 v8 hc9)) <| .mu 2 <| .ca cf0 <| .mu 9 <| .done <| .n2 37 [(3, .hp 1 0), (4, .hp 2 0), (5, .hp 3 0), (6, .hp 4 0)] [.own (api_Int.c num), .own (api_Int.c den), .own [aB false, nS, aB false, nS], .own (api_Int.c v6), .own (api_Int.c v8.1), .own (api_Int.c v8.2.1)] <| .seq ?_
  obtain ⟨v10, hc11, hr⟩ := bd hr
  refine .g1 fine (ok0 (fiducialref01_Divide_ok n den v6 v10 hc11)) <| .mu 2 <| .ca cf0 <| .mu 9 <| .done <| .n2 37 [(4, .hp 2 0), (6, .hp 4 0), (9, .hp 6 0)] [.own (api_Int.c num), .own (api_Int.c den), .own [aB false, nS, aB false, nS], .own (api_Int.c v6), .own (api_Int.c v8.1), .own (api_Int.c v8.2.1), .own (api_Int.c v10.1), .own (api_Int.c v10.2.1)] <| .seq <| .r2 fine 37 [(4, .hp 2 0)] [.own (api_Int.c num), .own (api_Int.c den), .own [aB v8.1.Negative, sU32 v8.1.Groups, aB v10.1.Negative, sU32 v10.1.Groups], .own (api_Int.c v6), .own (api_Int.c v8.1), .own (api_Int.c v8.2.1), .own (api_Int.c v10.1), .own (api_Int.c v10.2.1)] <| .ret ?_
  obtain rfl := Option.some.inj hr
  exact FinQ.r1 [.agg [aB v8.1.Negative, sU32 v8.1.Groups, aB v10.1.Negative, sU32 v10.1.Groups]]
 ·refine .skip <| .seq ?_
  obtain ⟨v12, hc13, hr⟩ := bd hr
  refine .g1 fine (ok0 (fiducialref01_Divide_ok n num v1 v12 hc13)) <| .mu 2 <| .ca cf0 <| .mu 9 <| .done <| .n2 37 [(3, .hp 1 0), (4, .hp 2 0), (5, .hp 3 0), (6, .hp 4 0)] [.own (api_Int.c num), .own (api_Int.c den), .own [aB false, nS, aB false, nS], .own (api_Int.c v1), .own (api_Int.c v12.1), .own (api_Int.c v12.2.1)] <| .seq ?_
  obtain ⟨v14, hc15, hr⟩ := bd hr
  refine .g1 fine (ok0 (fiducialref01_Divide_ok n den v1 v14 hc15)) <| .mu 2 <| .ca cf0 <| .mu 9 <| .done <| .n2 37 [(4, .hp 2 0), (6, .hp 4 0), (9, .hp 6 0)] [.own (api_Int.c num), .own (api_Int.c den), .own [aB false, nS, aB false, nS], .own (api_Int.c v1), .own (api_Int.c v12.1), .own (api_Int.c v12.2.1), .own (api_Int.c v14.1), .own (api_Int.c v14.2.1)] <| .seq <| .r2 fine 37 [(4, .hp 2 0)] [.own (api_Int.c num), .own (api_Int.c den), .own [aB v12.1.Negative, sU32 v12.1.Groups, aB v14.1.Negative, sU32 v14.1.Groups], .own (api_Int.c v1), .own (api_Int.c v12.1), .own (api_Int.c v12.2.1), .own (api_Int.c v14.1), .own (api_Int.c v14.2.1)] <| .ret ?_
  obtain rfl := Option.some.inj hr
  exact FinQ.r1 [.agg [aB v12.1.Negative, sU32 v12.1.Groups, aB v14.1.Negative, sU32 v14.1.Groups]]

theorem fiducialref02_Add_ok (n : Nat) (x' : api_Rat) (y : api_Rat) (r : api_Rat) (hr : fiducialref02_Add n x' y = some r) : FnOk Tryz.prog 193 [.agg (api_Rat.c x'), .agg (api_Rat.c y)] (.agg (api_Rat.c r)) := by
 unfold fiducialref02_Add at hr
 refine FnOk.bd fine Tryz.func193 [.cell 4 74] ?_
 unfold Tryz.f193
 simp only [Option.getD_some]
 refine .seq <| .r2 fine 28 [(2, .hp 0 0), (3, .hp 1 0), (4, .hp 2 0)] [.own (api_Rat.c x'), .own (api_Rat.c y), .own [aB false, nS, aB false, nS]] <| .seq ?_
 obtain ⟨v1, hc2, hr⟩ := bd hr
 refine .g1 fine (ok0 (fiducialref02_Value_ok n x' v1 hc2)) <| .mu 1 <| .ca cf0 <| .mu 2 <| .done <| .n2 28 [(3, .hp 1 0), (4, .hp 2 0), (5, .hp 3 0)] [.own (api_Rat.c x'), .own (api_Rat.c y), .own [aB false, nS, aB false, nS], .own (api_Rat.c v1)] <| .seq ?_
 obtain ⟨v3, hc4, hr⟩ := bd hr
 refine .g1 fine (ok0 (fiducialref02_Value_ok n y v3 hc4)) <| .mu 1 <| .ca cf0 <| .mu 2 <| .done <| .n2 28 [(4, .hp 2 0), (5, .hp 3 0), (6, .hp 4 0)] [.own (api_Rat.c x'), .own (api_Rat.c y), .own [aB false, nS, aB false, nS], .own (api_Rat.c v1), .own (api_Rat.c v3)] <| .seq ?_
 obtain ⟨v5, hc6, v7, hc8, v9, hc10, hr⟩ := bd3 hr
 obtain ⟨v11, hc12, v13, hc14, hr⟩ := bd2 hr
 refine .tn fine (ca1 (ok0 (fiducialref01_Mul_ok n v1.Num v3.Den v5 hc6)) (ca1 (ok0 (fiducialref01_Mul_ok n v3.Num v1.Den v7 hc8)) (ca1 (ok0 (fiducialref01_Add_ok n v5 v7 v9 hc10)) (ca1 (ok0 (fiducialref01_Mul_ok n v1.Den v3.Den v11 hc12)) (ca3 (ok0 (fiducialref02_reduced_ok n v9 v11 v13 hc14))))))) <| .mu 4 <| .ca cf0 <| .mu 4 <| .ca (cfA (fun h => by rw [sv hc8 hc6 (fiducialref01_Mul_cg n h)]) cf0) <| .ca (cfF (cfF cf0)) <| .mu 4 <| .ca (cfA (fun h => by rw [sv hc12 hc6 (fiducialref01_Mul_cg n h)]) (cfA (fun h => by rw [sv hc12 hc8 (fiducialref01_Mul_cg n h)]) (cfF cf0))) <| .ca (cfF (cfF (cfF (cfF cf0)))) <| .mu 1 ?_
 refine .done ⟨by kernel_rfl, ?_⟩
 refine .n2 28 [(4, .hp 2 0)] [.own (api_Rat.c x'), .own (api_Rat.c y), .own (api_Rat.c v13), .own (api_Rat.c v1), .own (api_Rat.c v3)] <| .ret ?_
 obtain rfl := Option.some.inj hr
 exact FinQ.r1 [.agg (api_Rat.c v13)]

theorem fiducialref02_Sub_ok (n : Nat) (x' : api_Rat) (y : api_Rat) (r : api_Rat) (hr : fiducialref02_Sub n x' y = some r) : FnOk Tryz.prog 141 [.agg (api_Rat.c x'), .agg (api_Rat.c y)] (.agg (api_Rat.c r)) := by
 unfold fiducialref02_Sub at hr
 refine FnOk.bd fine Tryz.func141 [.cell 4 74] ?_
 unfold Tryz.f141
 simp only [Option.getD_some]
 refine .seq <| .r2 fine 9 [(2, .hp 0 0), (3, .hp 1 0), (4, .hp 2 0)] [.own (api_Rat.c x'), .own (api_Rat.c y), .own [aB false, nS, aB false, nS]] <| .seq ?_
 obtain ⟨v1, hc2, v3, hc4, hr⟩ := bd2 hr
 refine .tn fine (ca1 (ok0 (fiducialref02_Neg_ok n y v1 hc2)) (ca3 (ok0 (fiducialref02_Add_ok n x' v1 v3 hc4)))) <| .mu 2 <| .ca cf0 <| .ca (cfF cf0) <| .mu 1 ?_
 refine .done ⟨by kernel_rfl, ?_⟩
 refine .n2 9 [(4, .hp 2 0)] [.own (api_Rat.c x'), .own (api_Rat.c y), .own (api_Rat.c v3)] <| .ret ?_
 obtain rfl := Option.some.inj hr
 exact FinQ.r1 [.agg (api_Rat.c v3)]

theorem fiducialref02_Sign_ok (n : Nat) (x' : api_Rat) (r : Int) (hr : fiducialref02_Sign n x' = some r) : FnOk Tryz.prog 140 [.agg (api_Rat.c x')] (aI64 r) := by
 unfold fiducialref02_Sign at hr
 refine FnOk.bd fine Tryz.func140 [.tmp 2] ?_
 unfold Tryz.f140
 simp only [Option.getD_some]
 refine .seq <| .r2 fine 7 [(1, .hp 0 0)] [.own (api_Rat.c x')] <| .seq ?_
 obtain ⟨v1, hc2, v3, hc4, hr⟩ := bd2 hr
 refine .gn fine (ca1 (ok0 (fiducialref02_Value_ok n x' v1 hc2)) (ca3 (ok0 (fiducialref01_Sign_ok n v1.Num v3 hc4)))) <| .mu 1 <| .ca cf0 <| .mu 1 <| .ca (cfF cf0) <| .mu 1 <| .done <| .ret ?_
 obtain rfl := Option.some.inj hr
 exact FinQ.r1 [aI64 v3]

theorem fiducialref02_Compare_ok (n : Nat) (x' : api_Rat) (y : api_Rat) (r : Int) (hr : fiducialref02_Compare n x' y = some r) : FnOk Tryz.prog 99 [.agg (api_Rat.c x'), .agg (api_Rat.c y)] (aI64 r) := by
 unfold fiducialref02_Compare at hr
 refine FnOk.bd fine Tryz.func99 [.tmp 4] ?_
 unfold Tryz.f99
 simp only [Option.getD_some]
 refine .seq <| .r2 fine 9 [(2, .hp 0 0), (3, .hp 1 0)] [.own (api_Rat.c x'), .own (api_Rat.c y)] <| .seq ?_
 obtain ⟨v1, hc2, v3, hc4, hr⟩ := bd2 hr
 refine .gn fine (ca1 (ok0 (fiducialref02_Sub_ok n x' y v1 hc2)) (ca3 (ok0 (fiducialref02_Sign_ok n v1 v3 hc4)))) <| .mu 2 <| .ca cf0 <| .ca (cfF cf0) <| .mu 1 <| .done <| .ret ?_
 obtain rfl := Option.some.inj hr
 exact FinQ.r1 [aI64 v3]

theorem fiducialref02_Same_ok (n : Nat) (x' : api_Rat) (y : api_Rat) (r : Bool) (hr : fiducialref02_Same n x' y = some r) : FnOk Tryz.prog 53 [.agg (api_Rat.c x'), .agg (api_Rat.c y)] (aB r) := by
 unfold fiducialref02_Same at hr
 refine FnOk.bd fine Tryz.func53 [.tmp 4] ?_
 unfold Tryz.f53
 simp only [Option.getD_some]
 refine .seq <| .r2 fine 17 [(2, .hp 0 0), (3, .hp 1 0)] [.own (api_Rat.c x'), .own (api_Rat.c y)] <| .seq ?_
 obtain ⟨v1, hc2, hr⟩ := bd hr
 rcases Bool.eq_false_or_eq_true v1 with hb3 | hb3
 ·subst hb3
  replace hr := cd_t rfl hr
  obtain ⟨v4, hc5, hr⟩ := bd hr
  rcases Bool.eq_false_or_eq_true v4 with hb6 | hb6
  ·subst hb6
   replace hr := cd_t rfl hr
   obtain ⟨v7, hc8, hr⟩ := bd hr
   refine .gn fine (ca1 (ok0 (fiducialref02_Valid_ok n x' true hc2)) (ca1 (ok0 (fiducialref02_Valid_ok n y true hc5)) (ca3 (ok0 (fiducialref02_Compare_ok n x' y v7 hc8))))) <| .mu 1 <| .ca cf0 <| .mu 2 <| .ca (cfA (fun h => by rw [sv hc5 hc2 (fiducialref02_Valid_cg n h)]) cf0) <| .mu 4 <| .ca (cfF (cfF cf0)) <| .mu 3 <| .done <| .ret ?_
   obtain rfl := Option.some.inj hr
   exact FinQ.r1 [aB ((v7 : Int) == 0)]
  ·subst hb6
   replace hr := cd_f rfl hr
   refine .gn fine (ca1 (ok0 (fiducialref02_Valid_ok n x' true hc2)) (ca3 (ok0 (fiducialref02_Valid_ok n y false hc5)))) <| .mu 1 <| .ca cf0 <| .mu 2 <| .ca (cfA (fun h => by rw [sv hc5 hc2 (fiducialref02_Valid_cg n h)]) cf0) <| .mu 8 <| .done <| .ret ?_
   obtain rfl := Option.some.inj hr
   exact FinQ.r1 [aB false]
 ·subst hb3
  replace hr := cd_f rfl hr
  refine .g1 fine (ok0 (fiducialref02_Valid_ok n x' false hc2)) <| .mu 1 <| .ca cf0 <| .mu 11 <| .done <| .ret ?_
  obtain rfl := Option.some.inj hr
  exact FinQ.r1 [aB false]

theorem fiduciallaw46_known_ok (n : Nat) (r : Bool) (hr : fiduciallaw46_known n = some r) : FnOk Tryz.prog 13 [] (aB r) := by
 unfold fiduciallaw46_known at hr
 refine FnOk.bd fine Tryz.func13 [.tmp 0] ?_
 unfold Tryz.f13
 simp only [Option.getD_some]
 refine .seq <| .r3 fine 65 [] <| .seq ?_
 obtain ⟨v1, hc2, v3, hc4, v5, hc6, hr⟩ := bd3 hr
 refine .gn fine (ca2 [.own [aI64 0, aI64 1, aI64 1, aI64 2]] (callOk_ref (args := [.hs 0 0 4 1]) (l := [0]) (SnL.cons (Sn.hs rfl (.inl rfl) (SnC.cons (Sn.pure rfl) (SnC.cons (Sn.pure rfl) (SnC.cons (Sn.pure rfl) (SnC.cons (Sn.pure rfl) SnC.nil)))) (fun h => nomatch h)) SnL.nil) (fiduciallaw46_line_ok n [(0 : Int), (1 : Int), (1 : Int), (2 : Int)] v1 hc2)) (ca2 [.fix [aI64 0, aI64 1, aI64 1, aI64 2], .own [aI64 1, aI64 1, aI64 (-1), aI64 (-1)]] (callOk_ref (args := [.hs 1 0 4 1]) (l := [1]) (SnL.cons (Sn.hs rfl (.inl rfl) (SnC.cons (Sn.pure rfl) (SnC.cons (Sn.pure rfl) (SnC.cons (Sn.pure rfl) (SnC.cons (Sn.pure rfl) SnC.nil)))) (fun h => nomatch h)) SnL.nil) (fiduciallaw46_line_ok n [(1 : Int), (1 : Int), ((-1) : Int), ((-1) : Int)] v3 hc4)) (ca4 [.fix [aI64 0, aI64 1, aI64 1, aI64 2], .fix [aI64 1, aI64 1, aI64 (-1), aI64 (-1)]] (ok0 (depth_Consistent_ok n v1 v3 0 v5 hc6))))) <| .mu 1 <| .ca cf0 <| .mu 1 <| .ca (cfH 0 2 1 cf0) <| .ca (cfF (cfF cf0)) <| .mu 6 <| .done <| .n2 65 [(1, .hp 2 0), (2, aI64 v5.2)] [.fix [aI64 0, aI64 1, aI64 1, aI64 2], .fix [aI64 1, aI64 1, aI64 (-1), aI64 (-1)], .own (api_Field.c v5.1)] <| .seq ?_
 obtain ⟨v7, hc8, v9, hc10, hr⟩ := bd2 hr
 refine .gn fine (ca2 [.fix [aI64 0, aI64 1, aI64 1, aI64 2], .fix [aI64 1, aI64 1, aI64 (-1), aI64 (-1)], .own (api_Field.c v5.1), .own [aI64 0, aI64 1, aI64 1, aI64 2]] (callOk_ref (args := [.hs 3 0 4 1]) (l := [3]) (SnL.cons (Sn.hs rfl (.inl rfl) (SnC.cons (Sn.pure rfl) (SnC.cons (Sn.pure rfl) (SnC.cons (Sn.pure rfl) (SnC.cons (Sn.pure rfl) SnC.nil)))) (fun h => nomatch h)) SnL.nil) (fiduciallaw46_line_ok n [(0 : Int), (1 : Int), (1 : Int), (2 : Int)] v7 hc8)) (ca4 [.fix [aI64 0, aI64 1, aI64 1, aI64 2], .fix [aI64 1, aI64 1, aI64 (-1), aI64 (-1)], .own (api_Field.c v5.1), .fix [aI64 0, aI64 1, aI64 1, aI64 2]] (ok0 (depth_Turn_ok n v7 v9 hc10)))) <| .mu 1 <| .ca cf0 <| .ca (cfF cf0) <| .mu 6 <| .done <| .n2 65 [(1, .hp 2 0), (2, aI64 v5.2), (3, .hp 4 0), (4, aI64 v9.2)] [.fix [aI64 0, aI64 1, aI64 1, aI64 2], .fix [aI64 1, aI64 1, aI64 (-1), aI64 (-1)], .own (api_Field.c v5.1), .fix [aI64 0, aI64 1, aI64 1, aI64 2], .own (api_Field.c v9.1)] <| .seq ?_
 obtain ⟨v11, hc12, v13, hc14, hr⟩ := bd2 hr
 refine .gn fine (ca2 [.fix [aI64 0, aI64 1, aI64 1, aI64 2], .fix [aI64 1, aI64 1, aI64 (-1), aI64 (-1)], .own (api_Field.c v5.1), .fix [aI64 0, aI64 1, aI64 1, aI64 2], .own (api_Field.c v9.1), .own [aI64 2, aI64 0]] (callOk_ref (args := [.hs 5 0 2 1]) (l := [5]) (SnL.cons (Sn.hs rfl (.inl rfl) (SnC.cons (Sn.pure rfl) (SnC.cons (Sn.pure rfl) SnC.nil)) (fun h => nomatch h)) SnL.nil) (fiduciallaw46_line_ok n [(2 : Int), (0 : Int)] v11 hc12)) (ca4 [.fix [aI64 0, aI64 1, aI64 1, aI64 2], .fix [aI64 1, aI64 1, aI64 (-1), aI64 (-1)], .own (api_Field.c v5.1), .fix [aI64 0, aI64 1, aI64 1, aI64 2], .own (api_Field.c v9.1), .fix [aI64 2, aI64 0]] (ok0 (depth_Depths_ok n v11 640 100 v13 hc14)))) <| .mu 1 <| .ca cf0 <| .ca (cfF cf0) <| .mu 6 <| .done <| .n2 65 [(1, .hp 2 0), (2, aI64 v5.2), (3, .hp 4 0), (4, aI64 v9.2), (5, .hp 6 0), (6, aI64 v13.2)] [.fix [aI64 0, aI64 1, aI64 1, aI64 2], .fix [aI64 1, aI64 1, aI64 (-1), aI64 (-1)], .own (api_Field.c v5.1), .fix [aI64 0, aI64 1, aI64 1, aI64 2], .own (api_Field.c v9.1), .fix [aI64 2, aI64 0], .own (api_Field.c v13.1)] <| .seq ?_
 obtain ⟨v15, hc16, hr⟩ := bd hr
 refine .g1 fine (ok0 (depth_Interval_ok n 640 100 2 v15 hc16)) <| .ca cf0 <| .mu 6 <| .done <| .n2 65 [(1, .hp 2 0), (2, aI64 v5.2), (3, .hp 4 0), (4, aI64 v9.2), (5, .hp 6 0), (6, aI64 v13.2), (7, .hp 7 0), (8, aI64 v15.2)] [.fix [aI64 0, aI64 1, aI64 1, aI64 2], .fix [aI64 1, aI64 1, aI64 (-1), aI64 (-1)], .own (api_Field.c v5.1), .fix [aI64 0, aI64 1, aI64 1, aI64 2], .own (api_Field.c v9.1), .fix [aI64 2, aI64 0], .own (api_Field.c v13.1), .own (api_Range.c v15.1)] <| .seq ?_
 rcases Bool.eq_false_or_eq_true (((wrapF .i64 ((wrapF .i64 ((wrapF .i64 (v5.2 + v9.2)) + v13.2)) + v15.2)) : Int) == 0) with hb17 | hb17
 ·replace hr := cd_t hb17 hr
  obtain ⟨v18, hc19, v20, hc21, hr⟩ := bd2 hr
  rcases Bool.eq_false_or_eq_true v20 with hb22 | hb22
  ·subst hb22
   replace hr := cd_t rfl hr
   obtain ⟨v23, hc24, v25, hc26, hr⟩ := bd2 hr
   rcases Bool.eq_false_or_eq_true v25 with hb27 | hb27
   ·subst hb27
    replace hr := cd_t rfl hr
    obtain ⟨v28, hc29, v30, hc31, hr⟩ := bd2 hr
    rcases Bool.eq_false_or_eq_true v30 with hb32 | hb32
    ·subst hb32
     replace hr := cd_t rfl hr
     obtain ⟨v33, hc34, v35, hc36, hr⟩ := bd2 hr
     refine .tn fine (ca2 [.fix [aI64 0, aI64 1, aI64 1, aI64 2], .fix [aI64 1, aI64 1, aI64 (-1), aI64 (-1)], .own (api_Field.c v5.1), .fix [aI64 0, aI64 1, aI64 1, aI64 2], .own (api_Field.c v9.1), .fix [aI64 2, aI64 0], .own (api_Field.c v13.1), .own (api_Range.c v15.1), .own [aI64 (-1), aI64 1, aI64 1, aI64 (-1)]] (callOk_ref (args := [.hs 8 0 4 1]) (l := [8]) (SnL.cons (Sn.hs rfl (.inl rfl) (SnC.cons (Sn.pure rfl) (SnC.cons (Sn.pure rfl) (SnC.cons (Sn.pure rfl) (SnC.cons (Sn.pure rfl) SnC.nil)))) (fun h => nomatch h)) SnL.nil) (fiduciallaw46_line_ok n [((-1) : Int), (1 : Int), (1 : Int), ((-1) : Int)] v18 hc19)) (ca2 [.fix [aI64 0, aI64 1, aI64 1, aI64 2], .fix [aI64 1, aI64 1, aI64 (-1), aI64 (-1)], .own (api_Field.c v5.1), .fix [aI64 0, aI64 1, aI64 1, aI64 2], .own (api_Field.c v9.1), .fix [aI64 2, aI64 0], .own (api_Field.c v13.1), .own (api_Range.c v15.1), .fix [aI64 (-1), aI64 1, aI64 1, aI64 (-1)]] (ok0 (fiduciallaw46_Same_ok n v5.1 v18 true hc21)) (ca2 [.fix [aI64 0, aI64 1, aI64 1, aI64 2], .fix [aI64 1, aI64 1, aI64 (-1), aI64 (-1)], .own (api_Field.c v5.1), .fix [aI64 0, aI64 1, aI64 1, aI64 2], .own (api_Field.c v9.1), .fix [aI64 2, aI64 0], .own (api_Field.c v13.1), .own (api_Range.c v15.1), .fix [aI64 (-1), aI64 1, aI64 1, aI64 (-1)], .own [aI64 1, aI64 2, aI64 (-1), aI64 (-1)]] (callOk_ref (args := [.hs 9 0 4 1]) (l := [9]) (SnL.cons (Sn.hs rfl (.inl rfl) (SnC.cons (Sn.pure rfl) (SnC.cons (Sn.pure rfl) (SnC.cons (Sn.pure rfl) (SnC.cons (Sn.pure rfl) SnC.nil)))) (fun h => nomatch h)) SnL.nil) (fiduciallaw46_line_ok n [(1 : Int), (2 : Int), ((-1) : Int), ((-1) : Int)] v23 hc24)) (ca2 [.fix [aI64 0, aI64 1, aI64 1, aI64 2], .fix [aI64 1, aI64 1, aI64 (-1), aI64 (-1)], .own (api_Field.c v5.1), .fix [aI64 0, aI64 1, aI64 1, aI64 2], .own (api_Field.c v9.1), .fix [aI64 2, aI64 0], .own (api_Field.c v13.1), .own (api_Range.c v15.1), .fix [aI64 (-1), aI64 1, aI64 1, aI64 (-1)], .fix [aI64 1, aI64 2, aI64 (-1), aI64 (-1)]] (ok0 (fiduciallaw46_Same_ok n v9.1 v23 true hc26)) (ca2 [.fix [aI64 0, aI64 1, aI64 1, aI64 2], .fix [aI64 1, aI64 1, aI64 (-1), aI64 (-1)], .own (api_Field.c v5.1), .fix [aI64 0, aI64 1, aI64 1, aI64 2], .own (api_Field.c v9.1), .fix [aI64 2, aI64 0], .own (api_Field.c v13.1), .own (api_Range.c v15.1), .fix [aI64 (-1), aI64 1, aI64 1, aI64 (-1)], .fix [aI64 1, aI64 2, aI64 (-1), aI64 (-1)], .own [aI64 500, aI64 (-1)]] (callOk_ref (args := [.hs 10 0 2 1]) (l := [10]) (SnL.cons (Sn.hs rfl (.inl rfl) (SnC.cons (Sn.pure rfl) (SnC.cons (Sn.pure rfl) SnC.nil)) (fun h => nomatch h)) SnL.nil) (fiduciallaw46_line_ok n [(500 : Int), ((-1) : Int)] v28 hc29)) (ca2 [.fix [aI64 0, aI64 1, aI64 1, aI64 2], .fix [aI64 1, aI64 1, aI64 (-1), aI64 (-1)], .own (api_Field.c v5.1), .fix [aI64 0, aI64 1, aI64 1, aI64 2], .own (api_Field.c v9.1), .fix [aI64 2, aI64 0], .own (api_Field.c v13.1), .own (api_Range.c v15.1), .fix [aI64 (-1), aI64 1, aI64 1, aI64 (-1)], .fix [aI64 1, aI64 2, aI64 (-1), aI64 (-1)], .fix [aI64 500, aI64 (-1)]] (ok0 (fiduciallaw46_Same_ok n v13.1 v28 true hc31)) (ca2 [.fix [aI64 0, aI64 1, aI64 1, aI64 2], .fix [aI64 1, aI64 1, aI64 (-1), aI64 (-1)], .own (api_Field.c v5.1), .fix [aI64 0, aI64 1, aI64 1, aI64 2], .own (api_Field.c v9.1), .fix [aI64 2, aI64 0], .own (api_Field.c v13.1), .own (api_Range.c v15.1), .fix [aI64 (-1), aI64 1, aI64 1, aI64 (-1)], .fix [aI64 1, aI64 2, aI64 (-1), aI64 (-1)], .fix [aI64 500, aI64 (-1)]] (ok0 (fiducialref02_Whole_ok n 400 v33 hc34)) (ca4 [.fix [aI64 0, aI64 1, aI64 1, aI64 2], .fix [aI64 1, aI64 1, aI64 (-1), aI64 (-1)], .own (api_Field.c v5.1), .fix [aI64 0, aI64 1, aI64 1, aI64 2], .own (api_Field.c v9.1), .fix [aI64 2, aI64 0], .own (api_Field.c v13.1), .own (api_Range.c v15.1), .fix [aI64 (-1), aI64 1, aI64 1, aI64 (-1)], .fix [aI64 1, aI64 2, aI64 (-1), aI64 (-1)], .fix [aI64 500, aI64 (-1)]] (ok0 (fiducialref02_Same_ok n v15.1.Low v33 v35 hc36)))))))))) <| .mu 7 ?_
     refine .pure (v := aB true) (by kernel_rfl) (Eq.trans (b := some (.pure (aB (((wrapF .i64 ((wrapF .i64 ((wrapF .i64 (v5.2 + v9.2)) + v13.2)) + v15.2)) : Int) == 0)))) (by kernel_rfl) (by rw [hb17])) (by kernel_rfl) <| .mu 3 <| .ca cf0 <| .ca (cfF cf0) <| .mu 4 <| .ca (cfH 8 2 1 (cfF cf0)) <| .ca (cfF (cfH 9 2 4 (cfF cf0))) <| .mu 4 <| .ca (cfH 8 2 1 (cfF (cfH 9 2 1 (cfF cf0)))) <| .ca (cfF (cfH 9 2 4 (cfF (cfH 10 2 4 (cfF cf0))))) <| .mu 4 <| .ca (cfF (cfF (cfF (cfF (cfF (cfF cf0)))))) <| .ca (cfF (cfF (cfF (cfF (cfF (cfF (cfF cf0))))))) <| .mu 2 ?_
     refine .done ⟨by kernel_rfl, ?_⟩
     refine .ret ?_
     obtain rfl := Option.some.inj hr
     exact FinQ.r1 [aB v35]
    ·subst hb32
     replace hr := cd_f rfl hr
     refine .tn fine (ca2 [.fix [aI64 0, aI64 1, aI64 1, aI64 2], .fix [aI64 1, aI64 1, aI64 (-1), aI64 (-1)], .own (api_Field.c v5.1), .fix [aI64 0, aI64 1, aI64 1, aI64 2], .own (api_Field.c v9.1), .fix [aI64 2, aI64 0], .own (api_Field.c v13.1), .own (api_Range.c v15.1), .own [aI64 (-1), aI64 1, aI64 1, aI64 (-1)]] (callOk_ref (args := [.hs 8 0 4 1]) (l := [8]) (SnL.cons (Sn.hs rfl (.inl rfl) (SnC.cons (Sn.pure rfl) (SnC.cons (Sn.pure rfl) (SnC.cons (Sn.pure rfl) (SnC.cons (Sn.pure rfl) SnC.nil)))) (fun h => nomatch h)) SnL.nil) (fiduciallaw46_line_ok n [((-1) : Int), (1 : Int), (1 : Int), ((-1) : Int)] v18 hc19)) (ca2 [.fix [aI64 0, aI64 1, aI64 1, aI64 2], .fix [aI64 1, aI64 1, aI64 (-1), aI64 (-1)], .own (api_Field.c v5.1), .fix [aI64 0, aI64 1, aI64 1, aI64 2], .own (api_Field.c v9.1), .fix [aI64 2, aI64 0], .own (api_Field.c v13.1), .own (api_Range.c v15.1), .fix [aI64 (-1), aI64 1, aI64 1, aI64 (-1)]] (ok0 (fiduciallaw46_Same_ok n v5.1 v18 true hc21)) (ca2 [.fix [aI64 0, aI64 1, aI64 1, aI64 2], .fix [aI64 1, aI64 1, aI64 (-1), aI64 (-1)], .own (api_Field.c v5.1), .fix [aI64 0, aI64 1, aI64 1, aI64 2], .own (api_Field.c v9.1), .fix [aI64 2, aI64 0], .own (api_Field.c v13.1), .own (api_Range.c v15.1), .fix [aI64 (-1), aI64 1, aI64 1, aI64 (-1)], .own [aI64 1, aI64 2, aI64 (-1), aI64 (-1)]] (callOk_ref (args := [.hs 9 0 4 1]) (l := [9]) (SnL.cons (Sn.hs rfl (.inl rfl) (SnC.cons (Sn.pure rfl) (SnC.cons (Sn.pure rfl) (SnC.cons (Sn.pure rfl) (SnC.cons (Sn.pure rfl) SnC.nil)))) (fun h => nomatch h)) SnL.nil) (fiduciallaw46_line_ok n [(1 : Int), (2 : Int), ((-1) : Int), ((-1) : Int)] v23 hc24)) (ca2 [.fix [aI64 0, aI64 1, aI64 1, aI64 2], .fix [aI64 1, aI64 1, aI64 (-1), aI64 (-1)], .own (api_Field.c v5.1), .fix [aI64 0, aI64 1, aI64 1, aI64 2], .own (api_Field.c v9.1), .fix [aI64 2, aI64 0], .own (api_Field.c v13.1), .own (api_Range.c v15.1), .fix [aI64 (-1), aI64 1, aI64 1, aI64 (-1)], .fix [aI64 1, aI64 2, aI64 (-1), aI64 (-1)]] (ok0 (fiduciallaw46_Same_ok n v9.1 v23 true hc26)) (ca2 [.fix [aI64 0, aI64 1, aI64 1, aI64 2], .fix [aI64 1, aI64 1, aI64 (-1), aI64 (-1)], .own (api_Field.c v5.1), .fix [aI64 0, aI64 1, aI64 1, aI64 2], .own (api_Field.c v9.1), .fix [aI64 2, aI64 0], .own (api_Field.c v13.1), .own (api_Range.c v15.1), .fix [aI64 (-1), aI64 1, aI64 1, aI64 (-1)], .fix [aI64 1, aI64 2, aI64 (-1), aI64 (-1)], .own [aI64 500, aI64 (-1)]] (callOk_ref (args := [.hs 10 0 2 1]) (l := [10]) (SnL.cons (Sn.hs rfl (.inl rfl) (SnC.cons (Sn.pure rfl) (SnC.cons (Sn.pure rfl) SnC.nil)) (fun h => nomatch h)) SnL.nil) (fiduciallaw46_line_ok n [(500 : Int), ((-1) : Int)] v28 hc29)) (ca4 [.fix [aI64 0, aI64 1, aI64 1, aI64 2], .fix [aI64 1, aI64 1, aI64 (-1), aI64 (-1)], .own (api_Field.c v5.1), .fix [aI64 0, aI64 1, aI64 1, aI64 2], .own (api_Field.c v9.1), .fix [aI64 2, aI64 0], .own (api_Field.c v13.1), .own (api_Range.c v15.1), .fix [aI64 (-1), aI64 1, aI64 1, aI64 (-1)], .fix [aI64 1, aI64 2, aI64 (-1), aI64 (-1)], .fix [aI64 500, aI64 (-1)]] (ok0 (fiduciallaw46_Same_ok n v13.1 v28 false hc31)))))))) <| .mu 7 <| .pure (v := aB true) (by kernel_rfl) (Eq.trans (b := some (.pure (aB (((wrapF .i64 ((wrapF .i64 ((wrapF .i64 (v5.2 + v9.2)) + v13.2)) + v15.2)) : Int) == 0)))) (by kernel_rfl) (by rw [hb17])) (by kernel_rfl) <| .mu 3 <| .ca cf0 <| .ca (cfF cf0) <| .mu 4 <| .ca (cfH 8 2 1 (cfF cf0)) <| .ca (cfF (cfH 9 2 4 (cfF cf0))) <| .mu 4 <| .ca (cfH 8 2 1 (cfF (cfH 9 2 1 (cfF cf0)))) <| .ca (cfF (cfH 9 2 4 (cfF (cfH 10 2 4 (cfF cf0))))) <| .mu 8 ?_
     refine .done ⟨by kernel_rfl, ?_⟩
     refine .ret ?_
     obtain rfl := Option.some.inj hr
     exact FinQ.r1 [aB false]
   ·subst hb27
    replace hr := cd_f rfl hr
    refine .tn fine (ca2 [.fix [aI64 0, aI64 1, aI64 1, aI64 2], .fix [aI64 1, aI64 1, aI64 (-1), aI64 (-1)], .own (api_Field.c v5.1), .fix [aI64 0, aI64 1, aI64 1, aI64 2], .own (api_Field.c v9.1), .fix [aI64 2, aI64 0], .own (api_Field.c v13.1), .own (api_Range.c v15.1), .own [aI64 (-1), aI64 1, aI64 1, aI64 (-1)]] (callOk_ref (args := [.hs 8 0 4 1]) (l := [8]) (SnL.cons (Sn.hs rfl (.inl rfl) (SnC.cons (Sn.pure rfl) (SnC.cons (Sn.pure rfl) (SnC.cons (Sn.pure rfl) (SnC.cons (Sn.pure rfl) SnC.nil)))) (fun h => nomatch h)) SnL.nil) (fiduciallaw46_line_ok n [((-1) : Int), (1 : Int), (1 : Int), ((-1) : Int)] v18 hc19)) (ca2 [.fix [aI64 0, aI64 1, aI64 1, aI64 2], .fix [aI64 1, aI64 1, aI64 (-1), aI64 (-1)], .own (api_Field.c v5.1), .fix [aI64 0, aI64 1, aI64 1, aI64 2], .own (api_Field.c v9.1), .fix [aI64 2, aI64 0], .own (api_Field.c v13.1), .own (api_Range.c v15.1), .fix [aI64 (-1), aI64 1, aI64 1, aI64 (-1)]] (ok0 (fiduciallaw46_Same_ok n v5.1 v18 true hc21)) (ca2 [.fix [aI64 0, aI64 1, aI64 1, aI64 2], .fix [aI64 1, aI64 1, aI64 (-1), aI64 (-1)], .own (api_Field.c v5.1), .fix [aI64 0, aI64 1, aI64 1, aI64 2], .own (api_Field.c v9.1), .fix [aI64 2, aI64 0], .own (api_Field.c v13.1), .own (api_Range.c v15.1), .fix [aI64 (-1), aI64 1, aI64 1, aI64 (-1)], .own [aI64 1, aI64 2, aI64 (-1), aI64 (-1)]] (callOk_ref (args := [.hs 9 0 4 1]) (l := [9]) (SnL.cons (Sn.hs rfl (.inl rfl) (SnC.cons (Sn.pure rfl) (SnC.cons (Sn.pure rfl) (SnC.cons (Sn.pure rfl) (SnC.cons (Sn.pure rfl) SnC.nil)))) (fun h => nomatch h)) SnL.nil) (fiduciallaw46_line_ok n [(1 : Int), (2 : Int), ((-1) : Int), ((-1) : Int)] v23 hc24)) (ca4 [.fix [aI64 0, aI64 1, aI64 1, aI64 2], .fix [aI64 1, aI64 1, aI64 (-1), aI64 (-1)], .own (api_Field.c v5.1), .fix [aI64 0, aI64 1, aI64 1, aI64 2], .own (api_Field.c v9.1), .fix [aI64 2, aI64 0], .own (api_Field.c v13.1), .own (api_Range.c v15.1), .fix [aI64 (-1), aI64 1, aI64 1, aI64 (-1)], .fix [aI64 1, aI64 2, aI64 (-1), aI64 (-1)]] (ok0 (fiduciallaw46_Same_ok n v9.1 v23 false hc26)))))) <| .mu 7 <| .pure (v := aB true) (by kernel_rfl) (Eq.trans (b := some (.pure (aB (((wrapF .i64 ((wrapF .i64 ((wrapF .i64 (v5.2 + v9.2)) + v13.2)) + v15.2)) : Int) == 0)))) (by kernel_rfl) (by rw [hb17])) (by kernel_rfl) <| .mu 3 <| .ca cf0 <| .ca (cfF cf0) <| .mu 4 <| .ca (cfH 8 2 1 (cfF cf0)) <| .ca (cfF (cfH 9 2 4 (cfF cf0))) <| .mu 14 ?_
    refine .done ⟨by kernel_rfl, ?_⟩
    refine .ret ?_
    obtain rfl := Option.some.inj hr
    exact FinQ.r1 [aB false]
  ·subst hb22
   replace hr := cd_f rfl hr
   refine .tn fine (ca2 [.fix [aI64 0, aI64 1, aI64 1, aI64 2], .fix [aI64 1, aI64 1, aI64 (-1), aI64 (-1)], .own (api_Field.c v5.1), .fix [aI64 0, aI64 1, aI64 1, aI64 2], .own (api_Field.c v9.1), .fix [aI64 2, aI64 0], .own (api_Field.c v13.1), .own (api_Range.c v15.1), .own [aI64 (-1), aI64 1, aI64 1, aI64 (-1)]] (callOk_ref (args := [.hs 8 0 4 1]) (l := [8]) (SnL.cons (Sn.hs rfl (.inl rfl) (SnC.cons (Sn.pure rfl) (SnC.cons (Sn.pure rfl) (SnC.cons (Sn.pure rfl) (SnC.cons (Sn.pure rfl) SnC.nil)))) (fun h => nomatch h)) SnL.nil) (fiduciallaw46_line_ok n [((-1) : Int), (1 : Int), (1 : Int), ((-1) : Int)] v18 hc19)) (ca4 [.fix [aI64 0, aI64 1, aI64 1, aI64 2], .fix [aI64 1, aI64 1, aI64 (-1), aI64 (-1)], .own (api_Field.c v5.1), .fix [aI64 0, aI64 1, aI64 1, aI64 2], .own (api_Field.c v9.1), .fix [aI64 2, aI64 0], .own (api_Field.c v13.1), .own (api_Range.c v15.1), .fix [aI64 (-1), aI64 1, aI64 1, aI64 (-1)]] (ok0 (fiduciallaw46_Same_ok n v5.1 v18 false hc21)))) <| .mu 7 <| .pure (v := aB true) (by kernel_rfl) (Eq.trans (b := some (.pure (aB (((wrapF .i64 ((wrapF .i64 ((wrapF .i64 (v5.2 + v9.2)) + v13.2)) + v15.2)) : Int) == 0)))) (by kernel_rfl) (by rw [hb17])) (by kernel_rfl) <| .mu 3 <| .ca cf0 <| .ca (cfF cf0) <| .mu 20 ?_
   refine .done ⟨by kernel_rfl, ?_⟩
   refine .ret ?_
   obtain rfl := Option.some.inj hr
   exact FinQ.r1 [aB false]
 ·replace hr := cd_f hb17 hr
  refine .regionT fine callOf_nil <| .mu 7 <| .pure (v := aB false) (by kernel_rfl) (Eq.trans (b := some (.pure (aB (((wrapF .i64 ((wrapF .i64 ((wrapF .i64 (v5.2 + v9.2)) + v13.2)) + v15.2)) : Int) == 0)))) (by kernel_rfl) (by rw [hb17])) (by kernel_rfl) <| .mu 25 ?_
  refine .done ⟨by kernel_rfl, ?_⟩
  refine .ret ?_
  obtain rfl := Option.some.inj hr
  exact FinQ.r1 [aB false]

theorem fiduciallaw46_Valid_1_ok (n : Nat) (v : Int) (r : Bool) (hr : fiduciallaw46_Valid_1 n v = some r) : FnOk Tryz.prog 58 [aI64 v] (aB r) := by
 unfold fiduciallaw46_Valid_1 at hr
 refine FnOk.bd fine Tryz.func58 [.tmp 2] ?_
 unfold Tryz.f58
 simp only [Option.getD_some]
 refine .seq <| .r3 fine 9 [(0, aI64 v)] <| .seq ?_
 rcases Bool.eq_false_or_eq_true (decide (v < (-1))) with hb1 | hb1
 ·replace hr := cd_t hb1 hr
  refine .r0 fine <| .mu 1 <| .p0 (v := aB true) (Eq.trans (b := some (.pure (aB (decide (v < (-1)))))) (by kernel_rfl) (by rw [hb1])) <| .mu 5 <| .done <| .ret ?_
  obtain rfl := Option.some.inj hr
  exact FinQ.r1 [aB true]
 ·replace hr := cd_f hb1 hr
  refine .r0 fine <| .mu 1 <| .p0 (v := aB false) (Eq.trans (b := some (.pure (aB (decide (v < (-1)))))) (by kernel_rfl) (by rw [hb1])) <| .mu 5 <| .done <| .ret ?_
  obtain rfl := Option.some.inj hr
  exact FinQ.r1 [aB (decide (v > 1048576))]

theorem slices_IndexFunc_int_int_of_fiduciallaw46_Valid_1_ok (n : Nat) (s : List Int) (r : Int) (hr : slices_IndexFunc_int_int_of_fiduciallaw46_Valid_1 n s = some r) : FnOk Tryz.prog 103 [sI64 s, .fn 58 [] []] (aI64 r) := by
 unfold slices_IndexFunc_int_int_of_fiduciallaw46_Valid_1 at hr
 refine FnOk.bd fine Tryz.func103 [.tmp 4] ?_
 unfold Tryz.f103
 simp only [Option.getD_some]
 refine .seq <| .r3 fine 19 [(0, sI64 s), (1, .fn 58 [] [])] <| .seq <| .seq <| .r3 fine 19 [(0, sI64 s), (1, .fn 58 [] []), (7, aI64 (s.length : Int)), (8, aI64 0)] <| .block ?_
 replace hr := bd hr; obtain ⟨o13, hL14, hr⟩ := hr
 refine .loopO (σ := fun z0 => match z0 with | x_1 => ⟨mkS 19 0 [(0, sI64 s), (1, .fn 58 [] []), (7, aI64 (s.length : Int)), (8, aI64 x_1)], []⟩) (Q := fun x st' => match (generalizing := false) o13 with | .inl _ => x = .exit 0 ∧ Wk 0 st' ⟨mkS 19 0 [], []⟩ | .inr (r0) => x = .ret ∧ FinQ Tryz.prog [.tmp 4] (aI64 r0) .ret st') hL14 ((Wk.gc [0, 1, 7, 8] [] rfl pK0).to (by kernel_rfl)) ?_ ?_
 ·clear hr
  rintro m x_1 hr
  show CQ _ _ _ _ _ ⟨_, _⟩
  refine .seq <| .r3 fine 19 [(0, sI64 s), (1, .fn 58 [] []), (7, aI64 (s.length : Int)), (8, aI64 x_1), (9, aB (decide (x_1 < (s.length : Int))))] <| .seq ?_
  refine .cd hr (fun hb8 hr => ?_) (fun hb8 hr => ?_)
  ·refine .skip <| .seq <| .block <| .seq <| .r3 fine 19 [(0, sI64 s), (1, .fn 58 [] []), (5, aI64 x_1), (7, aI64 (s.length : Int)), (8, aI64 x_1)] <| .seq ?_
   obtain ⟨hg9, hr⟩ := gd hr
   obtain ⟨v10, hc11, hr⟩ := bd hr
   refine .g1 fine (ok0 (fiduciallaw46_Valid_1_ok n (gt s x_1) v10 hc11)) <| .mu 3 <| .p0 (v := .pp (s.flatMap (iC .i64)) (x_1.toNat * 1)) (Eq.trans (b := ORes.ofP (guardV (inR x_1 s.length) (.pp (s.flatMap (iC .i64)) (x_1.toNat * 1)))) (by kernel_rfl) (ofP_guard hg9)) <| .p0 (v := aI64 (gt s x_1)) (Eq.trans (b := ORes.ofP ((s.flatMap (iC .i64))[x_1.toNat * 1]?)) (by kernel_rfl) (ofP_some (flat_get (iC_len _) (inR_lt hg9) (by decide : 0 < 1) (by omega : x_1.toNat * 1 = x_1.toNat * 1 + 0) (by kernel_rfl)))) <| .ca cf0 <| .done <| .n2 19 [(0, sI64 s), (1, .fn 58 [] []), (5, aI64 x_1), (7, aI64 (s.length : Int)), (8, aI64 x_1), (16, aB v10)] [] ?_
   refine .cd hr (fun hb12 hr => ?_) (fun hb12 hr => ?_)
   ·refine .seq <| .ru fine <| .ret ?_
    obtain rfl := Option.some.inj hr
    exact ⟨rfl, FinQ.ret (vs := [aI64 x_1]) (by kernel_rfl) (Sn.pure rfl)⟩
   ·refine .skip <| .pop <| .ru fine ?_
    exact loopF_back (wrapF .i64 (x_1 + 1)) hr ((Wk.gc [0, 1, 7, 8] [] rfl pK0).to (by kernel_rfl))
  ·refine .leave rfl ?_
   obtain rfl := Option.some.inj hr
   exact ⟨rfl, ((Wk.gc [] [] rfl pK0).to (by kernel_rfl))⟩
 ·rcases o13 with ⟨⟩ | r0
  ·rintro x st' hq15
   clear hL14
   obtain ⟨rfl, hq15⟩ := hq15
   refine CQ_exit _ rfl <| .wk hq15 <| .seq <| .ru fine <| .ret ?_
   obtain rfl := Option.some.inj hr
   exact FinQ.r1 [aI64 (-1)]
  ·rintro x st' hq15
   clear hL14
   obtain ⟨rfl, hq15⟩ := hq15
   obtain rfl := Option.some.inj hr
   exact CQ_ret _ hq15

theorem slices_ContainsFunc_int_int_of_fiduciallaw46_Valid_1_ok (n : Nat) (s : List Int) (r : Bool) (hr : slices_ContainsFunc_int_int_of_fiduciallaw46_Valid_1 n s = some r) : FnOk Tryz.prog 57 [sI64 s, .fn 58 [] []] (aB r) := by
 unfold slices_ContainsFunc_int_int_of_fiduciallaw46_Valid_1 at hr
 refine FnOk.bd fine Tryz.func57 [.tmp 4] ?_
 unfold Tryz.f57
 simp only [Option.getD_some]
 refine .seq <| .r3 fine 9 [(0, sI64 s), (1, .fn 58 [] [])] <| .seq ?_
 obtain ⟨v1, hc2, hr⟩ := bd hr
 refine .g1 fine (ok0 (slices_IndexFunc_int_int_of_fiduciallaw46_Valid_1_ok n s v1 hc2)) <| .mu 2 <| .ca cf0 <| .mu 2 <| .done <| .ret ?_
 obtain rfl := Option.some.inj hr
 exact FinQ.r1 [aB (decide (v1 ≥ 0))]

theorem fiduciallaw46_Valid_ok (n : Nat) (f : api_Field) (r : Bool) (hr : fiduciallaw46_Valid n f = some r) : FnOk Tryz.prog 16 [.agg (api_Field.c f)] (aB r) := by
 unfold fiduciallaw46_Valid at hr
 refine FnOk.bd fine Tryz.func16 [.tmp 2] ?_
 unfold Tryz.f16
 simp only [Option.getD_some]
 refine .seq <| .r2 fine 34 [(1, .hp 0 0)] [.own (api_Field.c f)] <| .seq ?_
 rcases Bool.eq_false_or_eq_true (decide ((mn f.Width f.Height) ≥ 1)) with hb1 | hb1
 ·replace hr := cd_t hb1 hr
  rcases Bool.eq_false_or_eq_true (decide ((mx f.Width f.Height) ≤ 64)) with hb2 | hb2
  ·replace hr := cd_t hb2 hr
   rcases Bool.eq_false_or_eq_true (((f.V.length : Int) : Int) == (wrapF .i64 (f.Width * f.Height))) with hb3 | hb3
   ·replace hr := cd_t hb3 hr
    obtain ⟨v4, hc5, hr⟩ := bd hr
    refine .g1 fine (ok0 (slices_ContainsFunc_int_int_of_fiduciallaw46_Valid_1_ok n f.V v4 hc5)) <| .mu 5 <| .p0 (v := aB true) (Eq.trans (b := some (.pure (aB (decide ((mn f.Width f.Height) ≥ 1))))) (by kernel_rfl) (by rw [hb1])) <| .mu 6 <| .pure (v := aB true) (by kernel_rfl) (Eq.trans (b := some (.pure (aB (decide ((mx f.Width f.Height) ≤ 64))))) (by kernel_rfl) (by rw [hb2])) <| .mu 10 <| .pure (v := aB true) (by kernel_rfl) (Eq.trans (b := some (.pure (aB (((f.V.length : Int) : Int) == (wrapF .i64 (f.Width * f.Height)))))) (by kernel_rfl) (by rw [hb3])) <| .mu 4 <| .ca cf0 <| .mu 3 <| .done <| .ret ?_
    obtain rfl := Option.some.inj hr
    exact FinQ.r1 [aB (!v4)]
   ·replace hr := cd_f hb3 hr
    refine .r0 fine <| .mu 5 <| .p0 (v := aB true) (Eq.trans (b := some (.pure (aB (decide ((mn f.Width f.Height) ≥ 1))))) (by kernel_rfl) (by rw [hb1])) <| .mu 6 <| .pure (v := aB true) (by kernel_rfl) (Eq.trans (b := some (.pure (aB (decide ((mx f.Width f.Height) ≤ 64))))) (by kernel_rfl) (by rw [hb2])) <| .mu 10 <| .pure (v := aB false) (by kernel_rfl) (Eq.trans (b := some (.pure (aB (((f.V.length : Int) : Int) == (wrapF .i64 (f.Width * f.Height)))))) (by kernel_rfl) (by rw [hb3])) <| .mu 8 <| .done <| .ret ?_
    obtain rfl := Option.some.inj hr
    exact FinQ.r1 [aB false]
  ·replace hr := cd_f hb2 hr
   refine .r0 fine <| .mu 5 <| .p0 (v := aB true) (Eq.trans (b := some (.pure (aB (decide ((mn f.Width f.Height) ≥ 1))))) (by kernel_rfl) (by rw [hb1])) <| .mu 6 <| .pure (v := aB false) (by kernel_rfl) (Eq.trans (b := some (.pure (aB (decide ((mx f.Width f.Height) ≤ 64))))) (by kernel_rfl) (by rw [hb2])) <| .mu 19 <| .done <| .ret ?_
   obtain rfl := Option.some.inj hr
   exact FinQ.r1 [aB false]
 ·replace hr := cd_f hb1 hr
  refine .r0 fine <| .mu 5 <| .p0 (v := aB false) (Eq.trans (b := some (.pure (aB (decide ((mn f.Width f.Height) ≥ 1))))) (by kernel_rfl) (by rw [hb1])) <| .mu 26 <| .done <| .ret ?_
  obtain rfl := Option.some.inj hr
  exact FinQ.r1 [aB false]

theorem fiduciallaw46_few_ok (n : Nat) (f : api_Field) (r : Bool) (hr : fiduciallaw46_few n f = some r) : FnOk Tryz.prog 14 [.agg (api_Field.c f)] (aB r) := by
 unfold fiduciallaw46_few at hr
 refine FnOk.bd fine Tryz.func14 [.tmp 2] ?_
 unfold Tryz.f14
 simp only [Option.getD_some]
 refine .seq <| .r2 fine 22 [(1, .hp 0 0)] [.own (api_Field.c f)] <| .seq ?_
 rcases Bool.eq_false_or_eq_true (decide ((f.V.length : Int) ≤ 80)) with hb1 | hb1
 ·replace hr := cd_t hb1 hr
  obtain ⟨v2, hc3, hr⟩ := bd hr
  rcases Bool.eq_false_or_eq_true (!v2) with hb4 | hb4
  ·replace hr := cd_t hb4 hr
   refine .g1 fine (ok0 (fiduciallaw46_Valid_ok n f v2 hc3)) <| .mu 3 <| .p0 (v := aB true) (Eq.trans (b := some (.pure (aB (decide ((f.V.length : Int) ≤ 80))))) (by kernel_rfl) (by rw [hb1])) <| .mu 2 <| .ca cf0 <| .pure (v := aB true) (by kernel_rfl) (Eq.trans (b := some (.pure (aB (!v2)))) (by kernel_rfl) (by rw [hb4])) <| .mu 12 <| .done <| .ret ?_
   obtain rfl := Option.some.inj hr
   exact FinQ.r1 [aB true]
  ·replace hr := cd_f hb4 hr
   rcases Bool.eq_false_or_eq_true (decide (f.Width ≤ 8)) with hb5 | hb5
   ·replace hr := cd_t hb5 hr
    refine .g1 fine (ok0 (fiduciallaw46_Valid_ok n f v2 hc3)) <| .mu 3 <| .p0 (v := aB true) (Eq.trans (b := some (.pure (aB (decide ((f.V.length : Int) ≤ 80))))) (by kernel_rfl) (by rw [hb1])) <| .mu 2 <| .ca cf0 <| .pure (v := aB false) (by kernel_rfl) (Eq.trans (b := some (.pure (aB (!v2)))) (by kernel_rfl) (by rw [hb4])) <| .mu 3 <| .pure (v := aB true) (by kernel_rfl) (Eq.trans (b := some (.pure (aB (decide (f.Width ≤ 8))))) (by kernel_rfl) (by rw [hb5])) <| .mu 8 <| .done <| .ret ?_
    obtain rfl := Option.some.inj hr
    exact FinQ.r1 [aB (decide (f.Height ≤ 8))]
   ·replace hr := cd_f hb5 hr
    refine .g1 fine (ok0 (fiduciallaw46_Valid_ok n f v2 hc3)) <| .mu 3 <| .p0 (v := aB true) (Eq.trans (b := some (.pure (aB (decide ((f.V.length : Int) ≤ 80))))) (by kernel_rfl) (by rw [hb1])) <| .mu 2 <| .ca cf0 <| .pure (v := aB false) (by kernel_rfl) (Eq.trans (b := some (.pure (aB (!v2)))) (by kernel_rfl) (by rw [hb4])) <| .mu 3 <| .pure (v := aB false) (by kernel_rfl) (Eq.trans (b := some (.pure (aB (decide (f.Width ≤ 8))))) (by kernel_rfl) (by rw [hb5])) <| .mu 8 <| .done <| .ret ?_
    obtain rfl := Option.some.inj hr
    exact FinQ.r1 [aB false]
 ·replace hr := cd_f hb1 hr
  refine .r0 fine <| .mu 3 <| .p0 (v := aB false) (Eq.trans (b := some (.pure (aB (decide ((f.V.length : Int) ≤ 80))))) (by kernel_rfl) (by rw [hb1])) <| .mu 16 <| .done <| .ret ?_
  obtain rfl := Option.some.inj hr
  exact FinQ.r1 [aB false]
end Go.L
