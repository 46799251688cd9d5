/- The program's functions compute what the plain Lean programs compute, part 3; printed by a program. -/
import Derived.Test.YtiicieaabeamoaaGreatPasLP2
import Derived.Test.YtiicieaabeamoaaGreatL0jemocibn
import Derived.Test.YtiicieaabeamoaaGreatSorthbmnnjml
import Derived.Test.YtiicieaabeamoaaGreatChecked
import Derived.KernelRfl
set_option linter.all false
set_option maxRecDepth 100000
set_option maxHeartbeats 4000000
namespace Go.L
open Go Go.Eng Go.Proofs
theorem integer_Compare_ok (n : Nat) (x' : api_Int) (y : api_Int) (r : Int) (hr : integer_Compare n x' y = some r) : FnOk Tryz.prog 154 [.agg (api_Int.c x'), .agg (api_Int.c y)] (aI64 r) := by
 unfold integer_Compare at hr
 refine FnOk.bd fine Tryz.func154 [.tmp 4] ?_
 unfold Tryz.f154
 simp only [Option.getD_some]
 refine .seq <| .r2 fine 28 [(2, .hp 0 0), (3, .hp 1 0)] [.own (api_Int.c x'), .own (api_Int.c y)] <| .seq <| .seq ?_
 obtain ⟨v1, hc2, v3, hc4, hr⟩ := bd2 hr
 refine .tn fine (ca1 (ok0 (integer_Sign_ok n x' v1 hc2)) (ca3 (ok0 (integer_Sign_ok n y v3 hc4)))) <| .mu 1 <| .ca cf0 <| .mu 1 <| .ca (cfA (fun h => by rw [sv hc4 hc2 (integer_Sign_cg n h)]) cf0) <| .mu 2 ?_
 refine .done ⟨by kernel_rfl, ?_⟩
 refine .nh [2, 3, 5, 6] [.own (api_Int.c x'), .own (api_Int.c y)] <| .seq <| .r4 fine [2, 3, 5, 6] [(14, aB ((v1 : Int) != v3))] ?_
 refine .cd hr (fun hb5 hr => ?_) (fun hb5 hr => ?_)
 ·refine .seq ?_
  obtain ⟨v6, hc7, hr⟩ := bd hr
  refine .g1 fine (ok0 (cmp_Compare_int_ok n v1 v3 v6 hc7)) <| .mu 2 <| .ca cf0 <| .mu 1 <| .done <| .ret ?_
  obtain rfl := oi hr
  exact FinQ.r1 [aI64 v6]
 ·refine .skip <| .seq ?_
  obtain ⟨v8, hc9, v10, hc11, v12, hc13, hr⟩ := bd3 hr
  refine .tn fine (ca1 (ok0 (integer_groups_ok n x' v8 hc9)) (ca1 (ok0 (integer_groups_ok n y v10 hc11)) (ca3 (ok0 (integer_compare_ok n v8 v10 v12 hc13))))) <| .mu 1 <| .ca cf0 <| .mu 1 <| .ca (cfA (fun h => by rw [sv hc11 hc9 (integer_groups_cg n h)]) cf0) <| .ca (cfF (cfF cf0)) <| .mu 1 ?_
  refine .done ⟨by kernel_rfl, ?_⟩
  refine .nh [2, 7] [.own (api_Int.c x'), .own (api_Int.c y)] <| .seq <| .seq <| .r4 fine [7] [(24, aB x'.Negative)] ?_
  refine .cd hr (fun hb14 hr => ?_) (fun hb14 hr => ?_)
  ·refine .seq <| .r0 fine <| .mu 1 <| .p0 (v := aI64 (wrapF .i64 (0 - v12))) (Eq.trans (b := some (.pure (aI64 (IntKind.wrap .i64 (0 - v12))))) (by kernel_rfl) wrap_at) <| .mu 1 <| .done <| .ret ?_
   obtain rfl := oi hr
   exact FinQ.r1 [aI64 (wrapF .i64 (0 - v12))]
  ·refine .skip <| .seq <| .ru fine <| .ret ?_
   obtain rfl := oi hr
   exact FinQ.r1 [aI64 v12]

theorem fraction_Valid_ok (n : Nat) (x' : api_Rat) (r : Bool) (hr : fraction_Valid n x' = some r) : FnOk Tryz.prog 123 [.agg (api_Rat.c x')] (aB r) := by
 unfold fraction_Valid at hr
 refine FnOk.bd fine Tryz.func123 [.tmp 2] ?_
 unfold Tryz.f123
 simp only [Option.getD_some]
 refine .seq <| .r2 fine 27 [(1, .hp 0 0)] [.own (api_Rat.c x')] <| .seq <| .seq ?_
 obtain ⟨v1, hc2, hr⟩ := bd hr
 rcases Bool.eq_false_or_eq_true (!v1) with hb3 | hb3
 ·replace hr := cd_t hb3 hr
  refine .g1 fine (ok0 (integer_Valid_ok n x'.Num v1 hc2)) <| .mu 2 <| .ca cf0 <| .p0 (v := aB true) (eB hb3) <| .mu 12 <| .done <| .nh [1, 18] [.own (api_Rat.c x')] <| .cT (by kernel_rfl) <| .seq <| .ru fine <| .ret ?_
  obtain rfl := oi hr
  exact FinQ.r1 [aB false]
 ·replace hr := cd_f hb3 hr
  obtain ⟨v4, hc5, hr⟩ := bd hr
  rcases Bool.eq_false_or_eq_true (!v4) with hb6 | hb6
  ·replace hr := cd_t hb6 hr
   refine .gn fine (ca1 (ok0 (integer_Valid_ok n x'.Num v1 hc2)) (ca3 (ok0 (integer_Valid_ok n x'.Den v4 hc5)))) <| .mu 2 <| .ca cf0 <| .p0 (v := aB false) (eB hb3) <| .mu 3 <| .ca (cfA (fun h => by rw [sv hc5 hc2 (integer_Valid_cg n h)]) cf0) <| .pure (v := aB true) (by kernel_rfl) (eB hb6) <| .mu 7 <| .done <| .nh [1, 18] [.own (api_Rat.c x')] <| .cT (by kernel_rfl) <| .seq <| .ru fine <| .ret ?_
   obtain rfl := oi hr
   exact FinQ.r1 [aB false]
  ·replace hr := cd_f hb6 hr
   obtain ⟨v7, hc8, hr⟩ := bd hr
   refine .gn fine (ca1 (ok0 (integer_Valid_ok n x'.Num v1 hc2)) (ca1 (ok0 (integer_Valid_ok n x'.Den v4 hc5)) (ca3 (ok0 (integer_Sign_ok n x'.Den v7 hc8))))) <| .mu 2 <| .ca cf0 <| .p0 (v := aB false) (eB hb3) <| .mu 3 <| .ca (cfA (fun h => by rw [sv hc5 hc2 (integer_Valid_cg n h)]) cf0) <| .pure (v := aB false) (by kernel_rfl) (eB hb6) <| .mu 4 <| .ca (cfF (cfF cf0)) <| .mu 2 <| .done <| .nh [1, 18] [.own (api_Rat.c x')] ?_
   refine .cd hr (fun hb9 hr => ?_) (fun hb9 hr => ?_)
   ·refine .seq <| .ru fine <| .ret ?_
    obtain rfl := oi hr
    exact FinQ.r1 [aB false]
   ·refine .skip <| .seq ?_
    obtain ⟨v10, hc11, v12, hc13, v14, hc15, hr⟩ := bd3 hr
    refine .gn fine (ca1 (ok0 (integer_Gcd_ok n x'.Num x'.Den v10 hc11)) (ca1 (ok0 (integer_Of_ok n 1 v12 hc13)) (ca3 (ok0 (integer_Compare_ok n v10 v12 v14 hc15))))) <| .mu 4 <| .ca cf0 <| .ca (cfF cf0) <| .ca (cfF (cfF cf0)) <| .mu 2 <| .done <| .ret ?_
    obtain rfl := oi hr
    exact FinQ.r1 [aB ((v14 : Int) == 0)]

theorem fraction_copied_ok (n : Nat) (x' : api_Rat) (r : api_Rat) (hr : fraction_copied n x' = some r) : FnOk Tryz.prog 124 [.agg (api_Rat.c x')] (.agg (api_Rat.c r)) := by
 unfold fraction_copied at hr
 refine FnOk.bd fine Tryz.func124 [.cell 2 51] ?_
 unfold Tryz.f124
 simp only [Option.getD_some]
 refine .seq <| .r2 fine 12 [(1, .hp 0 0), (2, .hp 1 0)] [.own (api_Rat.c x'), .own [aB false, nS, aB false, nS]] <| .seq ?_
 obtain ⟨v1, hc2, v3, hc4, v5, hc6, hr⟩ := bd3 hr
 obtain ⟨v7, hc8, hr⟩ := bd hr
 refine .tn fine (ca1 (ok0 (integer_Neg_ok n x'.Num v1 hc2)) (ca1 (ok0 (integer_Neg_ok n v1 v3 hc4)) (ca1 (ok0 (integer_Neg_ok n x'.Den v5 hc6)) (ca3 (ok0 (integer_Neg_ok n v5 v7 hc8)))))) <| .mu 2 <| .ca cf0 <| .ca (cfA (fun h => by rw [sv hc4 hc2 (integer_Neg_cg n h)]) cf0) <| .mu 2 <| .ca (cfA (fun h => by rw [sv hc6 hc2 (integer_Neg_cg n h)]) (cfA (fun h => by rw [sv hc6 hc4 (integer_Neg_cg n h)]) cf0)) <| .ca (cfA (fun h => by rw [sv hc8 hc2 (integer_Neg_cg n h)]) (cfA (fun h => by rw [sv hc8 hc4 (integer_Neg_cg n h)]) (cfA (fun h => by rw [sv hc8 hc6 (integer_Neg_cg n h)]) cf0))) <| .mu 2 ?_
 refine .done ⟨by kernel_rfl, ?_⟩
 refine .nh [2] [.own (api_Rat.c x'), .own [aB v3.Negative, sU32 v3.Groups, aB v7.Negative, sU32 v7.Groups]] <| .ret ?_
 obtain rfl := oi hr
 exact FinQ.r1 [.agg [aB v3.Negative, sU32 v3.Groups, aB v7.Negative, sU32 v7.Groups]]

theorem fraction_Value_inj {x' : api_Rat} {x'_ : api_Rat} (h : ([.agg [.at (.bool x'.Num.Negative), slT (iC .u32) x'.Num.Groups, .at (.bool x'.Den.Negative), slT (iC .u32) x'.Den.Groups]] : List AV) = [.agg [.at (.bool x'_.Num.Negative), slT (iC .u32) x'_.Num.Groups, .at (.bool x'_.Den.Negative), slT (iC .u32) x'_.Den.Groups]]) : x' = x'_ := by
 obtain ⟨⟨_, _⟩, ⟨_, _⟩⟩ := x'
 obtain ⟨⟨_, _⟩, ⟨_, _⟩⟩ := x'_
 simp only [List.cons.injEq, AV.agg.injEq, AV.at.injEq, Value.int.injEq, Value.bool.injEq, AV.fn.injEq, AV.pp.injEq, true_and, and_true, slT_inj_int] at h
 simp_all
theorem fraction_Value_cg (n : Nat) {x' : api_Rat} {x'_ : api_Rat} (h : ([.agg [.at (.bool x'.Num.Negative), slT (iC .u32) x'.Num.Groups, .at (.bool x'.Den.Negative), slT (iC .u32) x'.Den.Groups]] : List AV) = [.agg [.at (.bool x'_.Num.Negative), slT (iC .u32) x'_.Num.Groups, .at (.bool x'_.Den.Negative), slT (iC .u32) x'_.Den.Groups]]) : fraction_Value n x' = fraction_Value n x'_ := by
 obtain rfl := fraction_Value_inj h
 rfl
theorem fraction_Value_ok (n : Nat) (x' : api_Rat) (r : api_Rat) (hr : fraction_Value n x' = some r) : FnOk Tryz.prog 101 [.agg (api_Rat.c x')] (.agg (api_Rat.c r)) := by
 unfold fraction_Value at hr
 refine FnOk.bd fine Tryz.func101 [.cell 2 51] ?_
 unfold Tryz.f101
 simp only [Option.getD_some]
 refine .seq <| .r2 fine 8 [(1, .hp 0 0), (2, .hp 1 0)] [.own (api_Rat.c x'), .own [aB false, nS, aB false, nS]] <| .seq <| .seq ?_
 obtain ⟨v1, hc2, hr⟩ := bd hr
 refine .g1 fine (ok0 (fraction_Valid_ok n x' v1 hc2)) <| .mu 1 <| .ca cf0 <| .done <| .nh [1, 2, 4] [.own (api_Rat.c x'), .own [aB false, nS, aB false, nS]] ?_
 refine .cd hr (fun hb3 hr => ?_) (fun hb3 hr => ?_)
 ·refine .seq ?_
  obtain ⟨v4, hc5, hr⟩ := bd hr
  refine .g1 fine (ok0 (fraction_copied_ok n x' v4 hc5)) <| .mu 1 <| .ca cf0 <| .mu 1 <| .done <| .nh [2] [.own (api_Rat.c x'), .own (api_Rat.c v4)] <| .ret ?_
  obtain rfl := oi hr
  exact FinQ.r1 [.agg (api_Rat.c v4)]
 ·refine .skip <| .seq ?_
  obtain ⟨v6, hc7, hr⟩ := bd hr
  refine .g1 fine (ok0 (fraction_Whole_ok n 0 v6 hc7)) <| .ca cf0 <| .mu 1 <| .done <| .nh [2] [.own (api_Rat.c x'), .own (api_Rat.c v6)] <| .ret ?_
  obtain rfl := oi hr
  exact FinQ.r1 [.agg (api_Rat.c v6)]

theorem fraction_Neg_ok (n : Nat) (x' : api_Rat) (r : api_Rat) (hr : fraction_Neg n x' = some r) : FnOk Tryz.prog 77 [.agg (api_Rat.c x')] (.agg (api_Rat.c r)) := by
 unfold fraction_Neg at hr
 refine FnOk.bd fine Tryz.func77 [.cell 2 51] ?_
 unfold Tryz.f77
 simp only [Option.getD_some]
 refine .seq <| .r2 fine 11 [(1, .hp 0 0), (2, .hp 1 0)] [.own (api_Rat.c x'), .own [aB false, nS, aB false, nS]] <| .seq ?_
 obtain ⟨v1, hc2, hr⟩ := bd hr
 refine .g1 fine (ok0 (fraction_Value_ok n x' v1 hc2)) <| .mu 1 <| .ca cf0 <| .mu 1 <| .done <| .nh [1, 2] [.own (api_Rat.c v1), .own [aB false, nS, aB false, nS]] <| .seq ?_
 obtain ⟨v3, hc4, hr⟩ := bd hr
 refine .t1 fine (ok0 (integer_Neg_ok n v1.Num v3 hc4)) <| .mu 2 <| .ca cf0 <| .mu 4 ?_
 refine .done ⟨by kernel_rfl, ?_⟩
 refine .nh [2] [.own (api_Rat.c v1), .own [aB v3.Negative, sU32 v3.Groups, aB v1.Den.Negative, sU32 v1.Den.Groups]] <| .ret ?_
 obtain rfl := oi hr
 exact FinQ.r1 [.agg [aB v3.Negative, sU32 v3.Groups, aB v1.Den.Negative, sU32 v1.Den.Groups]]

theorem integer_Mul_inj {x' : api_Int} {y : api_Int} {x'_ : api_Int} {y_ : api_Int} (h : ([.agg [.at (.bool x'.Negative), slT (iC .u32) x'.Groups], .agg [.at (.bool y.Negative), slT (iC .u32) y.Groups]] : List AV) = [.agg [.at (.bool x'_.Negative), slT (iC .u32) x'_.Groups], .agg [.at (.bool y_.Negative), slT (iC .u32) y_.Groups]]) : x' = x'_ ∧ y = y_ := by
 obtain ⟨_, _⟩ := x'
 obtain ⟨_, _⟩ := x'_
 obtain ⟨_, _⟩ := y
 obtain ⟨_, _⟩ := y_
 simp only [List.cons.injEq, AV.agg.injEq, AV.at.injEq, Value.int.injEq, Value.bool.injEq, AV.fn.injEq, AV.pp.injEq, true_and, and_true, slT_inj_int] at h
 simp_all
theorem integer_Mul_cg (n : Nat) {x' : api_Int} {y : api_Int} {x'_ : api_Int} {y_ : api_Int} (h : ([.agg [.at (.bool x'.Negative), slT (iC .u32) x'.Groups], .agg [.at (.bool y.Negative), slT (iC .u32) y.Groups]] : List AV) = [.agg [.at (.bool x'_.Negative), slT (iC .u32) x'_.Groups], .agg [.at (.bool y_.Negative), slT (iC .u32) y_.Groups]]) : integer_Mul n x' y = integer_Mul n x'_ y_ := by
 obtain ⟨rfl, rfl⟩ := integer_Mul_inj h
 rfl
theorem integer_Mul_ok (n : Nat) (x' : api_Int) (y : api_Int) (r : api_Int) (hr : integer_Mul n x' y = some r) : FnOk Tryz.prog 103 [.agg (api_Int.c x'), .agg (api_Int.c y)] (.agg (api_Int.c r)) := by
 unfold integer_Mul at hr
 refine FnOk.bd fine Tryz.func103 [.cell 4 49] ?_
 unfold Tryz.f103
 simp only [Option.getD_some]
 refine .seq <| .r2 fine 16 [(2, .hp 0 0), (3, .hp 1 0), (4, .hp 2 0)] [.own (api_Int.c x'), .own (api_Int.c y), .own [aB false, nS]] <| .seq ?_
 obtain ⟨v1, hc2, v3, hc4, v5, hc6, hr⟩ := bd3 hr
 obtain ⟨v7, hc8, hr⟩ := bd hr
 refine .tn fine (ca1 (ok0 (integer_groups_ok n x' v1 hc2)) (ca1 (ok0 (integer_groups_ok n y v3 hc4)) (ca1 (ok0 (integer_times_ok n v1 v3 v5 hc6)) (ca3 (ok0 (integer_made_ok n (x'.Negative != y.Negative) v5 v7 hc8)))))) <| .mu 6 <| .ca cf0 <| .mu 1 <| .ca (cfA (fun h => by rw [sv hc4 hc2 (integer_groups_cg n h)]) cf0) <| .ca (cfF (cfF cf0)) <| .ca (cfF (cfF (cfF cf0))) <| .mu 1 ?_
 refine .done ⟨by kernel_rfl, ?_⟩
 refine .nh [4] [.own (api_Int.c x'), .own (api_Int.c y), .own (api_Int.c v7)] <| .ret ?_
 obtain rfl := oi hr
 exact FinQ.r1 [.agg (api_Int.c v7)]

theorem integer_sum_ok (n : Nat) (negative : Bool) (a : List Int) (other : Bool) (b : List Int) (r : api_Int) (hr : integer_sum n negative a other b = some r) : FnOk Tryz.prog 125 [aB negative, sU32 a, aB other, sU32 b] (.agg (api_Int.c r)) := by
 unfold integer_sum at hr
 refine FnOk.bd fine Tryz.func125 [.cell 8 49] ?_
 unfold Tryz.f125
 simp only [Option.getD_some]
 refine .seq <| .r5 fine [0, 1, 2, 3] [(8, .hp 0 0)] [.own [aB false, nS]] <| .seq <| .block <| .seq <| .r4 fine [0, 1, 2, 3, 8] [(9, aB (negative == other))] ?_
 refine .cd hr (fun hb1 hr => ?_) (fun hb1 hr => ?_)
 ·refine .seq ?_
  obtain ⟨v2, hc3, v4, hc5, hr⟩ := bd2 hr
  refine .gn fine (ca1 (ok0 (integer_plus_ok n a b v2 hc3)) (ca3 (ok0 (integer_made_ok n negative v2 v4 hc5)))) <| .mu 3 <| .ca cf0 <| .ca (cfF cf0) <| .mu 1 <| .done <| .nh [8] [.own (api_Int.c v4)] <| .ret ?_
  obtain rfl := oi hr
  exact FinQ.r1 [.agg (api_Int.c v4)]
 ·refine .seq ?_
  obtain ⟨v6, hc7, hr⟩ := bd hr
  refine .g1 fine (ok0 (integer_compare_ok n a b v6 hc7)) <| .mu 2 <| .ca cf0 <| .mu 2 <| .done <| .nh [0, 1, 2, 3, 8, 18] [.own [aB false, nS]] ?_
  refine .cd hr (fun hb8 hr => ?_) (fun hb8 hr => ?_)
  ·refine .seq ?_
   obtain ⟨v9, hc10, v11, hc12, hr⟩ := bd2 hr
   refine .gn fine (ca1 (ok0 (integer_minus_ok n a b v9 hc10)) (ca3 (ok0 (integer_made_ok n negative v9 v11 hc12)))) <| .mu 3 <| .ca cf0 <| .ca (cfF cf0) <| .mu 1 <| .done <| .nh [8] [.own (api_Int.c v11)] <| .ret ?_
   obtain rfl := oi hr
   exact FinQ.r1 [.agg (api_Int.c v11)]
  ·refine .skip <| .pop <| .seq ?_
   obtain ⟨v13, hc14, v15, hc16, hr⟩ := bd2 hr
   refine .gn fine (ca1 (ok0 (integer_minus_ok n b a v13 hc14)) (ca3 (ok0 (integer_made_ok n other v13 v15 hc16)))) <| .mu 3 <| .ca cf0 <| .ca (cfF cf0) <| .mu 1 <| .done <| .nh [8] [.own (api_Int.c v15)] <| .ret ?_
   obtain rfl := oi hr
   exact FinQ.r1 [.agg (api_Int.c v15)]

theorem integer_Add_ok (n : Nat) (x' : api_Int) (y : api_Int) (r : api_Int) (hr : integer_Add n x' y = some r) : FnOk Tryz.prog 102 [.agg (api_Int.c x'), .agg (api_Int.c y)] (.agg (api_Int.c r)) := by
 unfold integer_Add at hr
 refine FnOk.bd fine Tryz.func102 [.cell 4 49] ?_
 unfold Tryz.f102
 simp only [Option.getD_some]
 refine .seq <| .r2 fine 14 [(2, .hp 0 0), (3, .hp 1 0), (4, .hp 2 0)] [.own (api_Int.c x'), .own (api_Int.c y), .own [aB false, nS]] <| .seq ?_
 obtain ⟨v1, hc2, v3, hc4, v5, hc6, hr⟩ := bd3 hr
 refine .tn fine (ca1 (ok0 (integer_groups_ok n x' v1 hc2)) (ca1 (ok0 (integer_groups_ok n y v3 hc4)) (ca3 (ok0 (integer_sum_ok n x'.Negative v1 y.Negative v3 v5 hc6))))) <| .mu 3 <| .ca cf0 <| .mu 3 <| .ca (cfA (fun h => by rw [sv hc4 hc2 (integer_groups_cg n h)]) cf0) <| .ca (cfF (cfF cf0)) <| .mu 1 ?_
 refine .done ⟨by kernel_rfl, ?_⟩
 refine .nh [4] [.own (api_Int.c x'), .own (api_Int.c y), .own (api_Int.c v5)] <| .ret ?_
 obtain rfl := oi hr
 exact FinQ.r1 [.agg (api_Int.c v5)]

theorem fraction_Add_ok (n : Nat) (x' : api_Rat) (y : api_Rat) (r : api_Rat) (hr : fraction_Add n x' y = some r) : FnOk Tryz.prog 76 [.agg (api_Rat.c x'), .agg (api_Rat.c y)] (.agg (api_Rat.c r)) := by
 unfold fraction_Add at hr
 refine FnOk.bd fine Tryz.func76 [.cell 4 51] ?_
 unfold Tryz.f76
 simp only [Option.getD_some]
 refine .seq <| .r2 fine 26 [(2, .hp 0 0), (3, .hp 1 0), (4, .hp 2 0)] [.own (api_Rat.c x'), .own (api_Rat.c y), .own [aB false, nS, aB false, nS]] <| .seq ?_
 obtain ⟨v1, hc2, v3, hc4, hr⟩ := bd2 hr
 refine .tn fine (ca1 (ok0 (fraction_Value_ok n x' v1 hc2)) (ca3 (ok0 (fraction_Value_ok n y v3 hc4)))) <| .mu 1 <| .ca cf0 <| .mu 1 <| .ca (cfA (fun h => by rw [sv hc4 hc2 (fraction_Value_cg n h)]) cf0) <| .mu 2 ?_
 refine .done ⟨by kernel_rfl, ?_⟩
 refine .nh [2, 3, 4] [.own (api_Rat.c v1), .own (api_Rat.c v3), .own [aB false, nS, aB false, nS]] <| .seq ?_
 obtain ⟨v5, hc6, v7, hc8, v9, hc10, hr⟩ := bd3 hr
 obtain ⟨v11, hc12, v13, hc14, hr⟩ := bd2 hr
 refine .tn fine (ca1 (ok0 (integer_Mul_ok n v1.Num v3.Den v5 hc6)) (ca1 (ok0 (integer_Mul_ok n v3.Num v1.Den v7 hc8)) (ca1 (ok0 (integer_Add_ok n v5 v7 v9 hc10)) (ca1 (ok0 (integer_Mul_ok n v1.Den v3.Den v11 hc12)) (ca3 (ok0 (fraction_reduced_ok n v9 v11 v13 hc14))))))) <| .mu 4 <| .ca cf0 <| .mu 4 <| .ca (cfA (fun h => by rw [sv hc8 hc6 (integer_Mul_cg n h)]) cf0) <| .ca (cfF (cfF cf0)) <| .mu 4 <| .ca (cfA (fun h => by rw [sv hc12 hc6 (integer_Mul_cg n h)]) (cfA (fun h => by rw [sv hc12 hc8 (integer_Mul_cg n h)]) (cfF cf0))) <| .ca (cfF (cfF (cfF (cfF cf0)))) <| .mu 1 ?_
 refine .done ⟨by kernel_rfl, ?_⟩
 refine .nh [4] [.own (api_Rat.c v1), .own (api_Rat.c v3), .own (api_Rat.c v13)] <| .ret ?_
 obtain rfl := oi hr
 exact FinQ.r1 [.agg (api_Rat.c v13)]

theorem fraction_Sub_ok (n : Nat) (x' : api_Rat) (y : api_Rat) (r : api_Rat) (hr : fraction_Sub n x' y = some r) : FnOk Tryz.prog 50 [.agg (api_Rat.c x'), .agg (api_Rat.c y)] (.agg (api_Rat.c r)) := by
 unfold fraction_Sub at hr
 refine FnOk.bd fine Tryz.func50 [.cell 4 51] ?_
 unfold Tryz.f50
 simp only [Option.getD_some]
 refine .seq <| .r2 fine 9 [(2, .hp 0 0), (3, .hp 1 0), (4, .hp 2 0)] [.own (api_Rat.c x'), .own (api_Rat.c y), .own [aB false, nS, aB false, nS]] <| .seq ?_
 obtain ⟨v1, hc2, v3, hc4, hr⟩ := bd2 hr
 refine .tn fine (ca1 (ok0 (fraction_Neg_ok n y v1 hc2)) (ca3 (ok0 (fraction_Add_ok n x' v1 v3 hc4)))) <| .mu 2 <| .ca cf0 <| .ca (cfF cf0) <| .mu 1 ?_
 refine .done ⟨by kernel_rfl, ?_⟩
 refine .nh [4] [.own (api_Rat.c x'), .own (api_Rat.c y), .own (api_Rat.c v3)] <| .ret ?_
 obtain rfl := oi hr
 exact FinQ.r1 [.agg (api_Rat.c v3)]

theorem plan_Overlaps_1_inj {d : Int} {size : Int} {p : Int} {p' : Int} {p'' : Int} {p''' : Int} {p'''' : Int} {p''''' : Int} {p'''''' : Int} {p''''''' : Int} {p'''''''' : Int} {p''''''''' : Int} {p'''''''''' : Int} {p''''''''''' : List (List api_Pix)} {p'''''''''''' : Int} {d_ : Int} {size_ : Int} {p_ : Int} {p'_ : Int} {p''_ : Int} {p'''_ : Int} {p''''_ : Int} {p'''''_ : Int} {p''''''_ : Int} {p'''''''_ : Int} {p''''''''_ : Int} {p'''''''''_ : Int} {p''''''''''_ : Int} {p'''''''''''_ : List (List api_Pix)} {p''''''''''''_ : Int} (h : ([.at (.int .i64 d), .at (.int .i64 size), .pp [.at (.int .i64 p), .at (.int .i64 p'), .at (.int .i64 p''), .at (.int .i64 p'''), .at (.int .i64 p''''), .at (.int .i64 p'''''), .at (.int .i64 p''''''), .at (.int .i64 p'''''''), .at (.int .i64 p''''''''), .at (.int .i64 p''''''''')] 0, .pp [.at (.int .i64 p''''''''''), slT (slC api_Pix.c) p'''''''''''] 0, .pp [.at (.int .i64 p'''''''''''')] 0] : List AV) = [.at (.int .i64 d_), .at (.int .i64 size_), .pp [.at (.int .i64 p_), .at (.int .i64 p'_), .at (.int .i64 p''_), .at (.int .i64 p'''_), .at (.int .i64 p''''_), .at (.int .i64 p'''''_), .at (.int .i64 p''''''_), .at (.int .i64 p'''''''_), .at (.int .i64 p''''''''_), .at (.int .i64 p'''''''''_)] 0, .pp [.at (.int .i64 p''''''''''_), slT (slC api_Pix.c) p'''''''''''_] 0, .pp [.at (.int .i64 p''''''''''''_)] 0]) : d = d_ ∧ size = size_ ∧ p = p_ ∧ p' = p'_ ∧ p'' = p''_ ∧ p''' = p'''_ ∧ p'''' = p''''_ ∧ p''''' = p'''''_ ∧ p'''''' = p''''''_ ∧ p''''''' = p'''''''_ ∧ p'''''''' = p''''''''_ ∧ p''''''''' = p'''''''''_ ∧ p'''''''''' = p''''''''''_ ∧ p''''''''''' = p'''''''''''_ ∧ p'''''''''''' = p''''''''''''_ := by
 simp only [List.cons.injEq, AV.agg.injEq, AV.at.injEq, Value.int.injEq, Value.bool.injEq, AV.fn.injEq, AV.pp.injEq, true_and, and_true, (slT_inj (slC_len _) (by decide) (slC_inj api_Pix.len (by decide) api_Pix.inj))] at h
 simp_all
theorem plan_Overlaps_1_cg (n : Nat) {d : Int} {size : Int} {p : Int} {p' : Int} {p'' : Int} {p''' : Int} {p'''' : Int} {p''''' : Int} {p'''''' : Int} {p''''''' : Int} {p'''''''' : Int} {p''''''''' : Int} {p'''''''''' : Int} {p''''''''''' : List (List api_Pix)} {p'''''''''''' : Int} {d_ : Int} {size_ : Int} {p_ : Int} {p'_ : Int} {p''_ : Int} {p'''_ : Int} {p''''_ : Int} {p'''''_ : Int} {p''''''_ : Int} {p'''''''_ : Int} {p''''''''_ : Int} {p'''''''''_ : Int} {p''''''''''_ : Int} {p'''''''''''_ : List (List api_Pix)} {p''''''''''''_ : Int} (h : ([.at (.int .i64 d), .at (.int .i64 size), .pp [.at (.int .i64 p), .at (.int .i64 p'), .at (.int .i64 p''), .at (.int .i64 p'''), .at (.int .i64 p''''), .at (.int .i64 p'''''), .at (.int .i64 p''''''), .at (.int .i64 p'''''''), .at (.int .i64 p''''''''), .at (.int .i64 p''''''''')] 0, .pp [.at (.int .i64 p''''''''''), slT (slC api_Pix.c) p'''''''''''] 0, .pp [.at (.int .i64 p'''''''''''')] 0] : List AV) = [.at (.int .i64 d_), .at (.int .i64 size_), .pp [.at (.int .i64 p_), .at (.int .i64 p'_), .at (.int .i64 p''_), .at (.int .i64 p'''_), .at (.int .i64 p''''_), .at (.int .i64 p'''''_), .at (.int .i64 p''''''_), .at (.int .i64 p'''''''_), .at (.int .i64 p''''''''_), .at (.int .i64 p'''''''''_)] 0, .pp [.at (.int .i64 p''''''''''_), slT (slC api_Pix.c) p'''''''''''_] 0, .pp [.at (.int .i64 p''''''''''''_)] 0]) : plan_Overlaps_1 n d size p p' p'' p''' p'''' p''''' p'''''' p''''''' p'''''''' p''''''''' p'''''''''' p''''''''''' p'''''''''''' = plan_Overlaps_1 n d_ size_ p_ p'_ p''_ p'''_ p''''_ p'''''_ p''''''_ p'''''''_ p''''''''_ p'''''''''_ p''''''''''_ p'''''''''''_ p''''''''''''_ := by
 obtain ⟨rfl, rfl, rfl, rfl, rfl, rfl, rfl, rfl, rfl, rfl, rfl, rfl, rfl, rfl, rfl⟩ := plan_Overlaps_1_inj h
 rfl
theorem plan_Overlaps_1_ok (n : Nat) (d : Int) (size : Int) (p : Int) (p' : Int) (p'' : Int) (p''' : Int) (p'''' : Int) (p''''' : Int) (p'''''' : Int) (p''''''' : Int) (p'''''''' : Int) (p''''''''' : Int) (p'''''''''' : Int) (p''''''''''' : List (List api_Pix)) (p'''''''''''' : Int) (r : api_Rat) (hr : plan_Overlaps_1 n d size p p' p'' p''' p'''' p''''' p'''''' p''''''' p'''''''' p''''''''' p'''''''''' p''''''''''' p'''''''''''' = some r) : FnOk Tryz.prog 48 [aI64 d, aI64 size, .pp [aI64 p, aI64 p', aI64 p'', aI64 p''', aI64 p'''', aI64 p''''', aI64 p'''''', aI64 p''''''', aI64 p'''''''', aI64 p'''''''''] 0, .pp [aI64 p'''''''''', slT (slC api_Pix.c) p'''''''''''] 0, .pp [aI64 p''''''''''''] 0] (.agg (api_Rat.c r)) := by
 unfold plan_Overlaps_1 at hr
 refine FnOk.bd fine Tryz.func48 [.cell 7 51] ?_
 unfold Tryz.f48
 simp only [Option.getD_some]
 refine .seq <| .r5 fine [0, 1, 2, 3, 4] [(7, .hp 0 0)] [.own [aB false, nS, aB false, nS]] <| .seq ?_
 obtain ⟨v1, hc2, hr⟩ := bd hr
 refine .g1 fine (ok0 (fraction_Of_ok n (wrapF .i64 (d * p'''''')) (wrapF .i64 (size * (wrapF .i64 (p'''''''''' - p'''''''''''')))) v1 hc2)) <| .mu 10 <| .ca cf0 <| .mu 6 <| .done <| .nh [7, 8] [.own [aB false, nS, aB false, nS], .own (api_Rat.c v1.1)] <| .seq ?_
 obtain ⟨v3, hc4, v5, hc6, hr⟩ := bd2 hr
 refine .tn fine (ca1 (ok0 (fraction_Whole_ok n 1 v3 hc4)) (ca3 (ok0 (fraction_Sub_ok n v3 v1.1 v5 hc6)))) <| .ca cf0 <| .mu 1 <| .ca (cfF cf0) <| .mu 1 ?_
 refine .done ⟨by kernel_rfl, ?_⟩
 refine .nh [7] [.own (api_Rat.c v5), .own (api_Rat.c v1.1)] <| .ret ?_
 obtain rfl := oi hr
 exact FinQ.r1 [.agg (api_Rat.c v5)]

theorem plan_Overlaps_ok (n : Nat) (s : api_Survey) (f : api_Flight) (ground : Int) (r : api_Rat × api_Rat × Int) (hr : plan_Overlaps n s f ground = some r) : FnOk Tryz.prog 18 [.agg (api_Survey.c s), .agg (api_Flight.c f), aI64 ground] (.tup [.agg (api_Rat.c r.1), .agg (api_Rat.c r.2.1), aI64 r.2.2]) := by
 unfold plan_Overlaps at hr
 refine FnOk.bd fine Tryz.func18 [.cell 6 51, .cell 7 51, .tmp 8] ?_
 unfold Tryz.f18
 simp only [Option.getD_some]
 refine .seq <| .r2 fine 91 [(3, .hp 0 0), (4, .hp 1 0), (5, .hp 2 0), (6, .hp 3 0), (7, .hp 4 0)] [.own (api_Survey.c s), .own (api_Flight.c f), .own [aI64 ground], .own [aB false, nS, aB false, nS], .own [aB false, nS, aB false, nS]] <| .seq <| .seq ?_
 obtain ⟨v1, hc2, hr⟩ := bd hr
 refine .g1 fine (ok0 (plan_asked_ok n s f ground false v1 hc2)) <| .mu 3 <| .ca cf0 <| .mu 1 <| .done <| .nh [3, 4, 5, 6, 7, 9] [.own (api_Survey.c s), .own (api_Flight.c f), .own [aI64 ground], .own [aB false, nS, aB false, nS], .own [aB false, nS, aB false, nS]] <| .seq <| .r4 fine [3, 4, 5, 6, 7, 9] [(23, aB ((v1 : Int) != 0))] ?_
 refine .cd hr (fun hb4 hr => ?_) (fun hb4 hr => ?_)
 ·refine .seq <| .r4 fine [6, 7] [(8, aI64 v1)] <| .ret ?_
  obtain rfl := oi hr
  exact FinQ.ret (vs := [.agg [aB false, nS, aB false, nS], .agg [aB false, nS, aB false, nS], aI64 v1]) (by kernel_rfl) (Sn.tup (SnL.cons (Sn.agg (SnL.cons (Sn.pure rfl) (SnL.cons Sn.nilsl (SnL.cons (Sn.pure rfl) (SnL.cons Sn.nilsl SnL.nil))))) (SnL.cons (Sn.agg (SnL.cons (Sn.pure rfl) (SnL.cons Sn.nilsl (SnL.cons (Sn.pure rfl) (SnL.cons Sn.nilsl SnL.nil))))) (SnL.cons (Sn.pure rfl) SnL.nil))))
 ·refine .skip <| .seq <| .r4 fine [3, 4, 5, 6, 7] [(10, aI64 0), (11, aI64 0)] <| .seq <| .seq <| .r4 fine [3, 4, 5, 6, 7, 10, 11] [(28, slT (slC api_Pix.c) f.Strips), (29, aI64 (f.Strips.length : Int)), (30, aI64 0)] <| .block ?_
  replace hr := bd hr; obtain ⟨o168, hL169, hr⟩ := hr
  refine .loopO (σ := fun z0 => match z0 with | (along_88, across_89, x_90) => ⟨mkS 91 0 [(3, .hp 0 0), (4, .hp 1 0), (5, .hp 2 0), (6, .hp 3 0), (7, .hp 4 0), (10, aI64 along_88), (11, aI64 across_89), (28, slT (slC api_Pix.c) f.Strips), (29, aI64 (f.Strips.length : Int)), (30, aI64 x_90)], [.own (api_Survey.c s), .own (api_Flight.c f), .own [aI64 ground], .own [aB false, nS, aB false, nS], .own [aB false, nS, aB false, nS]]⟩) (Q := fun x st' => match (generalizing := false) o168 with | (along_128, across_129) => x = .exit 0 ∧ Wk 0 st' ⟨mkS 91 0 [(3, .hp 0 0), (4, .hp 1 0), (5, .hp 2 0), (6, .hp 3 0), (7, .hp 4 0), (10, aI64 along_128), (11, aI64 across_129)], [.own (api_Survey.c s), .own (api_Flight.c f), .own [aI64 ground], .own [aB false, nS, aB false, nS], .own [aB false, nS, aB false, nS]]⟩) hL169 ((Wk.gc [3, 4, 5, 6, 7, 10, 11, 28, 29, 30] [(0, true), (1, true), (2, true), (3, true), (4, true)] rfl trivial).to (by kernel_rfl)) ?_ ?_
  ·clear hr
   rintro m ⟨along_88, across_89, x_90⟩ hr
   show CQ _ _ _ _ _ ⟨_, _⟩
   refine .seq <| .r4 fine [3, 4, 5, 6, 7, 10, 11, 28, 29, 30] [(31, aB (decide (x_90 < (f.Strips.length : Int))))] <| .seq ?_
   refine .cd hr (fun hb132 hr => ?_) (fun hb132 hr => ?_)
   ·refine .skip <| .seq <| .block <| .seq ?_
    obtain ⟨hg133, hr⟩ := gd hr
    refine .r0 fine <| .mu 1 <| .p0 (v := .pp (f.Strips.flatMap (slC api_Pix.c)) (x_90.toNat * 1)) (tr (ofP_guard hg133)) <| .p0 (v := slT api_Pix.c (gt f.Strips x_90)) (tr (ofP_some (flat_get (slC_len api_Pix.c) (inR_lt hg133) (by decide : 0 < 1) (by omega : x_90.toNat * 1 = x_90.toNat * 1 + 0) (by kernel_rfl)))) <| .mu 2 <| .done <| .nh [3, 4, 5, 6, 7, 10, 11, 12, 13, 28, 29, 30] [.own (api_Survey.c s), .own (api_Flight.c f), .own [aI64 ground], .own [aB false, nS, aB false, nS], .own [aB false, nS, aB false, nS]] <| .seq <| .seq <| .r4 fine [3, 4, 5, 6, 7, 10, 11, 12, 13, 28, 29, 30] [(14, aI64 1)] <| .block ?_
    replace hr := bd hr; obtain ⟨along_155, hL162, hr⟩ := hr
    refine .loopO (σ := fun z0 => match z0 with | (along_149, k_150) => ⟨mkS 91 0 [(3, .hp 0 0), (4, .hp 1 0), (5, .hp 2 0), (6, .hp 3 0), (7, .hp 4 0), (10, aI64 along_149), (11, aI64 across_89), (12, aI64 x_90), (13, slT api_Pix.c (gt f.Strips x_90)), (14, aI64 k_150), (28, slT (slC api_Pix.c) f.Strips), (29, aI64 (f.Strips.length : Int)), (30, aI64 x_90)], [.own (api_Survey.c s), .own (api_Flight.c f), .own [aI64 ground], .own [aB false, nS, aB false, nS], .own [aB false, nS, aB false, nS]]⟩) (Q := fun x st' => x = .exit 2 ∧ Wk 0 st' ⟨mkS 91 0 [(3, .hp 0 0), (4, .hp 1 0), (5, .hp 2 0), (6, .hp 3 0), (7, .hp 4 0), (10, aI64 along_155), (11, aI64 across_89), (12, aI64 x_90), (13, slT api_Pix.c (gt f.Strips x_90)), (28, slT (slC api_Pix.c) f.Strips), (29, aI64 (f.Strips.length : Int)), (30, aI64 x_90)], [.own (api_Survey.c s), .own (api_Flight.c f), .own [aI64 ground], .own [aB false, nS, aB false, nS], .own [aB false, nS, aB false, nS]]⟩) hL162 ((Wk.gc [3, 4, 5, 6, 7, 10, 11, 12, 13, 14, 28, 29, 30] [(0, true), (1, true), (2, true), (3, true), (4, true)] rfl trivial).to (by kernel_rfl)) ?_ ?_
    ·clear hr
     rintro m ⟨along_149, k_150⟩ hr
     show CQ _ _ _ _ _ ⟨_, _⟩
     refine .seq <| .seq <| .r4 fine [3, 4, 5, 6, 7, 10, 11, 12, 13, 14, 28, 29, 30] [(38, aB (decide (k_150 < ((gt f.Strips x_90).length : Int))))] ?_
     refine .cd hr (fun hb158 hr => ?_) (fun hb158 hr => ?_)
     ·refine .skip <| .seq <| .block <| .seq ?_
      obtain ⟨hg159, hg160, hr⟩ := gd2 hr
      refine .regionT fine callOf_nil <| .mu 2 <| .pure (v := .pp ((gt f.Strips x_90).flatMap api_Pix.c) (k_150.toNat * 2)) (by kernel_rfl) (tr (ofP_guard hg159)) (by kernel_rfl) <| .mu 1 <| .pure (v := aI64 (gt (gt f.Strips x_90) k_150).X) (by kernel_rfl) (tr (ofP_some (flat_get api_Pix.len (inR_lt hg159) (by decide : 0 < 2) (by omega : k_150.toNat * 2 + 0 = k_150.toNat * 2 + 0) (by kernel_rfl)))) (by kernel_rfl) <| .mu 3 <| .pure (v := .pp ((gt f.Strips x_90).flatMap api_Pix.c) ((wrapF .i64 (k_150 - 1)).toNat * 2)) (by kernel_rfl) (tr (ofP_guard hg160)) (by kernel_rfl) <| .mu 1 <| .pure (v := aI64 (gt (gt f.Strips x_90) (wrapF .i64 (k_150 - 1))).X) (by kernel_rfl) (tr (ofP_some (flat_get api_Pix.len (inR_lt hg160) (by decide : 0 < 2) (by omega : (wrapF .i64 (k_150 - 1)).toNat * 2 + 0 = (wrapF .i64 (k_150 - 1)).toNat * 2 + 0) (by kernel_rfl)))) (by kernel_rfl) <| .mu 2 ?_
      refine .done ⟨by kernel_rfl, ?_⟩
      refine .nh [3, 4, 5, 6, 7, 10, 11, 12, 13, 14, 15, 28, 29, 30] [.own (api_Survey.c s), .own (api_Flight.c f), .own [aI64 ground], .own [aB false, nS, aB false, nS], .own [aB false, nS, aB false, nS]] <| .r0 fine <| .mu 3 <| .p0 (v := aI64 (wrapF .i64 (0 - (wrapF .i64 ((gt (gt f.Strips x_90) k_150).X - (gt (gt f.Strips x_90) (wrapF .i64 (k_150 - 1))).X))))) (Eq.trans (b := some (.pure (aI64 (IntKind.wrap .i64 (0 - (wrapF .i64 ((gt (gt f.Strips x_90) k_150).X - (gt (gt f.Strips x_90) (wrapF .i64 (k_150 - 1))).X))))))) (by kernel_rfl) wrap_at) <| .mu 2 <| .done <| .pop <| .ru fine ?_
      exact loopF_back (mx (mx along_149 (wrapF .i64 ((gt (gt f.Strips x_90) k_150).X - (gt (gt f.Strips x_90) (wrapF .i64 (k_150 - 1))).X))) (wrapF .i64 (0 - (wrapF .i64 ((gt (gt f.Strips x_90) k_150).X - (gt (gt f.Strips x_90) (wrapF .i64 (k_150 - 1))).X)))), wrapF .i64 (k_150 + 1)) hr ((Wk.gc [3, 4, 5, 6, 7, 10, 11, 12, 13, 14, 28, 29, 30] [(0, true), (1, true), (2, true), (3, true), (4, true)] rfl trivial).to (by kernel_rfl))
     ·refine .leave rfl ?_
      obtain rfl := oi hr
      exact ⟨rfl, ((Wk.gc [3, 4, 5, 6, 7, 10, 11, 12, 13, 28, 29, 30] [(0, true), (1, true), (2, true), (3, true), (4, true)] rfl trivial).to (by kernel_rfl))⟩
    ·rintro x st' hq163
     clear hL162
     obtain ⟨rfl, hq163⟩ := hq163
     refine CQ_exit _ rfl <| .wk hq163 <| .seq <| .r4 fine [3, 4, 5, 6, 7, 10, 11, 12, 13, 28, 29, 30] [(59, aB (decide (x_90 > 0)))] ?_
     refine .cd hr (fun hb164 hr => ?_) (fun hb164 hr => ?_)
     ·refine .seq ?_
      obtain ⟨hg165, hg166, hg167, hr⟩ := gd3 hr
      refine .regionT fine callOf_nil <| .mu 1 <| .pure (v := .pp ((gt f.Strips x_90).flatMap api_Pix.c) ((0 : Int).toNat * 2)) (by kernel_rfl) (tr (ofP_guard hg165)) (by kernel_rfl) <| .mu 1 <| .pure (v := aI64 (gt (gt f.Strips x_90) 0).Y) (by kernel_rfl) (tr (ofP_some (flat_get api_Pix.len (inR_lt hg165) (by decide : 1 < 2) (by omega : (0 : Int).toNat * 2 + 1 = (0 : Int).toNat * 2 + 1) (by kernel_rfl)))) (by kernel_rfl) <| .mu 4 <| .pure (v := .pp (f.Strips.flatMap (slC api_Pix.c)) ((wrapF .i64 (x_90 - 1)).toNat * 1)) (by kernel_rfl) (tr (ofP_guard hg166)) (by kernel_rfl) <| .pure (v := slT api_Pix.c (gt f.Strips (wrapF .i64 (x_90 - 1)))) (by kernel_rfl) (tr (ofP_some (flat_get (slC_len api_Pix.c) (inR_lt hg166) (by decide : 0 < 1) (by omega : (wrapF .i64 (x_90 - 1)).toNat * 1 = (wrapF .i64 (x_90 - 1)).toNat * 1 + 0) (by kernel_rfl)))) (by kernel_rfl) <| .pure (v := .pp ((gt f.Strips (wrapF .i64 (x_90 - 1))).flatMap api_Pix.c) ((0 : Int).toNat * 2)) (by kernel_rfl) (tr (ofP_guard hg167)) (by kernel_rfl) <| .mu 1 <| .pure (v := aI64 (gt (gt f.Strips (wrapF .i64 (x_90 - 1))) 0).Y) (by kernel_rfl) (tr (ofP_some (flat_get api_Pix.len (inR_lt hg167) (by decide : 1 < 2) (by omega : (0 : Int).toNat * 2 + 1 = (0 : Int).toNat * 2 + 1) (by kernel_rfl)))) (by kernel_rfl) <| .mu 2 ?_
      refine .done ⟨by kernel_rfl, ?_⟩
      refine .nh [3, 4, 5, 6, 7, 10, 11, 16, 28, 29, 30] [.own (api_Survey.c s), .own (api_Flight.c f), .own [aI64 ground], .own [aB false, nS, aB false, nS], .own [aB false, nS, aB false, nS]] <| .r0 fine <| .mu 3 <| .p0 (v := aI64 (wrapF .i64 (0 - (wrapF .i64 ((gt (gt f.Strips x_90) 0).Y - (gt (gt f.Strips (wrapF .i64 (x_90 - 1))) 0).Y))))) (Eq.trans (b := some (.pure (aI64 (IntKind.wrap .i64 (0 - (wrapF .i64 ((gt (gt f.Strips x_90) 0).Y - (gt (gt f.Strips (wrapF .i64 (x_90 - 1))) 0).Y))))))) (by kernel_rfl) wrap_at) <| .mu 2 <| .done <| .pop <| .ru fine ?_
      exact loopF_back (along_155, mx (mx across_89 (wrapF .i64 ((gt (gt f.Strips x_90) 0).Y - (gt (gt f.Strips (wrapF .i64 (x_90 - 1))) 0).Y))) (wrapF .i64 (0 - (wrapF .i64 ((gt (gt f.Strips x_90) 0).Y - (gt (gt f.Strips (wrapF .i64 (x_90 - 1))) 0).Y)))), wrapF .i64 (x_90 + 1)) hr ((Wk.gc [3, 4, 5, 6, 7, 10, 11, 28, 29, 30] [(0, true), (1, true), (2, true), (3, true), (4, true)] rfl trivial).to (by kernel_rfl))
     ·refine .skip <| .pop <| .ru fine ?_
      exact loopF_back (along_155, across_89, wrapF .i64 (x_90 + 1)) hr ((Wk.gc [3, 4, 5, 6, 7, 10, 11, 28, 29, 30] [(0, true), (1, true), (2, true), (3, true), (4, true)] rfl trivial).to (by kernel_rfl))
   ·refine .leave rfl ?_
    obtain rfl := oi hr
    exact ⟨rfl, ((Wk.gc [3, 4, 5, 6, 7, 10, 11] [(0, true), (1, true), (2, true), (3, true), (4, true)] rfl trivial).to (by kernel_rfl))⟩
  ·rcases o168 with ⟨along_128, across_129⟩
   rintro x st' hq170
   clear hL169
   obtain ⟨rfl, hq170⟩ := hq170
   refine CQ_exit _ rfl <| .wk hq170 <| .seq <| .r4 fine [3, 6, 7, 10, 11] [(17, .fn 48 [] [.hp 0 0, .hp 1 0, .hp 2 0])] <| .seq <| .wk (((Wk.fix 0 (cs := (api_Survey.c s)) (by kernel_rfl)).trans ((Wk.fix 1 (cs := (api_Flight.c f)) (by kernel_rfl)).trans (Wk.fix 2 (cs := [aI64 ground]) (by kernel_rfl)))).to (c := ⟨mkS 91 0 [(3, .hp 0 0), (6, .hp 3 0), (7, .hp 4 0), (10, aI64 along_128), (11, aI64 across_129), (17, .fn 48 [] [.hp 0 0, .hp 1 0, .hp 2 0])], [.fix (api_Survey.c s), .fix (api_Flight.c f), .fix [aI64 ground], .own [aB false, nS, aB false, nS], .own [aB false, nS, aB false, nS]]⟩) (by kernel_rfl)) ?_
   obtain ⟨v171, hc172, v173, hc174, hr⟩ := bd2 hr
   refine .tn fine (ca1 (callOk_ref (args := [aI64 along_128, aI64 s.Along, .hp 0 0, .hp 1 0, .hp 2 0]) (l := [0, 1, 2]) (SnL.cons (Sn.pure rfl) (SnL.cons (Sn.pure rfl) (SnL.cons (Sn.hp rfl (.inr rfl) (SnC.cons (Sn.pure rfl) (SnC.cons (Sn.pure rfl) (SnC.cons (Sn.pure rfl) (SnC.cons (Sn.pure rfl) (SnC.cons (Sn.pure rfl) (SnC.cons (Sn.pure rfl) (SnC.cons (Sn.pure rfl) (SnC.cons (Sn.pure rfl) (SnC.cons (Sn.pure rfl) (SnC.cons (Sn.pure rfl) SnC.nil))))))))))) (SnL.cons (Sn.hp rfl (.inr rfl) (SnC.cons (Sn.pure rfl) (SnC.cons (Sn.pure rfl) SnC.nil))) (SnL.cons (Sn.hp rfl (.inr rfl) (SnC.cons (Sn.pure rfl) SnC.nil)) SnL.nil))))) (plan_Overlaps_1_ok n along_128 s.Along s.Width s.Height s.Low s.High s.Across s.Along s.Focal s.Overlap s.Sidelap s.Views f.Height f.Strips ground v171 hc172)) (ca3 (callOk_ref (args := [aI64 across_129, aI64 s.Across, .hp 0 0, .hp 1 0, .hp 2 0]) (l := [0, 1, 2]) (SnL.cons (Sn.pure rfl) (SnL.cons (Sn.pure rfl) (SnL.cons (Sn.hp rfl (.inr rfl) (SnC.cons (Sn.pure rfl) (SnC.cons (Sn.pure rfl) (SnC.cons (Sn.pure rfl) (SnC.cons (Sn.pure rfl) (SnC.cons (Sn.pure rfl) (SnC.cons (Sn.pure rfl) (SnC.cons (Sn.pure rfl) (SnC.cons (Sn.pure rfl) (SnC.cons (Sn.pure rfl) (SnC.cons (Sn.pure rfl) SnC.nil))))))))))) (SnL.cons (Sn.hp rfl (.inr rfl) (SnC.cons (Sn.pure rfl) (SnC.cons (Sn.pure rfl) SnC.nil))) (SnL.cons (Sn.hp rfl (.inr rfl) (SnC.cons (Sn.pure rfl) SnC.nil)) SnL.nil))))) (plan_Overlaps_1_ok n across_129 s.Across s.Width s.Height s.Low s.High s.Across s.Along s.Focal s.Overlap s.Sidelap s.Views f.Height f.Strips ground v173 hc174)))) <| .mu 4 <| .ca cf0 <| .mu 4 <| .ca (cfA (fun h => by rw [sv hc174 hc172 (plan_Overlaps_1_cg n (show ([aI64 across_129, aI64 s.Across, .pp (api_Survey.c s) 0, .pp (api_Flight.c f) 0, .pp [aI64 ground] 0] : List AV) = [aI64 along_128, aI64 s.Along, .pp (api_Survey.c s) 0, .pp (api_Flight.c f) 0, .pp [aI64 ground] 0] from (congr (congrArg List.cons (List.cons.inj h).1) (congr (congrArg List.cons (List.cons.inj (List.cons.inj h).2).1) (congr (congrArg List.cons rfl) (congr (congrArg List.cons rfl) (congr (congrArg List.cons rfl) rfl)))))))]) cf0) <| .mu 3 ?_
   refine .done ⟨by kernel_rfl, ?_⟩
   refine .nh [6, 7, 8] [.fix (api_Survey.c s), .fix (api_Flight.c f), .fix [aI64 ground], .own (api_Rat.c v171), .own (api_Rat.c v173)] <| .ret ?_
   obtain rfl := oi hr
   exact FinQ.ret (vs := [.agg (api_Rat.c v171), .agg (api_Rat.c v173), aI64 0]) (by kernel_rfl) (Sn.tup (SnL.cons (Sn.pure rfl) (SnL.cons (Sn.pure rfl) (SnL.cons (Sn.pure rfl) SnL.nil))))

theorem fiducialref01_Mul_inj {x' : api_Int} {y : api_Int} {x'_ : api_Int} {y_ : api_Int} (h : ([.agg [.at (.bool x'.Negative), slT (iC .u32) x'.Groups], .agg [.at (.bool y.Negative), slT (iC .u32) y.Groups]] : List AV) = [.agg [.at (.bool x'_.Negative), slT (iC .u32) x'_.Groups], .agg [.at (.bool y_.Negative), slT (iC .u32) y_.Groups]]) : x' = x'_ ∧ y = y_ := by
 obtain ⟨_, _⟩ := x'
 obtain ⟨_, _⟩ := x'_
 obtain ⟨_, _⟩ := y
 obtain ⟨_, _⟩ := y_
 simp only [List.cons.injEq, AV.agg.injEq, AV.at.injEq, Value.int.injEq, Value.bool.injEq, AV.fn.injEq, AV.pp.injEq, true_and, and_true, slT_inj_int] at h
 simp_all
theorem fiducialref01_Mul_cg (n : Nat) {x' : api_Int} {y : api_Int} {x'_ : api_Int} {y_ : api_Int} (h : ([.agg [.at (.bool x'.Negative), slT (iC .u32) x'.Groups], .agg [.at (.bool y.Negative), slT (iC .u32) y.Groups]] : List AV) = [.agg [.at (.bool x'_.Negative), slT (iC .u32) x'_.Groups], .agg [.at (.bool y_.Negative), slT (iC .u32) y_.Groups]]) : fiducialref01_Mul n x' y = fiducialref01_Mul n x'_ y_ := by
 obtain ⟨rfl, rfl⟩ := fiducialref01_Mul_inj h
 rfl
theorem fiducialref01_Mul_ok (n : Nat) (x' : api_Int) (y : api_Int) (r : api_Int) (hr : fiducialref01_Mul n x' y = some r) : FnOk Tryz.prog 108 [.agg (api_Int.c x'), .agg (api_Int.c y)] (.agg (api_Int.c r)) := by
 unfold fiducialref01_Mul at hr
 refine FnOk.bd fine Tryz.func108 [.cell 4 49] ?_
 unfold Tryz.f108
 simp only [Option.getD_some]
 refine .seq <| .r2 fine 85 [(2, .hp 0 0), (3, .hp 1 0), (4, .hp 2 0)] [.own (api_Int.c x'), .own (api_Int.c y), .own [aB false, nS]] <| .seq ?_
 obtain ⟨v1, hc2, v3, hc4, hr⟩ := bd2 hr
 refine .tn fine (ca1 (ok0 (fiducialref01_Value_ok n x' v1 hc2)) (ca3 (ok0 (fiducialref01_Value_ok n y v3 hc4)))) <| .mu 1 <| .ca cf0 <| .mu 1 <| .ca (cfA (fun h => by rw [sv hc4 hc2 (fiducialref01_Value_cg n h)]) cf0) <| .mu 2 ?_
 refine .done ⟨by kernel_rfl, ?_⟩
 refine .nh [2, 3, 4] [.own (api_Int.c v1), .own (api_Int.c v3), .own [aB false, nS]] <| .seq ?_
 obtain ⟨hg5, hg6, hg7, hr⟩ := gd3 hr
 refine .r0 fine <| .mu 7 <| .e0 (v := .hs 3 0 (List.replicate (wrapF .i64 ((v1.Groups.length : Int) + (v3.Groups.length : Int))).toNat ((0 : Int) : Int)).length 1) (ws := [(3, .own ((List.replicate (wrapF .i64 ((v1.Groups.length : Int) + (v3.Groups.length : Int))).toNat ((0 : Int) : Int)).flatMap (iC .u32)))]) (tr (make_own (c := (iC .u32)) (z := (0 : Int)) (n := wrapF .i64 ((v1.Groups.length : Int) + (v3.Groups.length : Int))) (by_ := 4) rfl hg5 hg6 hg7)) <| .mu 1 <| .done <| .nh [2, 3, 4, 5] [.own (api_Int.c v1), .own (api_Int.c v3), .own [aB false, nS], .own ((List.replicate (wrapF .i64 ((v1.Groups.length : Int) + (v3.Groups.length : Int))).toNat ((0 : Int) : Int)).flatMap (iC .u32))] <| .seq <| .seq <| .r4 fine [2, 3, 4, 5] [(6, aI64 0)] <| .block ?_
 replace hr := bd hr; obtain ⟨out_29, hL51, hr⟩ := hr
 refine .loopO (σ := fun z0 => match z0 with | (out_8, i_9) => ⟨mkS 85 0 [(2, .hp 0 0), (3, .hp 1 0), (4, .hp 2 0), (5, .hs 3 0 out_8.length 1), (6, aI64 i_9)], [.own (api_Int.c v1), .own (api_Int.c v3), .own [aB false, nS], .own (out_8.flatMap (iC .u32))]⟩) (Q := fun x st' => x = .exit 0 ∧ Wk 0 st' ⟨mkS 85 0 [(2, .hp 0 0), (3, .hp 1 0), (4, .hp 2 0), (5, .hs 3 0 out_29.length 1)], [.own (api_Int.c v1), .own (api_Int.c v3), .own [aB false, nS], .own (out_29.flatMap (iC .u32))]⟩) hL51 ((Wk.gc [2, 3, 4, 5, 6] [(0, true), (1, true), (2, true), (3, false)] rfl (pKt (pKt (pKt (pKo (iC .u32) (iC_pure _) (List.replicate (wrapF .i64 ((v1.Groups.length : Int) + (v3.Groups.length : Int))).toNat ((0 : Int) : Int)) trivial))))).to (by kernel_rfl)) ?_ ?_
 ·clear hr
  rintro m ⟨out_8, i_9⟩ hr
  show CQ _ _ _ _ _ ⟨_, _⟩
  refine .seq <| .seq <| .r4 fine [2, 3, 4, 5, 6] [(26, aB (decide (i_9 < (v1.Groups.length : Int))))] ?_
  refine .cd hr (fun hb31 hr => ?_) (fun hb31 hr => ?_)
  ·refine .skip <| .seq <| .block <| .seq <| .r4 fine [2, 3, 4, 5, 6] [(7, aU64 0)] <| .seq <| .seq <| .r4 fine [2, 3, 4, 5, 6, 7] [(8, aI64 0)] <| .block ?_
   replace hr := bd hr; obtain ⟨o46, hL47, hr⟩ := hr
   refine .loopO (σ := fun z0 => match z0 with | (out_32, carry_33, j_34) => ⟨mkS 85 0 [(2, .hp 0 0), (3, .hp 1 0), (4, .hp 2 0), (5, .hs 3 0 out_32.length 1), (6, aI64 i_9), (7, aU64 carry_33), (8, aI64 j_34)], [.own (api_Int.c v1), .own (api_Int.c v3), .own [aB false, nS], .own (out_32.flatMap (iC .u32))]⟩) (Q := fun x st' => match (generalizing := false) o46 with | (out_39, carry_40) => x = .exit 2 ∧ Wk 0 st' ⟨mkS 85 0 [(2, .hp 0 0), (3, .hp 1 0), (4, .hp 2 0), (5, .hs 3 0 out_39.length 1), (6, aI64 i_9), (7, aU64 carry_40)], [.own (api_Int.c v1), .own (api_Int.c v3), .own [aB false, nS], .own (out_39.flatMap (iC .u32))]⟩) hL47 ((Wk.gc [2, 3, 4, 5, 6, 7, 8] [(0, true), (1, true), (2, true), (3, false)] rfl (pKt (pKt (pKt (pKo (iC .u32) (iC_pure _) out_8 trivial))))).to (by kernel_rfl)) ?_ ?_
   ·clear hr
    rintro m ⟨out_32, carry_33, j_34⟩ hr
    show CQ _ _ _ _ _ ⟨_, _⟩
    refine .seq <| .seq <| .r4 fine [2, 3, 4, 5, 6, 7, 8] [(33, aB (decide (j_34 < (v3.Groups.length : Int))))] ?_
    refine .cd hr (fun hb42 hr => ?_) (fun hb42 hr => ?_)
    ·refine .skip <| .seq <| .block <| .seq ?_
     obtain ⟨hg43, hg44, hg45, hr⟩ := gd3 hr
     refine .regionT fine callOf_nil <| .mu 4 <| .pure (v := .hp 3 (0 + (wrapF .i64 (i_9 + j_34)).toNat * 1)) (by kernel_rfl) (tr (ofP_guard hg43)) (by kernel_rfl) <| .pure (v := aU32 (gt out_32 (wrapF .i64 (i_9 + j_34)))) (by kernel_rfl) (tr (ofP_some (flat_get (iC_len .u32) (inR_lt hg43) (by decide : 0 < 1) (by omega : 0 + (wrapF .i64 (i_9 + j_34)).toNat * 1 = (wrapF .i64 (i_9 + j_34)).toNat * 1 + 0) (by kernel_rfl)))) (by kernel_rfl) <| .mu 4 <| .pure (v := .pp (v1.Groups.flatMap (iC .u32)) (i_9.toNat * 1)) (by kernel_rfl) (tr (ofP_guard hg44)) (by kernel_rfl) <| .pure (v := aU32 (gt v1.Groups i_9)) (by kernel_rfl) (tr (ofP_some (flat_get (iC_len .u32) (inR_lt hg44) (by decide : 0 < 1) (by omega : i_9.toNat * 1 = i_9.toNat * 1 + 0) (by kernel_rfl)))) (by kernel_rfl) <| .mu 4 <| .pure (v := .pp (v3.Groups.flatMap (iC .u32)) (j_34.toNat * 1)) (by kernel_rfl) (tr (ofP_guard hg45)) (by kernel_rfl) <| .pure (v := aU32 (gt v3.Groups j_34)) (by kernel_rfl) (tr (ofP_some (flat_get (iC_len .u32) (inR_lt hg45) (by decide : 0 < 1) (by omega : j_34.toNat * 1 = j_34.toNat * 1 + 0) (by kernel_rfl)))) (by kernel_rfl) <| .mu 6 ?_
     refine .done ⟨by kernel_rfl, ?_⟩
     refine .nh [2, 3, 4, 5, 6, 8, 9] [.own (api_Int.c v1), .own (api_Int.c v3), .own [aB false, nS], .own (out_32.flatMap (iC .u32))] <| .seq <| .r0 fine <| .mu 7 <| .p0 (v := .hp 3 (0 + (wrapF .i64 (i_9 + j_34)).toNat * 1)) (tr (ofP_guard hg43)) <| .e0 (v := .unk) (ws := [(3, .own ((out_32.set (wrapF .i64 (i_9 + j_34)).toNat (wrapF .u32 ((wrapF .u64 ((wrapF .u64 ((wrapF .u64 (gt out_32 (wrapF .i64 (i_9 + j_34)))) + (wrapF .u64 ((wrapF .u64 (gt v1.Groups i_9)) * (wrapF .u64 (gt v3.Groups j_34)))))) + carry_33)).tmod 1000000000))).flatMap (iC .u32)))]) (tr (stO_t (and_t (flat_fits (n := 1) (iC_len .u32) (inR_lt hg43) (Nat.le_of_ble_eq_true rfl) (by omega : 0 + (wrapF .i64 (i_9 + j_34)).toNat * 1 = (wrapF .i64 (i_9 + j_34)).toNat * 1 + 0))) (congrArg Blk.own (flat_set (xs := [aU32 (wrapF .u32 ((wrapF .u64 ((wrapF .u64 ((wrapF .u64 (gt out_32 (wrapF .i64 (i_9 + j_34)))) + (wrapF .u64 ((wrapF .u64 (gt v1.Groups i_9)) * (wrapF .u64 (gt v3.Groups j_34)))))) + carry_33)).tmod 1000000000))]) (iC_len .u32) (inR_lt hg43) (Nat.le_of_ble_eq_true rfl) (by omega : 0 + (wrapF .i64 (i_9 + j_34)).toNat * 1 = (wrapF .i64 (i_9 + j_34)).toNat * 1 + 0) (by kernel_rfl))))) <| .done <| .nh [2, 3, 4, 5, 6, 8, 9] [.own (api_Int.c v1), .own (api_Int.c v3), .own [aB false, nS], .own ((out_32.set (wrapF .i64 (i_9 + j_34)).toNat (wrapF .u32 ((wrapF .u64 ((wrapF .u64 ((wrapF .u64 (gt out_32 (wrapF .i64 (i_9 + j_34)))) + (wrapF .u64 ((wrapF .u64 (gt v1.Groups i_9)) * (wrapF .u64 (gt v3.Groups j_34)))))) + carry_33)).tmod 1000000000))).flatMap (iC .u32))] <| .ru fine <| .pop <| .ru fine ?_
     exact loopF_back (out_32.set (wrapF .i64 (i_9 + j_34)).toNat (wrapF .u32 ((wrapF .u64 ((wrapF .u64 ((wrapF .u64 (gt out_32 (wrapF .i64 (i_9 + j_34)))) + (wrapF .u64 ((wrapF .u64 (gt v1.Groups i_9)) * (wrapF .u64 (gt v3.Groups j_34)))))) + carry_33)).tmod 1000000000)), wrapF .u64 ((wrapF .u64 ((wrapF .u64 ((wrapF .u64 (gt out_32 (wrapF .i64 (i_9 + j_34)))) + (wrapF .u64 ((wrapF .u64 (gt v1.Groups i_9)) * (wrapF .u64 (gt v3.Groups j_34)))))) + carry_33)).tdiv 1000000000), wrapF .i64 (j_34 + 1)) hr ((Wk.relen 5 (b := 3) (es := 1) (len := out_32.length) (out_32.set (wrapF .i64 (i_9 + j_34)).toNat (wrapF .u32 ((wrapF .u64 ((wrapF .u64 ((wrapF .u64 (gt out_32 (wrapF .i64 (i_9 + j_34)))) + (wrapF .u64 ((wrapF .u64 (gt v1.Groups i_9)) * (wrapF .u64 (gt v3.Groups j_34)))))) + carry_33)).tmod 1000000000))).length (by kernel_rfl) (Eq.symm (List.length_set.trans rfl))).trans ((Wk.gc [2, 3, 4, 5, 6, 7, 8] [(0, true), (1, true), (2, true), (3, false)] rfl (pKt (pKt (pKt (pKo (iC .u32) (iC_pure _) (out_32.set (wrapF .i64 (i_9 + j_34)).toNat (wrapF .u32 ((wrapF .u64 ((wrapF .u64 ((wrapF .u64 (gt out_32 (wrapF .i64 (i_9 + j_34)))) + (wrapF .u64 ((wrapF .u64 (gt v1.Groups i_9)) * (wrapF .u64 (gt v3.Groups j_34)))))) + carry_33)).tmod 1000000000))) trivial))))).to (by kernel_rfl)))
    ·refine .leave rfl ?_
     obtain rfl := oi hr
     exact ⟨rfl, ((Wk.gc [2, 3, 4, 5, 6, 7] [(0, true), (1, true), (2, true), (3, false)] rfl (pKt (pKt (pKt (pKo (iC .u32) (iC_pure _) out_32 trivial))))).to (by kernel_rfl))⟩
   ·rcases o46 with ⟨out_39, carry_40⟩
    rintro x st' hq48
    clear hL47
    obtain ⟨rfl, hq48⟩ := hq48
    refine CQ_exit _ rfl <| .wk hq48 ?_
    obtain ⟨hg49, hr⟩ := gd hr
    refine .r0 fine <| .mu 8 <| .p0 (v := .hp 3 (0 + (wrapF .i64 (i_9 + (v3.Groups.length : Int))).toNat * 1)) (tr (ofP_guard hg49)) <| .e0 (v := .unk) (ws := [(3, .own ((out_39.set (wrapF .i64 (i_9 + (v3.Groups.length : Int))).toNat (wrapF .u32 carry_40)).flatMap (iC .u32)))]) (tr (stO_t (and_t (flat_fits (n := 1) (iC_len .u32) (inR_lt hg49) (Nat.le_of_ble_eq_true rfl) (by omega : 0 + (wrapF .i64 (i_9 + (v3.Groups.length : Int))).toNat * 1 = (wrapF .i64 (i_9 + (v3.Groups.length : Int))).toNat * 1 + 0))) (congrArg Blk.own (flat_set (xs := [aU32 (wrapF .u32 carry_40)]) (iC_len .u32) (inR_lt hg49) (Nat.le_of_ble_eq_true rfl) (by omega : 0 + (wrapF .i64 (i_9 + (v3.Groups.length : Int))).toNat * 1 = (wrapF .i64 (i_9 + (v3.Groups.length : Int))).toNat * 1 + 0) (by kernel_rfl))))) <| .done <| .pop <| .ru fine ?_
    exact loopF_back (out_39.set (wrapF .i64 (i_9 + (v3.Groups.length : Int))).toNat (wrapF .u32 carry_40), wrapF .i64 (i_9 + 1)) hr ((Wk.relen 5 (b := 3) (es := 1) (len := out_39.length) (out_39.set (wrapF .i64 (i_9 + (v3.Groups.length : Int))).toNat (wrapF .u32 carry_40)).length (by kernel_rfl) (Eq.symm (List.length_set.trans rfl))).trans ((Wk.gc [2, 3, 4, 5, 6] [(0, true), (1, true), (2, true), (3, false)] rfl (pKt (pKt (pKt (pKo (iC .u32) (iC_pure _) (out_39.set (wrapF .i64 (i_9 + (v3.Groups.length : Int))).toNat (wrapF .u32 carry_40)) trivial))))).to (by kernel_rfl)))
  ·refine .leave rfl ?_
   obtain rfl := oi hr
   exact ⟨rfl, ((Wk.gc [2, 3, 4, 5] [(0, true), (1, true), (2, true), (3, false)] rfl (pKt (pKt (pKt (pKo (iC .u32) (iC_pure _) out_8 trivial))))).to (by kernel_rfl))⟩
 ·rintro x st' hq52
  clear hL51
  obtain ⟨rfl, hq52⟩ := hq52
  refine CQ_exit _ rfl <| .wk hq52 <| .seq ?_
  obtain ⟨v53, hc54, hr⟩ := bd hr
  refine .g1 fine (callOk_ref (args := [aB (v1.Negative != v3.Negative), .hs 3 0 out_29.length 1]) (l := [3]) (SnL.cons (Sn.pure rfl) (SnL.cons (Sn.hs rfl (.inl rfl) (SnC.pure (ids_flat (iC_pure _) _)) (fun h => flat_nil0 h)) SnL.nil)) (fiducialref01_made_ok n (v1.Negative != v3.Negative) out_29 v53 hc54)) <| .mu 6 <| .ca cf0 <| .mu 1 <| .done <| .nh [4] [.own (api_Int.c v1), .own (api_Int.c v3), .own (api_Int.c v53), .fix (out_29.flatMap (iC .u32))] <| .ret ?_
  obtain rfl := oi hr
  exact FinQ.r1 [.agg (api_Int.c v53)]

theorem fiducialref01_Divide_ok (n : Nat) (x' : api_Int) (y : api_Int) (r : api_Int × api_Int × Int) (hr : fiducialref01_Divide n x' y = some r) : FnOk Tryz.prog 106 [.agg (api_Int.c x'), .agg (api_Int.c y)] (.tup [.agg (api_Int.c r.1), .agg (api_Int.c r.2.1), aI64 r.2.2]) := by
 unfold fiducialref01_Divide at hr
 refine FnOk.bd fine Tryz.func106 [.cell 4 49, .cell 5 49, .tmp 6] ?_
 unfold Tryz.f106
 simp only [Option.getD_some]
 refine .seq <| .r2 fine 54 [(2, .hp 0 0), (3, .hp 1 0), (4, .hp 2 0), (5, .hp 3 0)] [.own (api_Int.c x'), .own (api_Int.c y), .own [aB false, nS], .own [aB false, nS]] <| .seq ?_
 obtain ⟨v1, hc2, v3, hc4, hr⟩ := bd2 hr
 refine .tn fine (ca1 (ok0 (fiducialref01_Value_ok n x' v1 hc2)) (ca3 (ok0 (fiducialref01_Value_ok n y v3 hc4)))) <| .mu 1 <| .ca cf0 <| .mu 1 <| .ca (cfA (fun h => by rw [sv hc4 hc2 (fiducialref01_Value_cg n h)]) cf0) <| .mu 2 ?_
 refine .done ⟨by kernel_rfl, ?_⟩
 refine .nh [2, 3, 4, 5] [.own (api_Int.c v1), .own (api_Int.c v3), .own [aB false, nS], .own [aB false, nS]] <| .seq <| .seq <| .r4 fine [2, 3, 4, 5] [(17, aB (((v3.Groups.length : Int) : Int) == 0))] ?_
 refine .cd hr (fun hb5 hr => ?_) (fun hb5 hr => ?_)
 ·refine .seq <| .r4 fine [4, 5] [(6, aI64 14)] <| .ret ?_
  obtain rfl := oi hr
  exact FinQ.ret (vs := [.agg [aB false, nS], .agg [aB false, nS], aI64 14]) (by kernel_rfl) (Sn.tup (SnL.cons (Sn.agg (SnL.cons (Sn.pure rfl) (SnL.cons Sn.nilsl SnL.nil))) (SnL.cons (Sn.agg (SnL.cons (Sn.pure rfl) (SnL.cons Sn.nilsl SnL.nil))) (SnL.cons (Sn.pure rfl) SnL.nil))))
 ·refine .skip <| .seq ?_
  obtain ⟨v6, hc7, hr⟩ := bd hr
  refine .g1 fine (ok0 (fiducialref01_parts_ok n v1.Groups v3.Groups v6 hc7)) <| .mu 4 <| .ca cf0 <| .mu 5 <| .done <| .nh [2, 3, 4, 5, 7, 8] [.own (api_Int.c v1), .own (api_Int.c v3), .own [aB false, nS], .own [aB false, nS]] <| .seq ?_
  obtain ⟨v8, hc9, hr⟩ := bd hr
  refine .g1 fine (ok0 (fiducialref01_made_ok n (v1.Negative != v3.Negative) v6.1 v8 hc9)) <| .mu 6 <| .ca cf0 <| .mu 2 <| .done <| .nh [2, 3, 4, 5, 8, 9] [.own (api_Int.c v1), .own (api_Int.c v3), .own [aB false, nS], .own [aB false, nS], .own (api_Int.c v8)] <| .seq <| .seq ?_
  rcases Bool.eq_false_or_eq_true (v1.Negative != v3.Negative) with hb10 | hb10
  ·replace hr := cd_t hb10 hr
   refine .r0 fine <| .mu 4 <| .p0 (v := aB true) (eB hb10) <| .mu 5 <| .done <| .nh [2, 3, 4, 5, 9, 44] [.own (api_Int.c v1), .own (api_Int.c v3), .own [aB false, nS], .own [aB false, nS], .own (api_Int.c v8)] ?_
   refine .cd hr (fun hb11 hr => ?_) (fun hb11 hr => ?_)
   ·obtain ⟨v12, hc13, v14, hc15, hr⟩ := bd2 hr
    refine .tn fine (ca1 (ok0 (fiducialref01_Of_ok n 1 v12 hc13)) (ca3 (ok0 (fiducialref01_Sub_ok n v8 v12 v14 hc15)))) <| .mu 1 <| .ca cf0 <| .ca (cfF cf0) <| .mu 1 ?_
    refine .done ⟨by kernel_rfl, ?_⟩
    refine .nh [2, 3, 4, 5, 9] [.own (api_Int.c v1), .own (api_Int.c v3), .own [aB false, nS], .own [aB false, nS], .own (api_Int.c v14)] <| .seq ?_
    obtain ⟨v16, hc17, v18, hc19, hr⟩ := bd2 hr
    refine .tn fine (ca1 (ok0 (fiducialref01_Mul_ok n v14 v3 v16 hc17)) (ca3 (ok0 (fiducialref01_Sub_ok n v1 v16 v18 hc19)))) <| .mu 4 <| .ca cf0 <| .ca (cfF cf0) <| .mu 3 ?_
    refine .done ⟨by kernel_rfl, ?_⟩
    refine .nh [4, 5, 6] [.own (api_Int.c v1), .own (api_Int.c v3), .own (api_Int.c v14), .own (api_Int.c v18), .own (api_Int.c v14)] <| .ret ?_
    obtain rfl := oi hr
    exact FinQ.ret (vs := [.agg (api_Int.c v14), .agg (api_Int.c v18), aI64 0]) (by kernel_rfl) (Sn.tup (SnL.cons (Sn.pure rfl) (SnL.cons (Sn.pure rfl) (SnL.cons (Sn.pure rfl) SnL.nil))))
   ·refine .skip <| .seq ?_
    obtain ⟨v20, hc21, v22, hc23, hr⟩ := bd2 hr
    refine .tn fine (ca1 (ok0 (fiducialref01_Mul_ok n v8 v3 v20 hc21)) (ca3 (ok0 (fiducialref01_Sub_ok n v1 v20 v22 hc23)))) <| .mu 4 <| .ca cf0 <| .ca (cfF cf0) <| .mu 3 ?_
    refine .done ⟨by kernel_rfl, ?_⟩
    refine .nh [4, 5, 6] [.own (api_Int.c v1), .own (api_Int.c v3), .own (api_Int.c v8), .own (api_Int.c v22), .own (api_Int.c v8)] <| .ret ?_
    obtain rfl := oi hr
    exact FinQ.ret (vs := [.agg (api_Int.c v8), .agg (api_Int.c v22), aI64 0]) (by kernel_rfl) (Sn.tup (SnL.cons (Sn.pure rfl) (SnL.cons (Sn.pure rfl) (SnL.cons (Sn.pure rfl) SnL.nil))))
  ·replace hr := cd_f hb10 hr
   refine .r0 fine <| .mu 4 <| .p0 (v := aB false) (eB hb10) <| .mu 5 <| .done <| .nh [2, 3, 4, 5, 9, 44] [.own (api_Int.c v1), .own (api_Int.c v3), .own [aB false, nS], .own [aB false, nS], .own (api_Int.c v8)] <| .cF (by kernel_rfl) <| .skip <| .seq ?_
   obtain ⟨v24, hc25, v26, hc27, hr⟩ := bd2 hr
   refine .tn fine (ca1 (ok0 (fiducialref01_Mul_ok n v8 v3 v24 hc25)) (ca3 (ok0 (fiducialref01_Sub_ok n v1 v24 v26 hc27)))) <| .mu 4 <| .ca cf0 <| .ca (cfF cf0) <| .mu 3 ?_
   refine .done ⟨by kernel_rfl, ?_⟩
   refine .nh [4, 5, 6] [.own (api_Int.c v1), .own (api_Int.c v3), .own (api_Int.c v8), .own (api_Int.c v26), .own (api_Int.c v8)] <| .ret ?_
   obtain rfl := oi hr
   exact FinQ.ret (vs := [.agg (api_Int.c v8), .agg (api_Int.c v26), aI64 0]) (by kernel_rfl) (Sn.tup (SnL.cons (Sn.pure rfl) (SnL.cons (Sn.pure rfl) (SnL.cons (Sn.pure rfl) SnL.nil))))

theorem fiducialref02_reduced_ok (n : Nat) (num : api_Int) (den : api_Int) (r : api_Rat) (hr : fiducialref02_reduced n num den = some r) : FnOk Tryz.prog 78 [.agg (api_Int.c num), .agg (api_Int.c den)] (.agg (api_Rat.c r)) := by
 unfold fiducialref02_reduced at hr
 refine FnOk.bd fine Tryz.func78 [.cell 4 51] ?_
 unfold Tryz.f78
 simp only [Option.getD_some]
 refine .seq <| .r2 fine 37 [(2, .hp 0 0), (3, .hp 1 0), (4, .hp 2 0)] [.own (api_Int.c num), .own (api_Int.c den), .own [aB false, nS, aB false, nS]] <| .seq ?_
 obtain ⟨v1, hc2, hr⟩ := bd hr
 refine .g1 fine (ok0 (fiducialref01_Gcd_ok n num den v1 hc2)) <| .mu 2 <| .ca cf0 <| .mu 2 <| .done <| .nh [2, 3, 4, 5] [.own (api_Int.c num), .own (api_Int.c den), .own [aB false, nS, aB false, nS], .own (api_Int.c v1)] <| .seq <| .seq ?_
 obtain ⟨v3, hc4, hr⟩ := bd hr
 refine .g1 fine (ok0 (fiducialref01_Sign_ok n den v3 hc4)) <| .mu 1 <| .ca cf0 <| .mu 1 <| .done <| .nh [2, 3, 4, 5, 17] [.own (api_Int.c num), .own (api_Int.c den), .own [aB false, nS, aB false, nS], .own (api_Int.c v1)] ?_
 refine .cd hr (fun hb5 hr => ?_) (fun hb5 hr => ?_)
 ·obtain ⟨v6, hc7, hr⟩ := bd hr
  refine .g1 fine (ok0 (fiducialref01_Neg_ok n v1 v6 hc7)) <| .mu 1 <| .ca cf0 <| .mu 1 <| .done <| .nh [2, 3, 4, 5] [.own (api_Int.c num), .own (api_Int.c den), .own [aB false, nS, aB false, nS], .own (api_Int.c v6)] <| .seq ?_
  obtain ⟨v8, hc9, hr⟩ := bd hr
  refine .g1 fine (ok0 (fiducialref01_Divide_ok n num v6 v8 hc9)) <| .mu 2 <| .ca cf0 <| .mu 9 <| .done <| .nh [3, 4, 5, 6] [.own (api_Int.c num), .own (api_Int.c den), .own [aB false, nS, aB false, nS], .own (api_Int.c v6), .own (api_Int.c v8.1), .own (api_Int.c v8.2.1)] <| .seq ?_
  obtain ⟨v10, hc11, hr⟩ := bd hr
  refine .g1 fine (ok0 (fiducialref01_Divide_ok n den v6 v10 hc11)) <| .mu 2 <| .ca cf0 <| .mu 9 <| .done <| .nh [4, 6, 9] [.own (api_Int.c num), .own (api_Int.c den), .own [aB false, nS, aB false, nS], .own (api_Int.c v6), .own (api_Int.c v8.1), .own (api_Int.c v8.2.1), .own (api_Int.c v10.1), .own (api_Int.c v10.2.1)] <| .seq <| .r5 fine [4] [] [.own (api_Int.c num), .own (api_Int.c den), .own [aB v8.1.Negative, sU32 v8.1.Groups, aB v10.1.Negative, sU32 v10.1.Groups], .own (api_Int.c v6), .own (api_Int.c v8.1), .own (api_Int.c v8.2.1), .own (api_Int.c v10.1), .own (api_Int.c v10.2.1)] <| .ret ?_
  obtain rfl := oi hr
  exact FinQ.r1 [.agg [aB v8.1.Negative, sU32 v8.1.Groups, aB v10.1.Negative, sU32 v10.1.Groups]]
 ·refine .skip <| .seq ?_
  obtain ⟨v12, hc13, hr⟩ := bd hr
  refine .g1 fine (ok0 (fiducialref01_Divide_ok n num v1 v12 hc13)) <| .mu 2 <| .ca cf0 <| .mu 9 <| .done <| .nh [3, 4, 5, 6] [.own (api_Int.c num), .own (api_Int.c den), .own [aB false, nS, aB false, nS], .own (api_Int.c v1), .own (api_Int.c v12.1), .own (api_Int.c v12.2.1)] <| .seq ?_
  obtain ⟨v14, hc15, hr⟩ := bd hr
  refine .g1 fine (ok0 (fiducialref01_Divide_ok n den v1 v14 hc15)) <| .mu 2 <| .ca cf0 <| .mu 9 <| .done <| .nh [4, 6, 9] [.own (api_Int.c num), .own (api_Int.c den), .own [aB false, nS, aB false, nS], .own (api_Int.c v1), .own (api_Int.c v12.1), .own (api_Int.c v12.2.1), .own (api_Int.c v14.1), .own (api_Int.c v14.2.1)] <| .seq <| .r5 fine [4] [] [.own (api_Int.c num), .own (api_Int.c den), .own [aB v12.1.Negative, sU32 v12.1.Groups, aB v14.1.Negative, sU32 v14.1.Groups], .own (api_Int.c v1), .own (api_Int.c v12.1), .own (api_Int.c v12.2.1), .own (api_Int.c v14.1), .own (api_Int.c v14.2.1)] <| .ret ?_
  obtain rfl := oi hr
  exact FinQ.r1 [.agg [aB v12.1.Negative, sU32 v12.1.Groups, aB v14.1.Negative, sU32 v14.1.Groups]]

theorem fiducialref02_New_ok (n : Nat) (num : api_Int) (den : api_Int) (r : api_Rat × Int) (hr : fiducialref02_New n num den = some r) : FnOk Tryz.prog 52 [.agg (api_Int.c num), .agg (api_Int.c den)] (.tup [.agg (api_Rat.c r.1), aI64 r.2]) := by
 unfold fiducialref02_New at hr
 refine FnOk.bd fine Tryz.func52 [.cell 4 51, .tmp 5] ?_
 unfold Tryz.f52
 simp only [Option.getD_some]
 refine .seq <| .r2 fine 13 [(2, .hp 0 0), (3, .hp 1 0), (4, .hp 2 0)] [.own (api_Int.c num), .own (api_Int.c den), .own [aB false, nS, aB false, nS]] <| .seq <| .seq ?_
 obtain ⟨v1, hc2, hr⟩ := bd hr
 refine .g1 fine (ok0 (fiducialref01_Sign_ok n den v1 hc2)) <| .mu 1 <| .ca cf0 <| .mu 1 <| .done <| .nh [2, 3, 4, 8] [.own (api_Int.c num), .own (api_Int.c den), .own [aB false, nS, aB false, nS]] ?_
 refine .cd hr (fun hb3 hr => ?_) (fun hb3 hr => ?_)
 ·refine .seq <| .r4 fine [4] [(5, aI64 14)] <| .ret ?_
  obtain rfl := oi hr
  exact FinQ.ret (vs := [.agg [aB false, nS, aB false, nS], aI64 14]) (by kernel_rfl) (Sn.tup (SnL.cons (Sn.agg (SnL.cons (Sn.pure rfl) (SnL.cons Sn.nilsl (SnL.cons (Sn.pure rfl) (SnL.cons Sn.nilsl SnL.nil))))) (SnL.cons (Sn.pure rfl) SnL.nil)))
 ·refine .skip <| .seq ?_
  obtain ⟨v4, hc5, hr⟩ := bd hr
  refine .g1 fine (ok0 (fiducialref02_reduced_ok n num den v4 hc5)) <| .mu 2 <| .ca cf0 <| .mu 2 <| .done <| .nh [4, 5] [.own (api_Int.c num), .own (api_Int.c den), .own (api_Rat.c v4)] <| .ret ?_
  obtain rfl := oi hr
  exact FinQ.ret (vs := [.agg (api_Rat.c v4), aI64 0]) (by kernel_rfl) (Sn.tup (SnL.cons (Sn.pure rfl) (SnL.cons (Sn.pure rfl) SnL.nil)))

theorem fiducialref02_Of_ok (n : Nat) (n' : Int) (d : Int) (r : api_Rat × Int) (hr : fiducialref02_Of n n' d = some r) : FnOk Tryz.prog 19 [aI64 n', aI64 d] (.tup [.agg (api_Rat.c r.1), aI64 r.2]) := by
 unfold fiducialref02_Of at hr
 refine FnOk.bd fine Tryz.func19 [.cell 4 51, .tmp 5] ?_
 unfold Tryz.f19
 simp only [Option.getD_some]
 refine .seq <| .r5 fine [0, 1] [(4, .hp 0 0)] [.own [aB false, nS, aB false, nS]] <| .seq ?_
 obtain ⟨v1, hc2, v3, hc4, v5, hc6, hr⟩ := bd3 hr
 refine .gn fine (ca1 (ok0 (fiducialref02_whole_ok n n' v1 hc2)) (ca1 (ok0 (fiducialref02_whole_ok n d v3 hc4)) (ca3 (ok0 (fiducialref02_New_ok n v1 v3 v5 hc6))))) <| .mu 1 <| .ca cf0 <| .mu 1 <| .ca (cfA (fun h => by rw [sv hc4 hc2 (fiducialref02_whole_cg n h)]) cf0) <| .ca (cfF (cfF cf0)) <| .mu 4 <| .done <| .nh [4, 5] [.own (api_Rat.c v5.1)] <| .ret ?_
 obtain rfl := oi hr
 exact FinQ.ret (vs := [.agg (api_Rat.c v5.1), aI64 v5.2]) (by kernel_rfl) (Sn.tup (SnL.cons (Sn.pure rfl) (SnL.cons (Sn.pure rfl) SnL.nil)))

theorem fiducialref02_Neg_ok (n : Nat) (x' : api_Rat) (r : api_Rat) (hr : fiducialref02_Neg n x' = some r) : FnOk Tryz.prog 81 [.agg (api_Rat.c x')] (.agg (api_Rat.c r)) := by
 unfold fiducialref02_Neg at hr
 refine FnOk.bd fine Tryz.func81 [.cell 2 51] ?_
 unfold Tryz.f81
 simp only [Option.getD_some]
 refine .seq <| .r2 fine 12 [(1, .hp 0 0), (2, .hp 1 0)] [.own (api_Rat.c x'), .own [aB false, nS, aB false, nS]] <| .seq ?_
 obtain ⟨v1, hc2, hr⟩ := bd hr
 refine .g1 fine (ok0 (fiducialref02_Value_ok n x' v1 hc2)) <| .mu 1 <| .ca cf0 <| .mu 2 <| .done <| .nh [2, 3] [.own (api_Rat.c x'), .own [aB false, nS, aB false, nS], .own (api_Rat.c v1)] <| .seq ?_
 obtain ⟨v3, hc4, hr⟩ := bd hr
 refine .t1 fine (ok0 (fiducialref01_Neg_ok n v1.Num v3 hc4)) <| .mu 2 <| .ca cf0 <| .mu 4 ?_
 refine .done ⟨by kernel_rfl, ?_⟩
 refine .nh [2] [.own (api_Rat.c x'), .own [aB v3.Negative, sU32 v3.Groups, aB v1.Den.Negative, sU32 v1.Den.Groups], .own (api_Rat.c v1)] <| .ret ?_
 obtain rfl := oi hr
 exact FinQ.r1 [.agg [aB v3.Negative, sU32 v3.Groups, aB v1.Den.Negative, sU32 v1.Den.Groups]]

theorem fiducialref02_Add_ok (n : Nat) (x' : api_Rat) (y : api_Rat) (r : api_Rat) (hr : fiducialref02_Add n x' y = some r) : FnOk Tryz.prog 80 [.agg (api_Rat.c x'), .agg (api_Rat.c y)] (.agg (api_Rat.c r)) := by
 unfold fiducialref02_Add at hr
 refine FnOk.bd fine Tryz.func80 [.cell 4 51] ?_
 unfold Tryz.f80
 simp only [Option.getD_some]
 refine .seq <| .r2 fine 28 [(2, .hp 0 0), (3, .hp 1 0), (4, .hp 2 0)] [.own (api_Rat.c x'), .own (api_Rat.c y), .own [aB false, nS, aB false, nS]] <| .seq ?_
 obtain ⟨v1, hc2, hr⟩ := bd hr
 refine .g1 fine (ok0 (fiducialref02_Value_ok n x' v1 hc2)) <| .mu 1 <| .ca cf0 <| .mu 2 <| .done <| .nh [3, 4, 5] [.own (api_Rat.c x'), .own (api_Rat.c y), .own [aB false, nS, aB false, nS], .own (api_Rat.c v1)] <| .seq ?_
 obtain ⟨v3, hc4, hr⟩ := bd hr
 refine .g1 fine (ok0 (fiducialref02_Value_ok n y v3 hc4)) <| .mu 1 <| .ca cf0 <| .mu 2 <| .done <| .nh [4, 5, 6] [.own (api_Rat.c x'), .own (api_Rat.c y), .own [aB false, nS, aB false, nS], .own (api_Rat.c v1), .own (api_Rat.c v3)] <| .seq ?_
 obtain ⟨v5, hc6, v7, hc8, v9, hc10, hr⟩ := bd3 hr
 obtain ⟨v11, hc12, v13, hc14, hr⟩ := bd2 hr
 refine .tn fine (ca1 (ok0 (fiducialref01_Mul_ok n v1.Num v3.Den v5 hc6)) (ca1 (ok0 (fiducialref01_Mul_ok n v3.Num v1.Den v7 hc8)) (ca1 (ok0 (fiducialref01_Add_ok n v5 v7 v9 hc10)) (ca1 (ok0 (fiducialref01_Mul_ok n v1.Den v3.Den v11 hc12)) (ca3 (ok0 (fiducialref02_reduced_ok n v9 v11 v13 hc14))))))) <| .mu 4 <| .ca cf0 <| .mu 4 <| .ca (cfA (fun h => by rw [sv hc8 hc6 (fiducialref01_Mul_cg n h)]) cf0) <| .ca (cfF (cfF cf0)) <| .mu 4 <| .ca (cfA (fun h => by rw [sv hc12 hc6 (fiducialref01_Mul_cg n h)]) (cfA (fun h => by rw [sv hc12 hc8 (fiducialref01_Mul_cg n h)]) (cfF cf0))) <| .ca (cfF (cfF (cfF (cfF cf0)))) <| .mu 1 ?_
 refine .done ⟨by kernel_rfl, ?_⟩
 refine .nh [4] [.own (api_Rat.c x'), .own (api_Rat.c y), .own (api_Rat.c v13), .own (api_Rat.c v1), .own (api_Rat.c v3)] <| .ret ?_
 obtain rfl := oi hr
 exact FinQ.r1 [.agg (api_Rat.c v13)]

theorem fiducialref02_Sub_ok (n : Nat) (x' : api_Rat) (y : api_Rat) (r : api_Rat) (hr : fiducialref02_Sub n x' y = some r) : FnOk Tryz.prog 54 [.agg (api_Rat.c x'), .agg (api_Rat.c y)] (.agg (api_Rat.c r)) := by
 unfold fiducialref02_Sub at hr
 refine FnOk.bd fine Tryz.func54 [.cell 4 51] ?_
 unfold Tryz.f54
 simp only [Option.getD_some]
 refine .seq <| .r2 fine 9 [(2, .hp 0 0), (3, .hp 1 0), (4, .hp 2 0)] [.own (api_Rat.c x'), .own (api_Rat.c y), .own [aB false, nS, aB false, nS]] <| .seq ?_
 obtain ⟨v1, hc2, v3, hc4, hr⟩ := bd2 hr
 refine .tn fine (ca1 (ok0 (fiducialref02_Neg_ok n y v1 hc2)) (ca3 (ok0 (fiducialref02_Add_ok n x' v1 v3 hc4)))) <| .mu 2 <| .ca cf0 <| .ca (cfF cf0) <| .mu 1 ?_
 refine .done ⟨by kernel_rfl, ?_⟩
 refine .nh [4] [.own (api_Rat.c x'), .own (api_Rat.c y), .own (api_Rat.c v3)] <| .ret ?_
 obtain rfl := oi hr
 exact FinQ.r1 [.agg (api_Rat.c v3)]

theorem fiducialref02_Compare_inj {x' : api_Rat} {y : api_Rat} {x'_ : api_Rat} {y_ : api_Rat} (h : ([.agg [.at (.bool x'.Num.Negative), slT (iC .u32) x'.Num.Groups, .at (.bool x'.Den.Negative), slT (iC .u32) x'.Den.Groups], .agg [.at (.bool y.Num.Negative), slT (iC .u32) y.Num.Groups, .at (.bool y.Den.Negative), slT (iC .u32) y.Den.Groups]] : List AV) = [.agg [.at (.bool x'_.Num.Negative), slT (iC .u32) x'_.Num.Groups, .at (.bool x'_.Den.Negative), slT (iC .u32) x'_.Den.Groups], .agg [.at (.bool y_.Num.Negative), slT (iC .u32) y_.Num.Groups, .at (.bool y_.Den.Negative), slT (iC .u32) y_.Den.Groups]]) : x' = x'_ ∧ y = y_ := by
 obtain ⟨⟨_, _⟩, ⟨_, _⟩⟩ := x'
 obtain ⟨⟨_, _⟩, ⟨_, _⟩⟩ := x'_
 obtain ⟨⟨_, _⟩, ⟨_, _⟩⟩ := y
 obtain ⟨⟨_, _⟩, ⟨_, _⟩⟩ := y_
 simp only [List.cons.injEq, AV.agg.injEq, AV.at.injEq, Value.int.injEq, Value.bool.injEq, AV.fn.injEq, AV.pp.injEq, true_and, and_true, slT_inj_int] at h
 simp_all
theorem fiducialref02_Compare_cg (n : Nat) {x' : api_Rat} {y : api_Rat} {x'_ : api_Rat} {y_ : api_Rat} (h : ([.agg [.at (.bool x'.Num.Negative), slT (iC .u32) x'.Num.Groups, .at (.bool x'.Den.Negative), slT (iC .u32) x'.Den.Groups], .agg [.at (.bool y.Num.Negative), slT (iC .u32) y.Num.Groups, .at (.bool y.Den.Negative), slT (iC .u32) y.Den.Groups]] : List AV) = [.agg [.at (.bool x'_.Num.Negative), slT (iC .u32) x'_.Num.Groups, .at (.bool x'_.Den.Negative), slT (iC .u32) x'_.Den.Groups], .agg [.at (.bool y_.Num.Negative), slT (iC .u32) y_.Num.Groups, .at (.bool y_.Den.Negative), slT (iC .u32) y_.Den.Groups]]) : fiducialref02_Compare n x' y = fiducialref02_Compare n x'_ y_ := by
 obtain ⟨rfl, rfl⟩ := fiducialref02_Compare_inj h
 rfl
theorem fiducialref02_Compare_ok (n : Nat) (x' : api_Rat) (y : api_Rat) (r : Int) (hr : fiducialref02_Compare n x' y = some r) : FnOk Tryz.prog 20 [.agg (api_Rat.c x'), .agg (api_Rat.c y)] (aI64 r) := by
 unfold fiducialref02_Compare at hr
 refine FnOk.bd fine Tryz.func20 [.tmp 4] ?_
 unfold Tryz.f20
 simp only [Option.getD_some]
 refine .seq <| .r2 fine 9 [(2, .hp 0 0), (3, .hp 1 0)] [.own (api_Rat.c x'), .own (api_Rat.c y)] <| .seq ?_
 obtain ⟨v1, hc2, v3, hc4, hr⟩ := bd2 hr
 refine .gn fine (ca1 (ok0 (fiducialref02_Sub_ok n x' y v1 hc2)) (ca3 (ok0 (fiducialref02_Sign_ok n v1 v3 hc4)))) <| .mu 2 <| .ca cf0 <| .ca (cfF cf0) <| .mu 1 <| .done <| .ret ?_
 obtain rfl := oi hr
 exact FinQ.r1 [aI64 v3]

theorem fiduciallaw55_PlanPasses_ok (n : Nat) (s : api_Survey) (height : Int) (r : Bool) (hr : fiduciallaw55_PlanPasses n s height = some r) : FnOk Tryz.prog 4 [.agg (api_Survey.c s), aI64 height] (aB r) := by
 unfold fiduciallaw55_PlanPasses at hr
 refine FnOk.bd fine Tryz.func4 [.tmp 4] ?_
 unfold Tryz.f4
 simp only [Option.getD_some]
 refine .seq <| .r5 fine [1] [(2, .hp 0 0)] [.own (api_Survey.c s)] <| .seq <| .seq ?_
 obtain ⟨v1, hc2, hr⟩ := bd hr
 refine .g1 fine (ok0 (fiduciallaw55_known_ok n v1 hc2)) <| .ca cf0 <| .mu 1 <| .done <| .nh [1, 2, 14] [.own (api_Survey.c s)] ?_
 refine .cd hr (fun hb4 hr => ?_) (fun hb4 hr => ?_)
 ·refine .seq <| .ru fine <| .ret ?_
  obtain rfl := oi hr
  exact FinQ.r1 [aB false]
 ·refine .skip <| .seq ?_
  obtain ⟨v5, hc6, hr⟩ := bd hr
  refine .g1 fine (ok0 (plan_Make_ok n s height v5 hc6)) <| .mu 2 <| .ca cf0 <| .mu 6 <| .done <| .nh [2, 5, 6] [.own (api_Survey.c s), .own (api_Flight.c v5.1)] <| .seq <| .seq ?_
  rcases Bool.eq_false_or_eq_true ((v5.2 : Int) != 0) with hb7 | hb7
  ·replace hr := cd_t hb7 hr
   refine .r0 fine <| .mu 1 <| .p0 (v := aB true) (eB hb7) <| .mu 5 <| .done <| .nh [2, 5, 27] [.own (api_Survey.c s), .own (api_Flight.c v5.1)] <| .cT (by kernel_rfl) <| .seq <| .ru fine <| .ret ?_
   obtain rfl := oi hr
   exact FinQ.r1 [aB true]
  ·replace hr := cd_f hb7 hr
   obtain ⟨v8, hc9, hr⟩ := bd hr
   refine .g1 fine (ok0 (fiduciallaw55_few_ok n v5.1 12 v8 hc9)) <| .mu 1 <| .p0 (v := aB false) (eB hb7) <| .mu 2 <| .ca cf0 <| .mu 2 <| .done <| .nh [2, 5, 27] [.own (api_Survey.c s), .own (api_Flight.c v5.1)] ?_
   refine .cd hr (fun hb11 hr => ?_) (fun hb11 hr => ?_)
   ·refine .seq <| .ru fine <| .ret ?_
    obtain rfl := oi hr
    exact FinQ.r1 [aB true]
   ·refine .skip <| .seq <| .r5 fine [2, 5] [] [.own [aI64 s.Width, aI64 s.Height, aI64 s.Low, aI64 s.High, aI64 s.Across, aI64 s.Along, aI64 s.Focal, aI64 s.Overlap, aI64 s.Sidelap, aI64 1], .own (api_Flight.c v5.1)] <| .seq <| .seq ?_
    obtain ⟨v12, hc13, hr⟩ := bd hr
    refine .g1 fine (ok0 (plan_Verify_ok n (api_Survey.mk s.Width s.Height s.Low s.High s.Across s.Along s.Focal s.Overlap s.Sidelap 1) v5.1 v12 hc13)) <| .mu 2 <| .ca cf0 <| .mu 1 <| .done <| .nh [2, 5, 32] [.own [aI64 s.Width, aI64 s.Height, aI64 s.Low, aI64 s.High, aI64 s.Across, aI64 s.Along, aI64 s.Focal, aI64 s.Overlap, aI64 s.Sidelap, aI64 1], .own (api_Flight.c v5.1)] ?_
    refine .cd hr (fun hb15 hr => ?_) (fun hb15 hr => ?_)
    ·refine .seq <| .ru fine <| .ret ?_
     obtain rfl := oi hr
     exact FinQ.r1 [aB false]
    ·refine .skip <| .seq ?_
     obtain ⟨v16, hc17, hr⟩ := bd hr
     refine .g1 fine (ok0 (plan_Overlaps_ok n (api_Survey.mk s.Width s.Height s.Low s.High s.Across s.Along s.Focal s.Overlap s.Sidelap 1) v5.1 s.High v16 hc17)) <| .mu 4 <| .ca cf0 <| .mu 9 <| .done <| .nh [2, 6, 7, 8] [.own [aI64 s.Width, aI64 s.Height, aI64 s.Low, aI64 s.High, aI64 s.Across, aI64 s.Along, aI64 s.Focal, aI64 s.Overlap, aI64 s.Sidelap, aI64 1], .own (api_Flight.c v5.1), .own (api_Rat.c v16.1), .own (api_Rat.c v16.2.1)] <| .seq ?_
     obtain ⟨v18, hc19, hr⟩ := bd hr
     refine .g1 fine (ok0 (fiducialref02_Of_ok n s.Overlap 100 v18 hc19)) <| .mu 2 <| .ca cf0 <| .mu 6 <| .done <| .nh [2, 6, 7, 8, 9] [.own [aI64 s.Width, aI64 s.Height, aI64 s.Low, aI64 s.High, aI64 s.Across, aI64 s.Along, aI64 s.Focal, aI64 s.Overlap, aI64 s.Sidelap, aI64 1], .own (api_Flight.c v5.1), .own (api_Rat.c v16.1), .own (api_Rat.c v16.2.1), .own (api_Rat.c v18.1)] <| .seq ?_
     obtain ⟨v20, hc21, hr⟩ := bd hr
     refine .g1 fine (ok0 (fiducialref02_Of_ok n s.Sidelap 100 v20 hc21)) <| .mu 2 <| .ca cf0 <| .mu 6 <| .done <| .nh [6, 7, 8, 9, 11] [.own [aI64 s.Width, aI64 s.Height, aI64 s.Low, aI64 s.High, aI64 s.Across, aI64 s.Along, aI64 s.Focal, aI64 s.Overlap, aI64 s.Sidelap, aI64 1], .own (api_Flight.c v5.1), .own (api_Rat.c v16.1), .own (api_Rat.c v16.2.1), .own (api_Rat.c v18.1), .own (api_Rat.c v20.1)] <| .seq ?_
     rcases Bool.eq_false_or_eq_true ((v16.2.2 : Int) == 0) with hb22 | hb22
     ·replace hr := cd_t hb22 hr
      obtain ⟨v23, hc24, hr⟩ := bd hr
      rcases Bool.eq_false_or_eq_true (decide (v23 ≥ 0)) with hb25 | hb25
      ·replace hr := cd_t hb25 hr
       obtain ⟨v26, hc27, hr⟩ := bd hr
       refine .gn fine (ca1 (ok0 (fiducialref02_Compare_ok n v16.1 v18.1 v23 hc24)) (ca3 (ok0 (fiducialref02_Compare_ok n v16.2.1 v20.1 v26 hc27)))) <| .mu 1 <| .p0 (v := aB true) (eB hb22) <| .mu 3 <| .ca cf0 <| .pure (v := aB true) (by kernel_rfl) (eB hb25) <| .mu 4 <| .ca (cfA (fun h => by rw [sv hc27 hc24 (fiducialref02_Compare_cg n h)]) cf0) <| .mu 3 <| .done <| .ret ?_
       obtain rfl := oi hr
       exact FinQ.r1 [aB (decide (v26 ≥ 0))]
      ·replace hr := cd_f hb25 hr
       refine .g1 fine (ok0 (fiducialref02_Compare_ok n v16.1 v18.1 v23 hc24)) <| .mu 1 <| .p0 (v := aB true) (eB hb22) <| .mu 3 <| .ca cf0 <| .pure (v := aB false) (by kernel_rfl) (eB hb25) <| .mu 8 <| .done <| .ret ?_
       obtain rfl := oi hr
       exact FinQ.r1 [aB false]
     ·replace hr := cd_f hb22 hr
      refine .r0 fine <| .mu 1 <| .p0 (v := aB false) (eB hb22) <| .mu 13 <| .done <| .ret ?_
      obtain rfl := oi hr
      exact FinQ.r1 [aB false]
end Go.L
