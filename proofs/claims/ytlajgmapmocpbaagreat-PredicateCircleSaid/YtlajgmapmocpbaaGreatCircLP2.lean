/- The program's functions compute what the plain Lean programs compute, part 2; printed by a program. -/
import Derived.Test.YtlajgmapmocpbaaGreatCircLP1
import Derived.Test.YtlajgmapmocpbaaGreatL0e
import Derived.Test.YtlajgmapmocpbaaGreatChecked
import Derived.KernelRfl
set_option linter.unusedVariables false
set_option linter.unusedSimpArgs false
set_option maxRecDepth 100000
set_option maxHeartbeats 4000000
namespace Go.L
open Go Go.Eng Go.Proofs
theorem integer_Add_ok (n : Nat) (x' : api_Int) (y : api_Int) (r : api_Int) (hr : integer_Add n x' y = some r) : FnOk Tryz.prog 66 [.agg [.at (.bool x'.Negative), slT (iC .u32) x'.Groups], .agg [.at (.bool y.Negative), slT (iC .u32) y.Groups]] (.agg [.at (.bool r.Negative), slT (iC .u32) r.Groups]) := by
 unfold integer_Add at hr
 refine FnOk.body fine Tryz.func66 (c := (Tryz.f66.body).getD .skip) rfl (s := mkS 14 0 [(0, .agg (api_Int.c x')), (1, .agg (api_Int.c y))]) (by kernel_rfl) (rs := [.cell 4 35]) rfl ?_
 unfold Tryz.f66
 simp only [Option.getD_some]
 refine .seq <| .rn fine [2, 3, 4] (mkS 14 0 [(2, .hp 0 0), (3, .hp 1 0), (4, .hp 2 0)]) [.own (api_Int.c x'), .own (api_Int.c y), .own [aB false, .at (.slice none 0 0)]] <| .seq ?_
 obtain ⟨v1, hc2, hr⟩ := bd hr
 obtain ⟨v3, hc4, hr⟩ := bd hr
 obtain ⟨v5, hc6, hr⟩ := bd hr
 refine .regionT fine (callOf_cons (callOk_ref (H := [.own (api_Int.c x'), .own (api_Int.c y), .own [aB false, .at (.slice none 0 0)]]) (l := []) (SnL.cons (Sn.pure rfl) SnL.nil) (integer_groups_ok n x' v1 hc2)) (callOf_cons (callOk_ref (H := [.own (api_Int.c x'), .own (api_Int.c y), .own [aB false, .at (.slice none 0 0)]]) (l := []) (SnL.cons (Sn.pure rfl) SnL.nil) (integer_groups_ok n y v3 hc4)) (callOf_cons (callOk_ref (H := [.own (api_Int.c x'), .own (api_Int.c y), .own [aB false, .at (.slice none 0 0)]]) (l := []) (SnL.cons (Sn.pure rfl) (SnL.cons (Sn.pure rfl) (SnL.cons (Sn.pure rfl) (SnL.cons (Sn.pure rfl) SnL.nil)))) (integer_sum_ok n x'.Negative v1 y.Negative v3 v5 hc6)) callOf_nil))) <| .mu 3 <| .cal (by kernel_rfl) (by kernel_rfl) (callOf_at (by kernel_rfl)) (by kernel_rfl) <| .mu 3 <| .cal (by kernel_rfl) (by kernel_rfl) (callOf_skip (fun _ h => by obtain e0 := integer_groups_inj h; rw [show v3 = v1 from Option.some.inj (hc4.symm.trans ((show integer_groups n y = integer_groups n x' from (congr rfl e0)).trans hc2))]) (callOf_at (by kernel_rfl))) (by kernel_rfl) <| .cal (by kernel_rfl) (by kernel_rfl) (callOf_skip (fun h _ => absurd (show (105 : Nat) = 106 from h) (by decide)) (callOf_skip (fun h _ => absurd (show (105 : Nat) = 106 from h) (by decide)) (callOf_at (by kernel_rfl)))) (by kernel_rfl) <| .mu 1 ?_
 refine .done ⟨by kernel_rfl, ?_⟩
 refine .n1 [4] (mkS 14 0 [(4, .hp 2 0)]) [.own (api_Int.c x'), .own (api_Int.c y), .own (api_Int.c v5)] <| .ret ?_
 obtain rfl := Option.some.inj hr
 exact FinQ.r1 [.agg (api_Int.c v5)]

theorem fraction_Add_ok (n : Nat) (x' : api_Rat) (y : api_Rat) (r : api_Rat) (hr : fraction_Add n x' y = some r) : FnOk Tryz.prog 83 [.agg [.at (.bool x'.Num.Negative), slT (iC .u32) x'.Num.Groups, .at (.bool x'.Den.Negative), slT (iC .u32) x'.Den.Groups], .agg [.at (.bool y.Num.Negative), slT (iC .u32) y.Num.Groups, .at (.bool y.Den.Negative), slT (iC .u32) y.Den.Groups]] (.agg [.at (.bool r.Num.Negative), slT (iC .u32) r.Num.Groups, .at (.bool r.Den.Negative), slT (iC .u32) r.Den.Groups]) := by
 unfold fraction_Add at hr
 refine FnOk.body fine Tryz.func83 (c := (Tryz.f83.body).getD .skip) rfl (s := mkS 26 0 [(0, .agg (api_Rat.c x')), (1, .agg (api_Rat.c y))]) (by kernel_rfl) (rs := [.cell 4 37]) rfl ?_
 unfold Tryz.f83
 simp only [Option.getD_some]
 refine .seq <| .rn fine [2, 3, 4] (mkS 26 0 [(2, .hp 0 0), (3, .hp 1 0), (4, .hp 2 0)]) [.own (api_Rat.c x'), .own (api_Rat.c y), .own [aB false, .at (.slice none 0 0), aB false, .at (.slice none 0 0)]] <| .seq ?_
 obtain ⟨v1, hc2, hr⟩ := bd hr
 obtain ⟨v3, hc4, hr⟩ := bd hr
 refine .regionT fine (callOf_cons (callOk_ref (H := [.own (api_Rat.c x'), .own (api_Rat.c y), .own [aB false, .at (.slice none 0 0), aB false, .at (.slice none 0 0)]]) (l := []) (SnL.cons (Sn.pure rfl) SnL.nil) (fraction_Value_ok n x' v1 hc2)) (callOf_cons (callOk_ref (H := [.own (api_Rat.c x'), .own (api_Rat.c y), .own [aB false, .at (.slice none 0 0), aB false, .at (.slice none 0 0)]]) (l := []) (SnL.cons (Sn.pure rfl) SnL.nil) (fraction_Value_ok n y v3 hc4)) callOf_nil)) <| .mu 1 <| .cal (by kernel_rfl) (by kernel_rfl) (callOf_at (by kernel_rfl)) (by kernel_rfl) <| .mu 1 <| .cal (by kernel_rfl) (by kernel_rfl) (callOf_skip (fun _ h => by obtain e0 := fraction_Value_inj h; rw [show v3 = v1 from Option.some.inj (hc4.symm.trans ((show fraction_Value n y = fraction_Value n x' from (congr rfl e0)).trans hc2))]) (callOf_at (by kernel_rfl))) (by kernel_rfl) <| .mu 2 ?_
 refine .done ⟨by kernel_rfl, ?_⟩
 refine .n1 [2, 3, 4] (mkS 26 0 [(2, .hp 0 0), (3, .hp 1 0), (4, .hp 2 0)]) [.own (api_Rat.c v1), .own (api_Rat.c v3), .own [aB false, .at (.slice none 0 0), aB false, .at (.slice none 0 0)]] <| .seq ?_
 obtain ⟨v5, hc6, hr⟩ := bd hr
 obtain ⟨v7, hc8, hr⟩ := bd hr
 obtain ⟨v9, hc10, hr⟩ := bd hr
 obtain ⟨v11, hc12, hr⟩ := bd hr
 obtain ⟨v13, hc14, hr⟩ := bd hr
 refine .regionT fine (callOf_cons (callOk_ref (H := [.own (api_Rat.c v1), .own (api_Rat.c v3), .own [aB false, .at (.slice none 0 0), aB false, .at (.slice none 0 0)]]) (l := []) (SnL.cons (Sn.pure rfl) (SnL.cons (Sn.pure rfl) SnL.nil)) (integer_Mul_ok n v1.Num v3.Den v5 hc6)) (callOf_cons (callOk_ref (H := [.own (api_Rat.c v1), .own (api_Rat.c v3), .own [aB false, .at (.slice none 0 0), aB false, .at (.slice none 0 0)]]) (l := []) (SnL.cons (Sn.pure rfl) (SnL.cons (Sn.pure rfl) SnL.nil)) (integer_Mul_ok n v3.Num v1.Den v7 hc8)) (callOf_cons (callOk_ref (H := [.own (api_Rat.c v1), .own (api_Rat.c v3), .own [aB false, .at (.slice none 0 0), aB false, .at (.slice none 0 0)]]) (l := []) (SnL.cons (Sn.pure rfl) (SnL.cons (Sn.pure rfl) SnL.nil)) (integer_Add_ok n v5 v7 v9 hc10)) (callOf_cons (callOk_ref (H := [.own (api_Rat.c v1), .own (api_Rat.c v3), .own [aB false, .at (.slice none 0 0), aB false, .at (.slice none 0 0)]]) (l := []) (SnL.cons (Sn.pure rfl) (SnL.cons (Sn.pure rfl) SnL.nil)) (integer_Mul_ok n v1.Den v3.Den v11 hc12)) (callOf_cons (callOk_ref (H := [.own (api_Rat.c v1), .own (api_Rat.c v3), .own [aB false, .at (.slice none 0 0), aB false, .at (.slice none 0 0)]]) (l := []) (SnL.cons (Sn.pure rfl) (SnL.cons (Sn.pure rfl) SnL.nil)) (fraction_reduced_ok n v9 v11 v13 hc14)) callOf_nil))))) <| .mu 4 <| .cal (by kernel_rfl) (by kernel_rfl) (callOf_at (by kernel_rfl)) (by kernel_rfl) <| .mu 4 <| .cal (by kernel_rfl) (by kernel_rfl) (callOf_skip (fun _ h => by obtain ⟨e0, e1⟩ := integer_Mul_inj h; rw [show v7 = v5 from Option.some.inj (hc8.symm.trans ((show integer_Mul n v3.Num v1.Den = integer_Mul n v1.Num v3.Den from (congr (congr rfl e0) e1)).trans hc6))]) (callOf_at (by kernel_rfl))) (by kernel_rfl) <| .cal (by kernel_rfl) (by kernel_rfl) (callOf_skip (fun h _ => absurd (show (66 : Nat) = 67 from h) (by decide)) (callOf_skip (fun h _ => absurd (show (66 : Nat) = 67 from h) (by decide)) (callOf_at (by kernel_rfl)))) (by kernel_rfl) <| .mu 4 <| .cal (by kernel_rfl) (by kernel_rfl) (callOf_skip (fun _ h => by obtain ⟨e0, e1⟩ := integer_Mul_inj h; rw [show v11 = v5 from Option.some.inj (hc12.symm.trans ((show integer_Mul n v1.Den v3.Den = integer_Mul n v1.Num v3.Den from (congr (congr rfl e0) e1)).trans hc6))]) (callOf_skip (fun _ h => by obtain ⟨e0, e1⟩ := integer_Mul_inj h; rw [show v11 = v7 from Option.some.inj (hc12.symm.trans ((show integer_Mul n v1.Den v3.Den = integer_Mul n v3.Num v1.Den from (congr (congr rfl e0) e1)).trans hc8))]) (callOf_skip (fun h _ => absurd (show (67 : Nat) = 66 from h) (by decide)) (callOf_at (by kernel_rfl))))) (by kernel_rfl) <| .cal (by kernel_rfl) (by kernel_rfl) (callOf_skip (fun h _ => absurd (show (117 : Nat) = 67 from h) (by decide)) (callOf_skip (fun h _ => absurd (show (117 : Nat) = 67 from h) (by decide)) (callOf_skip (fun h _ => absurd (show (117 : Nat) = 66 from h) (by decide)) (callOf_skip (fun h _ => absurd (show (117 : Nat) = 67 from h) (by decide)) (callOf_at (by kernel_rfl)))))) (by kernel_rfl) <| .mu 1 ?_
 refine .done ⟨by kernel_rfl, ?_⟩
 refine .n1 [4] (mkS 26 0 [(4, .hp 2 0)]) [.own (api_Rat.c v1), .own (api_Rat.c v3), .own (api_Rat.c v13)] <| .ret ?_
 obtain rfl := Option.some.inj hr
 exact FinQ.r1 [.agg (api_Rat.c v13)]

theorem predicate_Meet_1_ok (n : Nat) (p : Int) (q : Int) (p' : Bool) (p'' : List Int) (p''' : Bool) (p'''' : List Int) (r : api_Rat) (hr : predicate_Meet_1 n p q p' p'' p''' p'''' = some r) : FnOk Tryz.prog 82 [.at (.int .i64 p), .at (.int .i64 q), .pp [.at (.bool p'), slT (iC .u32) p'', .at (.bool p'''), slT (iC .u32) p''''] 0] (.agg [.at (.bool r.Num.Negative), slT (iC .u32) r.Num.Groups, .at (.bool r.Den.Negative), slT (iC .u32) r.Den.Groups]) := by
 unfold predicate_Meet_1 at hr
 refine FnOk.body fine Tryz.func82 (c := (Tryz.f82.body).getD .skip) rfl (s := mkS 15 0 [(0, aI64 p), (1, aI64 q), (2, .pp [aB p', sU32 p'', aB p''', sU32 p''''] 0)]) (by kernel_rfl) (rs := [.cell 5 37]) rfl ?_
 unfold Tryz.f82
 simp only [Option.getD_some]
 refine .seq <| .rn fine [0, 1, 2, 5] (mkS 15 0 [(0, aI64 p), (1, aI64 q), (2, .pp [aB p', sU32 p'', aB p''', sU32 p''''] 0), (5, .hp 0 0)]) [.own [aB false, .at (.slice none 0 0), aB false, .at (.slice none 0 0)]] <| .seq ?_
 obtain ⟨v1, hc2, hr⟩ := bd hr
 obtain ⟨v3, hc4, hr⟩ := bd hr
 obtain ⟨v5, hc6, hr⟩ := bd hr
 obtain ⟨v7, hc8, hr⟩ := bd hr
 refine .regionT fine (callOf_cons (callOk_ref (H := [.own [aB false, .at (.slice none 0 0), aB false, .at (.slice none 0 0)]]) (l := []) (SnL.cons (Sn.pure rfl) SnL.nil) (fraction_Whole_ok n p v1 hc2)) (callOf_cons (callOk_ref (H := [.own [aB false, .at (.slice none 0 0), aB false, .at (.slice none 0 0)]]) (l := []) (SnL.cons (Sn.pure rfl) SnL.nil) (fraction_Whole_ok n (wrapF .i64 (q - p)) v3 hc4)) (callOf_cons (callOk_ref (H := [.own [aB false, .at (.slice none 0 0), aB false, .at (.slice none 0 0)]]) (l := []) (SnL.cons (Sn.pure rfl) (SnL.cons (Sn.pure rfl) SnL.nil)) (fraction_Mul_ok n (api_Rat.mk (api_Int.mk p' p'') (api_Int.mk p''' p'''')) v3 v5 hc6)) (callOf_cons (callOk_ref (H := [.own [aB false, .at (.slice none 0 0), aB false, .at (.slice none 0 0)]]) (l := []) (SnL.cons (Sn.pure rfl) (SnL.cons (Sn.pure rfl) SnL.nil)) (fraction_Add_ok n v1 v5 v7 hc8)) callOf_nil)))) <| .mu 1 <| .cal (by kernel_rfl) (by kernel_rfl) (callOf_at (by kernel_rfl)) (by kernel_rfl) <| .mu 4 <| .cal (by kernel_rfl) (by kernel_rfl) (callOf_skip (fun _ h => by obtain e0 := fraction_Whole_inj h; rw [show v3 = v1 from Option.some.inj (hc4.symm.trans ((show fraction_Whole n (wrapF .i64 (q - p)) = fraction_Whole n p from (congr rfl e0)).trans hc2))]) (callOf_at (by kernel_rfl))) (by kernel_rfl) <| .cal (by kernel_rfl) (by kernel_rfl) (callOf_skip (fun h _ => absurd (show (84 : Nat) = 80 from h) (by decide)) (callOf_skip (fun h _ => absurd (show (84 : Nat) = 80 from h) (by decide)) (callOf_at (by kernel_rfl)))) (by kernel_rfl) <| .cal (by kernel_rfl) (by kernel_rfl) (callOf_skip (fun h _ => absurd (show (83 : Nat) = 80 from h) (by decide)) (callOf_skip (fun h _ => absurd (show (83 : Nat) = 80 from h) (by decide)) (callOf_skip (fun h _ => absurd (show (83 : Nat) = 84 from h) (by decide)) (callOf_at (by kernel_rfl))))) (by kernel_rfl) <| .mu 1 ?_
 refine .done ⟨by kernel_rfl, ?_⟩
 refine .n1 [5] (mkS 15 0 [(5, .hp 0 0)]) [.own (api_Rat.c v7)] <| .ret ?_
 obtain rfl := Option.some.inj hr
 exact FinQ.r1 [.agg (api_Rat.c v7)]

theorem predicate_Meet_ok (n : Nat) (a : api_Pix) (b : api_Pix) (c : api_Pix) (d : api_Pix) (r : api_Place × Int) (hr : predicate_Meet n a b c d = some r) : FnOk Tryz.prog 37 [.agg [.at (.int .i64 a.X), .at (.int .i64 a.Y)], .agg [.at (.int .i64 b.X), .at (.int .i64 b.Y)], .agg [.at (.int .i64 c.X), .at (.int .i64 c.Y)], .agg [.at (.int .i64 d.X), .at (.int .i64 d.Y)]] (.tup [.agg [.at (.bool r.1.X.Num.Negative), slT (iC .u32) r.1.X.Num.Groups, .at (.bool r.1.X.Den.Negative), slT (iC .u32) r.1.X.Den.Groups, .at (.bool r.1.Y.Num.Negative), slT (iC .u32) r.1.Y.Num.Groups, .at (.bool r.1.Y.Den.Negative), slT (iC .u32) r.1.Y.Den.Groups], .at (.int .i64 r.2)]) := by
 unfold predicate_Meet at hr
 refine FnOk.body fine Tryz.func37 (c := (Tryz.f37.body).getD .skip) rfl (s := mkS 108 0 [(0, .agg (api_Pix.c a)), (1, .agg (api_Pix.c b)), (2, .agg (api_Pix.c c)), (3, .agg (api_Pix.c d))]) (by kernel_rfl) (rs := [.cell 8 82, .tmp 9]) rfl ?_
 unfold Tryz.f37
 simp only [Option.getD_some]
 refine .seq <| .rn fine [4, 5, 6, 7, 8] (mkS 108 0 [(4, .hp 0 0), (5, .hp 1 0), (6, .hp 2 0), (7, .hp 3 0), (8, .hp 4 0)]) [.own (api_Pix.c a), .own (api_Pix.c b), .own (api_Pix.c c), .own (api_Pix.c d), .own [aB false, .at (.slice none 0 0), aB false, .at (.slice none 0 0), aB false, .at (.slice none 0 0), aB false, .at (.slice none 0 0)]] <| .seq ?_
 obtain ⟨v1, hc2, hr⟩ := bd hr
 refine .g1 fine (callOk_val (l := []) rfl (SnL.cons (Sn.pure rfl) (SnL.cons (Sn.pure rfl) (SnL.cons (Sn.pure rfl) (SnL.cons (Sn.pure rfl) SnL.nil)))) (predicate_Relate_ok n a b c d v1 hc2)) <| .mu 4 <| .c0 (by kernel_rfl) (callOf_at (by kernel_rfl)) <| .mu 5 <| .done <| .n1 [4, 5, 6, 7, 8, 10, 11] (mkS 108 0 [(4, .hp 0 0), (5, .hp 1 0), (6, .hp 2 0), (7, .hp 3 0), (8, .hp 4 0), (10, aI64 v1.1), (11, aI64 v1.2)]) [.own (api_Pix.c a), .own (api_Pix.c b), .own (api_Pix.c c), .own (api_Pix.c d), .own [aB false, .at (.slice none 0 0), aB false, .at (.slice none 0 0), aB false, .at (.slice none 0 0), aB false, .at (.slice none 0 0)]] <| .seq <| .block <| .seq <| .rn fine [4, 5, 6, 7, 8, 10, 11, 28] (mkS 108 0 [(4, .hp 0 0), (5, .hp 1 0), (6, .hp 2 0), (7, .hp 3 0), (8, .hp 4 0), (10, aI64 v1.1), (11, aI64 v1.2), (28, aB ((v1.2 : Int) != 0))]) [.own (api_Pix.c a), .own (api_Pix.c b), .own (api_Pix.c c), .own (api_Pix.c d), .own [aB false, .at (.slice none 0 0), aB false, .at (.slice none 0 0), aB false, .at (.slice none 0 0), aB false, .at (.slice none 0 0)]] ?_
 refine .cond (t := (v1.2 : Int) != 0) (by kernel_rfl) (fun hb3 => ?_) (fun hb3 => ?_)
 ·replace hr := cd_t hb3 hr
  refine .seq <| .rn fine [8, 9] (mkS 108 0 [(8, .hp 4 0), (9, aI64 v1.2)]) [.own (api_Pix.c a), .own (api_Pix.c b), .own (api_Pix.c c), .own (api_Pix.c d), .own [aB false, .at (.slice none 0 0), aB false, .at (.slice none 0 0), aB false, .at (.slice none 0 0), aB false, .at (.slice none 0 0)]] <| .ret ?_
  obtain rfl := Option.some.inj hr
  exact FinQ.ret (vs := [.agg [aB false, .at (.slice none 0 0), aB false, .at (.slice none 0 0), aB false, .at (.slice none 0 0), aB false, .at (.slice none 0 0)], aI64 v1.2]) (by kernel_rfl) (Sn.tup (SnL.cons (Sn.agg (SnL.cons (Sn.pure rfl) (SnL.cons Sn.nilsl (SnL.cons (Sn.pure rfl) (SnL.cons Sn.nilsl (SnL.cons (Sn.pure rfl) (SnL.cons Sn.nilsl (SnL.cons (Sn.pure rfl) (SnL.cons Sn.nilsl SnL.nil))))))))) (SnL.cons (Sn.pure rfl) SnL.nil)))
 ·replace hr := cd_f hb3 hr
  refine .seq <| .rn fine [4, 5, 6, 7, 8, 10, 33] (mkS 108 0 [(4, .hp 0 0), (5, .hp 1 0), (6, .hp 2 0), (7, .hp 3 0), (8, .hp 4 0), (10, aI64 v1.1), (33, aB ((v1.1 : Int) == 0))]) [.own (api_Pix.c a), .own (api_Pix.c b), .own (api_Pix.c c), .own (api_Pix.c d), .own [aB false, .at (.slice none 0 0), aB false, .at (.slice none 0 0), aB false, .at (.slice none 0 0), aB false, .at (.slice none 0 0)]] ?_
  refine .cond (t := (v1.1 : Int) == 0) (by kernel_rfl) (fun hb4 => ?_) (fun hb4 => ?_)
  ·replace hr := cd_t hb4 hr
   refine .seq <| .rn fine [8, 9] (mkS 108 0 [(8, .hp 4 0), (9, aI64 6)]) [.own (api_Pix.c a), .own (api_Pix.c b), .own (api_Pix.c c), .own (api_Pix.c d), .own [aB false, .at (.slice none 0 0), aB false, .at (.slice none 0 0), aB false, .at (.slice none 0 0), aB false, .at (.slice none 0 0)]] <| .ret ?_
   obtain rfl := Option.some.inj hr
   exact FinQ.ret (vs := [.agg [aB false, .at (.slice none 0 0), aB false, .at (.slice none 0 0), aB false, .at (.slice none 0 0), aB false, .at (.slice none 0 0)], aI64 6]) (by kernel_rfl) (Sn.tup (SnL.cons (Sn.agg (SnL.cons (Sn.pure rfl) (SnL.cons Sn.nilsl (SnL.cons (Sn.pure rfl) (SnL.cons Sn.nilsl (SnL.cons (Sn.pure rfl) (SnL.cons Sn.nilsl (SnL.cons (Sn.pure rfl) (SnL.cons Sn.nilsl SnL.nil))))))))) (SnL.cons (Sn.pure rfl) SnL.nil)))
  ·replace hr := cd_f hb4 hr
   refine .seq <| .rn fine [4, 5, 6, 7, 8, 10, 37] (mkS 108 0 [(4, .hp 0 0), (5, .hp 1 0), (6, .hp 2 0), (7, .hp 3 0), (8, .hp 4 0), (10, aI64 v1.1), (37, aB ((v1.1 : Int) == 3))]) [.own (api_Pix.c a), .own (api_Pix.c b), .own (api_Pix.c c), .own (api_Pix.c d), .own [aB false, .at (.slice none 0 0), aB false, .at (.slice none 0 0), aB false, .at (.slice none 0 0), aB false, .at (.slice none 0 0)]] ?_
   refine .cond (t := (v1.1 : Int) == 3) (by kernel_rfl) (fun hb5 => ?_) (fun hb5 => ?_)
   ·replace hr := cd_t hb5 hr
    refine .seq <| .rn fine [8, 9] (mkS 108 0 [(8, .hp 4 0), (9, aI64 11)]) [.own (api_Pix.c a), .own (api_Pix.c b), .own (api_Pix.c c), .own (api_Pix.c d), .own [aB false, .at (.slice none 0 0), aB false, .at (.slice none 0 0), aB false, .at (.slice none 0 0), aB false, .at (.slice none 0 0)]] <| .ret ?_
    obtain rfl := Option.some.inj hr
    exact FinQ.ret (vs := [.agg [aB false, .at (.slice none 0 0), aB false, .at (.slice none 0 0), aB false, .at (.slice none 0 0), aB false, .at (.slice none 0 0)], aI64 11]) (by kernel_rfl) (Sn.tup (SnL.cons (Sn.agg (SnL.cons (Sn.pure rfl) (SnL.cons Sn.nilsl (SnL.cons (Sn.pure rfl) (SnL.cons Sn.nilsl (SnL.cons (Sn.pure rfl) (SnL.cons Sn.nilsl (SnL.cons (Sn.pure rfl) (SnL.cons Sn.nilsl SnL.nil))))))))) (SnL.cons (Sn.pure rfl) SnL.nil)))
   ·replace hr := cd_f hb5 hr
    refine .seq <| .rn fine [4, 5, 6, 7, 8, 41] (mkS 108 0 [(4, .hp 0 0), (5, .hp 1 0), (6, .hp 2 0), (7, .hp 3 0), (8, .hp 4 0), (41, aB ((v1.1 : Int) == 1))]) [.own (api_Pix.c a), .own (api_Pix.c b), .own (api_Pix.c c), .own (api_Pix.c d), .own [aB false, .at (.slice none 0 0), aB false, .at (.slice none 0 0), aB false, .at (.slice none 0 0), aB false, .at (.slice none 0 0)]] ?_
    refine .cond (t := (v1.1 : Int) == 1) (by kernel_rfl) (fun hb6 => ?_) (fun hb6 => ?_)
    ·replace hr := cd_t hb6 hr
     refine .seq <| .seq <| .rn fine [4, 5, 6, 7, 8, 46, 47, 48] (mkS 108 0 [(4, .hp 0 0), (5, .hp 1 0), (6, .hp 2 0), (7, .hp 3 0), (8, .hp 4 0), (46, .hs 5 0 2 2), (47, aI64 2), (48, aI64 0)]) [.own (api_Pix.c a), .own (api_Pix.c b), .own (api_Pix.c c), .own (api_Pix.c d), .own [aB false, .at (.slice none 0 0), aB false, .at (.slice none 0 0), aB false, .at (.slice none 0 0), aB false, .at (.slice none 0 0)], .own [aI64 a.X, aI64 a.Y, aI64 b.X, aI64 b.Y]] <| .block ?_
     replace hr := bd hr; obtain ⟨o27, hL28, hr⟩ := hr
     refine .loopO (σ := fun z0 => match z0 with | x_7 => ⟨mkS 108 0 [(4, .hp 0 0), (5, .hp 1 0), (6, .hp 2 0), (7, .hp 3 0), (8, .hp 4 0), (46, .hs 5 0 ([a, b].length) 2), (47, aI64 2), (48, aI64 x_7)], [.own (api_Pix.c a), .own (api_Pix.c b), .own (api_Pix.c c), .own (api_Pix.c d), .own [aB false, .at (.slice none 0 0), aB false, .at (.slice none 0 0), aB false, .at (.slice none 0 0), aB false, .at (.slice none 0 0)], .own ([a, b].flatMap api_Pix.c)]⟩) (Q := fun x st' => match (generalizing := false) o27 with | .inl _ => x = .exit 1 ∧ Wk 0 st' ⟨mkS 108 0 [(4, .hp 0 0), (5, .hp 1 0), (6, .hp 2 0), (7, .hp 3 0), (8, .hp 4 0)], [.own (api_Pix.c a), .own (api_Pix.c b), .own (api_Pix.c c), .own (api_Pix.c d), .own [aB false, .at (.slice none 0 0), aB false, .at (.slice none 0 0), aB false, .at (.slice none 0 0), aB false, .at (.slice none 0 0)]]⟩ | .inr (r0) => x = .ret ∧ FinQ Tryz.prog [.cell 8 82, .tmp 9] (.tup [.agg (api_Place.c r0.1), aI64 r0.2]) .ret st') hL28 ((Wk.gc [4, 5, 6, 7, 8, 46, 47, 48] [(0, true), (1, true), (2, true), (3, true), (4, true), (5, false)] rfl (pKt (pKt (pKt (pKt (pKt (pKc trivial))))))).to (by kernel_rfl)) ?_ ?_
     ·clear hr
      rintro m x_7 hr
      show CQ _ _ _ _ _ ⟨_, _⟩
      refine .seq <| .rn fine [4, 5, 6, 7, 8, 46, 47, 48, 49] (mkS 108 0 [(4, .hp 0 0), (5, .hp 1 0), (6, .hp 2 0), (7, .hp 3 0), (8, .hp 4 0), (46, .hs 5 0 ([a, b].length) 2), (47, aI64 2), (48, aI64 x_7), (49, aB (decide (x_7 < 2)))]) [.own (api_Pix.c a), .own (api_Pix.c b), .own (api_Pix.c c), .own (api_Pix.c d), .own [aB false, .at (.slice none 0 0), aB false, .at (.slice none 0 0), aB false, .at (.slice none 0 0), aB false, .at (.slice none 0 0)], .own ([a, b].flatMap api_Pix.c)] <| .seq ?_
      refine .cond (t := decide (x_7 < 2)) (by kernel_rfl) (fun hb18 => ?_) (fun hb18 => ?_)
      ·replace hr := cd_t hb18 hr
       refine .skip <| .seq <| .block <| .seq ?_
       obtain ⟨hg19, hr⟩ := gd hr
       refine .r0 fine <| .p0 (v := .hp 5 (0 + x_7.toNat * 2)) (Eq.trans (b := ORes.ofP (guardV (inR x_7 ([a, b].length)) (.hp 5 (0 + x_7.toNat * 2)))) (by kernel_rfl) (ofP_guard hg19)) <| .p0 (v := .agg (api_Pix.c (gt [a, b] x_7))) (Eq.trans (b := ORes.ofP (guardV (decide (2 ≤ (([a, b].flatMap api_Pix.c).drop (0 + x_7.toNat * 2)).length)) (.agg ((([a, b].flatMap api_Pix.c).drop (0 + x_7.toNat * 2)).take 2)))) (by kernel_rfl) (flat_load api_Pix.len (inR_lt hg19) (by decide) (by omega : 0 + x_7.toNat * 2 = x_7.toNat * 2 + 0) (by kernel_rfl))) <| .mu 2 <| .done <| .n1 [4, 5, 6, 7, 8, 13, 46, 47, 48] (mkS 108 0 [(4, .hp 0 0), (5, .hp 1 0), (6, .hp 2 0), (7, .hp 3 0), (8, .hp 4 0), (13, .hp 6 0), (46, .hs 5 0 ([a, b].length) 2), (47, aI64 2), (48, aI64 x_7)]) [.own (api_Pix.c a), .own (api_Pix.c b), .own (api_Pix.c c), .own (api_Pix.c d), .own [aB false, .at (.slice none 0 0), aB false, .at (.slice none 0 0), aB false, .at (.slice none 0 0), aB false, .at (.slice none 0 0)], .own ([a, b].flatMap api_Pix.c), .own (api_Pix.c (gt [a, b] x_7))] <| .seq ?_
       obtain ⟨v20, hc21, hr⟩ := bd hr
       refine .g1 fine (callOk_val (l := []) rfl (SnL.cons (Sn.pure rfl) (SnL.cons (Sn.pure rfl) (SnL.cons (Sn.pure rfl) SnL.nil))) (predicate_on_ok n c d (gt [a, b] x_7) v20 hc21)) <| .mu 3 <| .c0 (by kernel_rfl) (callOf_at (by kernel_rfl)) <| .done <| .n1 [4, 5, 6, 7, 8, 13, 46, 47, 48, 55] (mkS 108 0 [(4, .hp 0 0), (5, .hp 1 0), (6, .hp 2 0), (7, .hp 3 0), (8, .hp 4 0), (13, .hp 6 0), (46, .hs 5 0 ([a, b].length) 2), (47, aI64 2), (48, aI64 x_7), (55, aB v20)]) [.own (api_Pix.c a), .own (api_Pix.c b), .own (api_Pix.c c), .own (api_Pix.c d), .own [aB false, .at (.slice none 0 0), aB false, .at (.slice none 0 0), aB false, .at (.slice none 0 0), aB false, .at (.slice none 0 0)], .own ([a, b].flatMap api_Pix.c), .own (api_Pix.c (gt [a, b] x_7))] ?_
       refine .cond (t := v20) (by kernel_rfl) (fun hb22 => ?_) (fun hb22 => ?_)
       ·replace hr := cd_t hb22 hr
        refine .seq ?_
        obtain ⟨v23, hc24, hr⟩ := bd hr
        obtain ⟨v25, hc26, hr⟩ := bd hr
        refine .regionT fine (callOf_cons (callOk_ref (H := [.own (api_Pix.c a), .own (api_Pix.c b), .own (api_Pix.c c), .own (api_Pix.c d), .own [aB false, .at (.slice none 0 0), aB false, .at (.slice none 0 0), aB false, .at (.slice none 0 0), aB false, .at (.slice none 0 0)], .own ([a, b].flatMap api_Pix.c), .own (api_Pix.c (gt [a, b] x_7))]) (l := []) (SnL.cons (Sn.pure rfl) SnL.nil) (fraction_Whole_ok n (gt [a, b] x_7).X v23 hc24)) (callOf_cons (callOk_ref (H := [.own (api_Pix.c a), .own (api_Pix.c b), .own (api_Pix.c c), .own (api_Pix.c d), .own [aB false, .at (.slice none 0 0), aB false, .at (.slice none 0 0), aB false, .at (.slice none 0 0), aB false, .at (.slice none 0 0)], .own ([a, b].flatMap api_Pix.c), .own (api_Pix.c (gt [a, b] x_7))]) (l := []) (SnL.cons (Sn.pure rfl) SnL.nil) (fraction_Whole_ok n (gt [a, b] x_7).Y v25 hc26)) callOf_nil)) <| .mu 2 <| .cal (by kernel_rfl) (by kernel_rfl) (callOf_at (by kernel_rfl)) (by kernel_rfl) <| .mu 2 <| .cal (by kernel_rfl) (by kernel_rfl) (callOf_skip (fun _ h => by obtain e0 := fraction_Whole_inj h; rw [show v25 = v23 from Option.some.inj (hc26.symm.trans ((show fraction_Whole n (gt [a, b] x_7).Y = fraction_Whole n (gt [a, b] x_7).X from (congr rfl e0)).trans hc24))]) (callOf_at (by kernel_rfl))) (by kernel_rfl) <| .mu 3 ?_
        refine .done ⟨by kernel_rfl, ?_⟩
        refine .n1 [8, 9] (mkS 108 0 [(8, .hp 4 0), (9, aI64 0)]) [.own (api_Pix.c a), .own (api_Pix.c b), .own (api_Pix.c c), .own (api_Pix.c d), .own [aB v23.Num.Negative, sU32 v23.Num.Groups, aB v23.Den.Negative, sU32 v23.Den.Groups, aB v25.Num.Negative, sU32 v25.Num.Groups, aB v25.Den.Negative, sU32 v25.Den.Groups], .own ([a, b].flatMap api_Pix.c), .own (api_Pix.c (gt [a, b] x_7))] <| .ret ?_
        obtain rfl := Option.some.inj hr
        exact ⟨rfl, FinQ.ret (vs := [.agg [aB v23.Num.Negative, sU32 v23.Num.Groups, aB v23.Den.Negative, sU32 v23.Den.Groups, aB v25.Num.Negative, sU32 v25.Num.Groups, aB v25.Den.Negative, sU32 v25.Den.Groups], aI64 0]) (by kernel_rfl) (Sn.tup (SnL.cons (Sn.pure rfl) (SnL.cons (Sn.pure rfl) SnL.nil)))⟩
       ·replace hr := cd_f hb22 hr
        refine .skip <| .pop <| .ru fine ?_
        exact loopF_back (wrapF .i64 (x_7 + 1)) hr ((Wk.gc [4, 5, 6, 7, 8, 46, 47, 48] [(0, true), (1, true), (2, true), (3, true), (4, true), (5, false)] rfl (pKt (pKt (pKt (pKt (pKt (pKo api_Pix.c api_Pix.pure [a, b] trivial))))))).to (by kernel_rfl))
      ·replace hr := cd_f hb18 hr
       refine .leave rfl ?_
       obtain rfl := Option.some.inj hr
       exact ⟨rfl, ((Wk.gc [4, 5, 6, 7, 8] [(0, true), (1, true), (2, true), (3, true), (4, true)] rfl trivial).to (by kernel_rfl))⟩
     ·rcases o27 with ⟨⟩ | r0
      ·rintro x st' hq29
       clear hL28
       obtain ⟨rfl, hq29⟩ := hq29
       refine CQ_exit _ rfl <| .wk hq29 <| .seq <| .rn fine [4, 5, 6, 7, 8, 14] (mkS 108 0 [(4, .hp 0 0), (5, .hp 1 0), (6, .hp 2 0), (7, .hp 3 0), (8, .hp 4 0), (14, .hp 5 0)]) [.own (api_Pix.c a), .own (api_Pix.c b), .own (api_Pix.c c), .own (api_Pix.c d), .own [aB false, .at (.slice none 0 0), aB false, .at (.slice none 0 0), aB false, .at (.slice none 0 0), aB false, .at (.slice none 0 0)], .own (api_Pix.c c)] <| .seq <| .seq ?_
       obtain ⟨v30, hc31, hr⟩ := bd hr
       refine .g1 fine (callOk_val (l := []) rfl (SnL.cons (Sn.pure rfl) (SnL.cons (Sn.pure rfl) (SnL.cons (Sn.pure rfl) SnL.nil))) (predicate_on_ok n a b c v30 hc31)) <| .mu 3 <| .c0 (by kernel_rfl) (callOf_at (by kernel_rfl)) <| .mu 1 <| .done <| .n1 [7, 8, 14, 69] (mkS 108 0 [(7, .hp 3 0), (8, .hp 4 0), (14, .hp 5 0), (69, aB (!v30))]) [.own (api_Pix.c a), .own (api_Pix.c b), .own (api_Pix.c c), .own (api_Pix.c d), .own [aB false, .at (.slice none 0 0), aB false, .at (.slice none 0 0), aB false, .at (.slice none 0 0), aB false, .at (.slice none 0 0)], .own (api_Pix.c c)] ?_
       refine .cond (t := !v30) (by kernel_rfl) (fun hb32 => ?_) (fun hb32 => ?_)
       ·replace hr := cd_t hb32 hr
        refine .rn fine [8, 14] (mkS 108 0 [(8, .hp 4 0), (14, .hp 5 0)]) [.own (api_Pix.c a), .own (api_Pix.c b), .own (api_Pix.c c), .own (api_Pix.c d), .own [aB false, .at (.slice none 0 0), aB false, .at (.slice none 0 0), aB false, .at (.slice none 0 0), aB false, .at (.slice none 0 0)], .own (api_Pix.c d)] <| .seq ?_
        obtain ⟨v33, hc34, hr⟩ := bd hr
        obtain ⟨v35, hc36, hr⟩ := bd hr
        refine .regionT fine (callOf_cons (callOk_ref (H := [.own (api_Pix.c a), .own (api_Pix.c b), .own (api_Pix.c c), .own (api_Pix.c d), .own [aB false, .at (.slice none 0 0), aB false, .at (.slice none 0 0), aB false, .at (.slice none 0 0), aB false, .at (.slice none 0 0)], .own (api_Pix.c d)]) (l := []) (SnL.cons (Sn.pure rfl) SnL.nil) (fraction_Whole_ok n d.X v33 hc34)) (callOf_cons (callOk_ref (H := [.own (api_Pix.c a), .own (api_Pix.c b), .own (api_Pix.c c), .own (api_Pix.c d), .own [aB false, .at (.slice none 0 0), aB false, .at (.slice none 0 0), aB false, .at (.slice none 0 0), aB false, .at (.slice none 0 0)], .own (api_Pix.c d)]) (l := []) (SnL.cons (Sn.pure rfl) SnL.nil) (fraction_Whole_ok n d.Y v35 hc36)) callOf_nil)) <| .mu 2 <| .cal (by kernel_rfl) (by kernel_rfl) (callOf_at (by kernel_rfl)) (by kernel_rfl) <| .mu 2 <| .cal (by kernel_rfl) (by kernel_rfl) (callOf_skip (fun _ h => by obtain e0 := fraction_Whole_inj h; rw [show v35 = v33 from Option.some.inj (hc36.symm.trans ((show fraction_Whole n d.Y = fraction_Whole n d.X from (congr rfl e0)).trans hc34))]) (callOf_at (by kernel_rfl))) (by kernel_rfl) <| .mu 3 ?_
        refine .done ⟨by kernel_rfl, ?_⟩
        refine .n1 [8, 9] (mkS 108 0 [(8, .hp 4 0), (9, aI64 0)]) [.own (api_Pix.c a), .own (api_Pix.c b), .own (api_Pix.c c), .own (api_Pix.c d), .own [aB v33.Num.Negative, sU32 v33.Num.Groups, aB v33.Den.Negative, sU32 v33.Den.Groups, aB v35.Num.Negative, sU32 v35.Num.Groups, aB v35.Den.Negative, sU32 v35.Den.Groups], .own (api_Pix.c d)] <| .ret ?_
        obtain rfl := Option.some.inj hr
        exact FinQ.ret (vs := [.agg [aB v33.Num.Negative, sU32 v33.Num.Groups, aB v33.Den.Negative, sU32 v33.Den.Groups, aB v35.Num.Negative, sU32 v35.Num.Groups, aB v35.Den.Negative, sU32 v35.Den.Groups], aI64 0]) (by kernel_rfl) (Sn.tup (SnL.cons (Sn.pure rfl) (SnL.cons (Sn.pure rfl) SnL.nil)))
       ·replace hr := cd_f hb32 hr
        refine .skip <| .seq ?_
        obtain ⟨v37, hc38, hr⟩ := bd hr
        obtain ⟨v39, hc40, hr⟩ := bd hr
        refine .regionT fine (callOf_cons (callOk_ref (H := [.own (api_Pix.c a), .own (api_Pix.c b), .own (api_Pix.c c), .own (api_Pix.c d), .own [aB false, .at (.slice none 0 0), aB false, .at (.slice none 0 0), aB false, .at (.slice none 0 0), aB false, .at (.slice none 0 0)], .own (api_Pix.c c)]) (l := []) (SnL.cons (Sn.pure rfl) SnL.nil) (fraction_Whole_ok n c.X v37 hc38)) (callOf_cons (callOk_ref (H := [.own (api_Pix.c a), .own (api_Pix.c b), .own (api_Pix.c c), .own (api_Pix.c d), .own [aB false, .at (.slice none 0 0), aB false, .at (.slice none 0 0), aB false, .at (.slice none 0 0), aB false, .at (.slice none 0 0)], .own (api_Pix.c c)]) (l := []) (SnL.cons (Sn.pure rfl) SnL.nil) (fraction_Whole_ok n c.Y v39 hc40)) callOf_nil)) <| .mu 2 <| .cal (by kernel_rfl) (by kernel_rfl) (callOf_at (by kernel_rfl)) (by kernel_rfl) <| .mu 2 <| .cal (by kernel_rfl) (by kernel_rfl) (callOf_skip (fun _ h => by obtain e0 := fraction_Whole_inj h; rw [show v39 = v37 from Option.some.inj (hc40.symm.trans ((show fraction_Whole n c.Y = fraction_Whole n c.X from (congr rfl e0)).trans hc38))]) (callOf_at (by kernel_rfl))) (by kernel_rfl) <| .mu 3 ?_
        refine .done ⟨by kernel_rfl, ?_⟩
        refine .n1 [8, 9] (mkS 108 0 [(8, .hp 4 0), (9, aI64 0)]) [.own (api_Pix.c a), .own (api_Pix.c b), .own (api_Pix.c c), .own (api_Pix.c d), .own [aB v37.Num.Negative, sU32 v37.Num.Groups, aB v37.Den.Negative, sU32 v37.Den.Groups, aB v39.Num.Negative, sU32 v39.Num.Groups, aB v39.Den.Negative, sU32 v39.Den.Groups], .own (api_Pix.c c)] <| .ret ?_
        obtain rfl := Option.some.inj hr
        exact FinQ.ret (vs := [.agg [aB v37.Num.Negative, sU32 v37.Num.Groups, aB v37.Den.Negative, sU32 v37.Den.Groups, aB v39.Num.Negative, sU32 v39.Num.Groups, aB v39.Den.Negative, sU32 v39.Den.Groups], aI64 0]) (by kernel_rfl) (Sn.tup (SnL.cons (Sn.pure rfl) (SnL.cons (Sn.pure rfl) SnL.nil)))
      ·rintro x st' hq29
       clear hL28
       obtain ⟨rfl, hq29⟩ := hq29
       obtain rfl := Option.some.inj hr
       exact CQ_ret _ hq29
    ·replace hr := cd_f hb6 hr
     refine .skip <| .pop <| .seq ?_
     obtain ⟨v41, hc42, hr⟩ := bd hr
     obtain ⟨v43, hc44, hr⟩ := bd hr
     refine .regionT fine (callOf_cons (callOk_val (H := [.own (api_Pix.c a), .own (api_Pix.c b), .own (api_Pix.c c), .own (api_Pix.c d), .own [aB false, .at (.slice none 0 0), aB false, .at (.slice none 0 0), aB false, .at (.slice none 0 0), aB false, .at (.slice none 0 0)]]) (l := []) rfl (SnL.cons (Sn.pure rfl) (SnL.cons (Sn.pure rfl) (SnL.cons (Sn.pure rfl) SnL.nil))) (predicate_cross_ok n c d a v41 hc42)) (callOf_cons (callOk_val (H := [.own (api_Pix.c a), .own (api_Pix.c b), .own (api_Pix.c c), .own (api_Pix.c d), .own [aB false, .at (.slice none 0 0), aB false, .at (.slice none 0 0), aB false, .at (.slice none 0 0), aB false, .at (.slice none 0 0)]]) (l := []) rfl (SnL.cons (Sn.pure rfl) (SnL.cons (Sn.pure rfl) (SnL.cons (Sn.pure rfl) SnL.nil))) (predicate_cross_ok n c d b v43 hc44)) callOf_nil)) <| .mu 3 <| .cal (by kernel_rfl) (by kernel_rfl) (callOf_at (by kernel_rfl)) (by kernel_rfl) <| .mu 3 <| .cal (by kernel_rfl) (by kernel_rfl) (callOf_skip (fun _ h => by obtain ⟨e0, e1, e2⟩ := predicate_cross_inj h; rw [show v43 = v41 from Option.some.inj (hc44.symm.trans ((show predicate_cross n c d b = predicate_cross n c d a from (congr (congr (congr rfl e0) e1) e2)).trans hc42))]) (callOf_at (by kernel_rfl))) (by kernel_rfl) <| .mu 2 ?_
     refine .done ⟨by kernel_rfl, ?_⟩
     refine .n1 [4, 5, 8, 15, 16] (mkS 108 0 [(4, .hp 0 0), (5, .hp 1 0), (8, .hp 4 0), (15, aI64 v41), (16, aI64 v43)]) [.own (api_Pix.c a), .own (api_Pix.c b), .own (api_Pix.c c), .own (api_Pix.c d), .own [aB false, .at (.slice none 0 0), aB false, .at (.slice none 0 0), aB false, .at (.slice none 0 0), aB false, .at (.slice none 0 0)]] <| .seq ?_
     obtain ⟨v45, hc46, hr⟩ := bd hr
     refine .g1 fine (callOk_ref (l := []) (SnL.cons (Sn.pure rfl) (SnL.cons (Sn.pure rfl) SnL.nil)) (fraction_Of_ok n v41 (wrapF .i64 (v41 - v43)) v45 hc46)) <| .mu 4 <| .c0 (by kernel_rfl) (callOf_at (by kernel_rfl)) <| .mu 6 <| .done <| .n1 [4, 5, 8, 17] (mkS 108 0 [(4, .hp 0 0), (5, .hp 1 0), (8, .hp 4 0), (17, .hp 5 0)]) [.own (api_Pix.c a), .own (api_Pix.c b), .own (api_Pix.c c), .own (api_Pix.c d), .own [aB false, .at (.slice none 0 0), aB false, .at (.slice none 0 0), aB false, .at (.slice none 0 0), aB false, .at (.slice none 0 0)], .own (api_Rat.c v45.1)] <| .seq <| .rn fine [4, 5, 8, 19] (mkS 108 0 [(4, .hp 0 0), (5, .hp 1 0), (8, .hp 4 0), (19, .fn 82 [] [.hp 5 0])]) [.own (api_Pix.c a), .own (api_Pix.c b), .own (api_Pix.c c), .own (api_Pix.c d), .own [aB false, .at (.slice none 0 0), aB false, .at (.slice none 0 0), aB false, .at (.slice none 0 0), aB false, .at (.slice none 0 0)], .own (api_Rat.c v45.1)] <| .seq ?_
     obtain ⟨v47, hc48, hr⟩ := bd hr
     obtain ⟨v49, hc50, hr⟩ := bd hr
     refine .regionT fine (callOf_cons (callOk_ref (H := [.own (api_Pix.c a), .own (api_Pix.c b), .own (api_Pix.c c), .own (api_Pix.c d), .own [aB false, .at (.slice none 0 0), aB false, .at (.slice none 0 0), aB false, .at (.slice none 0 0), aB false, .at (.slice none 0 0)], .own (api_Rat.c v45.1)]) (args := [aI64 a.X, aI64 b.X, .hp 5 0]) (l := [5]) (SnL.cons (Sn.pure rfl) (SnL.cons (Sn.pure rfl) (SnL.cons (Sn.hp rfl (.inl rfl) (SnC.cons (Sn.pure rfl) (SnC.cons (Sn.pure rfl) (SnC.cons (Sn.pure rfl) (SnC.cons (Sn.pure rfl) SnC.nil))))) SnL.nil))) (predicate_Meet_1_ok n a.X b.X v45.1.Num.Negative v45.1.Num.Groups v45.1.Den.Negative v45.1.Den.Groups v47 hc48)) (callOf_cons (callOk_ref (H := [.own (api_Pix.c a), .own (api_Pix.c b), .own (api_Pix.c c), .own (api_Pix.c d), .own [aB false, .at (.slice none 0 0), aB false, .at (.slice none 0 0), aB false, .at (.slice none 0 0), aB false, .at (.slice none 0 0)], .fix (api_Rat.c v45.1)]) (args := [aI64 a.Y, aI64 b.Y, .hp 5 0]) (l := [5]) (SnL.cons (Sn.pure rfl) (SnL.cons (Sn.pure rfl) (SnL.cons (Sn.hp rfl (.inr rfl) (SnC.cons (Sn.pure rfl) (SnC.cons (Sn.pure rfl) (SnC.cons (Sn.pure rfl) (SnC.cons (Sn.pure rfl) SnC.nil))))) SnL.nil))) (predicate_Meet_1_ok n a.Y b.Y v45.1.Num.Negative v45.1.Num.Groups v45.1.Den.Negative v45.1.Den.Groups v49 hc50)) callOf_nil)) <| .mu 5 <| .cal (by kernel_rfl) (by kernel_rfl) (callOf_at (by kernel_rfl)) (by kernel_rfl) <| .mu 5 <| .cal (by kernel_rfl) (by kernel_rfl) (callOf_skipH 5 2 1 (by kernel_rfl) (by kernel_rfl) (by decide) (callOf_at (by kernel_rfl))) (by kernel_rfl) <| .mu 3 ?_
     refine .done ⟨by kernel_rfl, ?_⟩
     refine .n1 [8, 9] (mkS 108 0 [(8, .hp 4 0), (9, aI64 0)]) [.own (api_Pix.c a), .own (api_Pix.c b), .own (api_Pix.c c), .own (api_Pix.c d), .own [aB v47.Num.Negative, sU32 v47.Num.Groups, aB v47.Den.Negative, sU32 v47.Den.Groups, aB v49.Num.Negative, sU32 v49.Num.Groups, aB v49.Den.Negative, sU32 v49.Den.Groups], .fix (api_Rat.c v45.1)] <| .ret ?_
     obtain rfl := Option.some.inj hr
     exact FinQ.ret (vs := [.agg [aB v47.Num.Negative, sU32 v47.Num.Groups, aB v47.Den.Negative, sU32 v47.Den.Groups, aB v49.Num.Negative, sU32 v49.Num.Groups, aB v49.Den.Negative, sU32 v49.Den.Groups], aI64 0]) (by kernel_rfl) (Sn.tup (SnL.cons (Sn.pure rfl) (SnL.cons (Sn.pure rfl) SnL.nil)))

theorem predicate_Orient_ok (n : Nat) (a : api_Pix) (b : api_Pix) (c : api_Pix) (r : Int) (hr : predicate_Orient n a b c = some r) : FnOk Tryz.prog 29 [.agg [.at (.int .i64 a.X), .at (.int .i64 a.Y)], .agg [.at (.int .i64 b.X), .at (.int .i64 b.Y)], .agg [.at (.int .i64 c.X), .at (.int .i64 c.Y)]] (.at (.int .i64 r)) := by
 unfold predicate_Orient at hr
 refine FnOk.body fine Tryz.func29 (c := (Tryz.f29.body).getD .skip) rfl (s := mkS 18 0 [(0, .agg (api_Pix.c a)), (1, .agg (api_Pix.c b)), (2, .agg (api_Pix.c c))]) (by kernel_rfl) (rs := [.tmp 6]) rfl ?_
 unfold Tryz.f29
 simp only [Option.getD_some]
 refine .seq <| .rn fine [3, 4, 5] (mkS 18 0 [(3, .hp 0 0), (4, .hp 1 0), (5, .hp 2 0)]) [.own (api_Pix.c a), .own (api_Pix.c b), .own (api_Pix.c c)] <| .seq <| .seq ?_
 obtain ⟨v1, hc2, hr⟩ := bd hr
 refine .region fine (callOf_cons (callOk_val (H := [.own (api_Pix.c a), .own (api_Pix.c b), .own (api_Pix.c c), .own [aI64 a.X, aI64 a.Y, aI64 b.X, aI64 b.Y, aI64 c.X, aI64 c.Y]]) (args := [.hs 3 0 3 2]) (l := [3]) rfl (SnL.cons (Sn.hs rfl (.inl rfl) (SnC.cons (Sn.pure rfl) (SnC.cons (Sn.pure rfl) (SnC.cons (Sn.pure rfl) (SnC.cons (Sn.pure rfl) (SnC.cons (Sn.pure rfl) (SnC.cons (Sn.pure rfl) SnC.nil)))))) (fun h => nomatch h)) SnL.nil) (predicate_Check_ok n [a, b, c] v1 hc2)) callOf_nil) <| .mu 4 <| .c0 (by kernel_rfl) (callOf_at (by kernel_rfl)) <| .mu 1 <| .done <| .n1 [3, 4, 5, 12] (mkS 18 0 [(3, .hp 0 0), (4, .hp 1 0), (5, .hp 2 0), (12, aB ((v1 : Int) != 0))]) [.own (api_Pix.c a), .own (api_Pix.c b), .own (api_Pix.c c), .own [aI64 a.X, aI64 a.Y, aI64 b.X, aI64 b.Y, aI64 c.X, aI64 c.Y]] ?_
 refine .cond (t := (v1 : Int) != 0) (by kernel_rfl) (fun hb3 => ?_) (fun hb3 => ?_)
 ·replace hr := cd_t hb3 hr
  refine .seq <| .ru fine <| .ret ?_
  obtain rfl := Option.some.inj hr
  exact FinQ.r1 [aI64 0]
 ·replace hr := cd_f hb3 hr
  refine .skip <| .seq ?_
  obtain ⟨v4, hc5, hr⟩ := bd hr
  obtain ⟨v6, hc7, hr⟩ := bd hr
  refine .region fine (callOf_cons (callOk_val (H := [.own (api_Pix.c a), .own (api_Pix.c b), .own (api_Pix.c c), .own [aI64 a.X, aI64 a.Y, aI64 b.X, aI64 b.Y, aI64 c.X, aI64 c.Y]]) (l := []) rfl (SnL.cons (Sn.pure rfl) (SnL.cons (Sn.pure rfl) (SnL.cons (Sn.pure rfl) SnL.nil))) (predicate_cross_ok n a b c v4 hc5)) (callOf_cons (callOk_val (H := [.own (api_Pix.c a), .own (api_Pix.c b), .own (api_Pix.c c), .own [aI64 a.X, aI64 a.Y, aI64 b.X, aI64 b.Y, aI64 c.X, aI64 c.Y]]) (l := []) rfl (SnL.cons (Sn.pure rfl) SnL.nil) (predicate_sign_ok n v4 v6 hc7)) callOf_nil)) <| .mu 3 <| .c0 (by kernel_rfl) (callOf_at (by kernel_rfl)) <| .c0 (by kernel_rfl) (callOf_skip (fun h _ => absurd (show (57 : Nat) = 58 from h) (by decide)) (callOf_at (by kernel_rfl))) <| .mu 1 <| .done <| .ret ?_
  obtain rfl := Option.some.inj hr
  exact FinQ.r1 [aI64 v6]

theorem predicate_Circle_1_w_ok (n : Nat) (p : api_Pix) (q : api_Pix) (r' : api_Pix) (p' : Bool) (p'' : List Int) (p''' : Int) (p'''' : Int) (r : Bool × List Int) (hr : predicate_Circle_1_w n p q r' p' p'' p''' p'''' = some r) : FnMut 2 Tryz.prog 65 [.agg [.at (.int .i64 p.X), .at (.int .i64 p.Y)], .agg [.at (.int .i64 q.X), .at (.int .i64 q.Y)], .agg [.at (.int .i64 r'.X), .at (.int .i64 r'.Y)], .hp 0 0, .hp 1 0] [.own [.at (.bool p'), slT (iC .u32) p''], .own [.at (.int .i64 p'''), .at (.int .i64 p'''')]] (.tup []) [.own [.at (.bool r.1), slT (iC .u32) r.2], .own [.at (.int .i64 p'''), .at (.int .i64 p'''')]] := by
 unfold predicate_Circle_1_w at hr
 refine FnMut.body fine Tryz.func65 (c := (Tryz.f65.body).getD .skip) rfl (us := []) (s := mkS 21 0 [(0, .agg (api_Pix.c p)), (1, .agg (api_Pix.c q)), (2, .agg (api_Pix.c r')), (3, .hp 0 0), (4, .hp 1 0)]) (by kernel_rfl) (rs := []) rfl ?_
 unfold Tryz.f65
 simp only [Option.getD_some]
 refine .seq <| .rn fine [3, 4, 5, 6, 7] (mkS 21 0 [(3, .hp 0 0), (4, .hp 1 0), (5, .hp 2 0), (6, .hp 3 0), (7, .hp 4 0)]) [.own [aB p', sU32 p''], .own [aI64 p''', aI64 p''''], .own (api_Pix.c p), .own (api_Pix.c q), .own (api_Pix.c r')] ?_
 obtain ⟨v15, hc16, hr⟩ := bd hr
 obtain ⟨v17, hc18, hr⟩ := bd hr
 obtain ⟨v19, hc20, hr⟩ := bd hr
 obtain ⟨v21, hc22, hr⟩ := bd hr
 obtain ⟨v23, hc24, hr⟩ := bd hr
 obtain ⟨v25, hc26, hr⟩ := bd hr
 refine .regionT fine (callOf_cons (callOk_val (H := [.own [aB p', sU32 p''], .own [aI64 p''', aI64 p''''], .own (api_Pix.c p), .own (api_Pix.c q), .own (api_Pix.c r')]) (l := []) rfl (SnL.cons (Sn.pure rfl) (SnL.cons (Sn.pure rfl) (SnL.cons (Sn.pure rfl) SnL.nil))) (predicate_dot_ok n (api_Pix.mk p''' p'''') p p v15 hc16)) (callOf_cons (callOk_ref (H := [.own [aB p', sU32 p''], .own [aI64 p''', aI64 p''''], .own (api_Pix.c p), .own (api_Pix.c q), .own (api_Pix.c r')]) (l := []) (SnL.cons (Sn.pure rfl) SnL.nil) (integer_Of_ok n v15 v17 hc18)) (callOf_cons (callOk_val (H := [.own [aB p', sU32 p''], .own [aI64 p''', aI64 p''''], .own (api_Pix.c p), .own (api_Pix.c q), .own (api_Pix.c r')]) (l := []) rfl (SnL.cons (Sn.pure rfl) (SnL.cons (Sn.pure rfl) (SnL.cons (Sn.pure rfl) SnL.nil))) (predicate_cross_ok n (api_Pix.mk p''' p'''') q r' v19 hc20)) (callOf_cons (callOk_ref (H := [.own [aB p', sU32 p''], .own [aI64 p''', aI64 p''''], .own (api_Pix.c p), .own (api_Pix.c q), .own (api_Pix.c r')]) (l := []) (SnL.cons (Sn.pure rfl) SnL.nil) (integer_Of_ok n v19 v21 hc22)) (callOf_cons (callOk_ref (H := [.own [aB p', sU32 p''], .own [aI64 p''', aI64 p''''], .own (api_Pix.c p), .own (api_Pix.c q), .own (api_Pix.c r')]) (l := []) (SnL.cons (Sn.pure rfl) (SnL.cons (Sn.pure rfl) SnL.nil)) (integer_Mul_ok n v17 v21 v23 hc24)) (callOf_cons (callOk_ref (H := [.own [aB p', sU32 p''], .own [aI64 p''', aI64 p''''], .own (api_Pix.c p), .own (api_Pix.c q), .own (api_Pix.c r')]) (l := []) (SnL.cons (Sn.pure rfl) (SnL.cons (Sn.pure rfl) SnL.nil)) (integer_Add_ok n (api_Int.mk p' p'') v23 v25 hc26)) callOf_nil)))))) <| .mu 4 <| .cal (by kernel_rfl) (by kernel_rfl) (callOf_at (by kernel_rfl)) (by kernel_rfl) <| .cal (by kernel_rfl) (by kernel_rfl) (callOf_skip (fun h _ => absurd (show (64 : Nat) = 68 from h) (by decide)) (callOf_at (by kernel_rfl))) (by kernel_rfl) <| .mu 3 <| .cal (by kernel_rfl) (by kernel_rfl) (callOf_skip (fun h _ => absurd (show (58 : Nat) = 68 from h) (by decide)) (callOf_skip (fun h _ => absurd (show (58 : Nat) = 64 from h) (by decide)) (callOf_at (by kernel_rfl)))) (by kernel_rfl) <| .cal (by kernel_rfl) (by kernel_rfl) (callOf_skip (fun h _ => absurd (show (64 : Nat) = 68 from h) (by decide)) (callOf_skip (fun _ h => by obtain e0 := integer_Of_inj h; rw [show v21 = v17 from Option.some.inj (hc22.symm.trans ((show integer_Of n v19 = integer_Of n v15 from (congr rfl e0)).trans hc18))]) (callOf_skip (fun h _ => absurd (show (64 : Nat) = 58 from h) (by decide)) (callOf_at (by kernel_rfl))))) (by kernel_rfl) <| .cal (by kernel_rfl) (by kernel_rfl) (callOf_skip (fun h _ => absurd (show (67 : Nat) = 68 from h) (by decide)) (callOf_skip (fun h _ => absurd (show (67 : Nat) = 64 from h) (by decide)) (callOf_skip (fun h _ => absurd (show (67 : Nat) = 58 from h) (by decide)) (callOf_skip (fun h _ => absurd (show (67 : Nat) = 64 from h) (by decide)) (callOf_at (by kernel_rfl)))))) (by kernel_rfl) <| .cal (by kernel_rfl) (by kernel_rfl) (callOf_skip (fun h _ => absurd (show (66 : Nat) = 68 from h) (by decide)) (callOf_skip (fun h _ => absurd (show (66 : Nat) = 64 from h) (by decide)) (callOf_skip (fun h _ => absurd (show (66 : Nat) = 58 from h) (by decide)) (callOf_skip (fun h _ => absurd (show (66 : Nat) = 64 from h) (by decide)) (callOf_skip (fun h _ => absurd (show (66 : Nat) = 67 from h) (by decide)) (callOf_at (by kernel_rfl))))))) (by kernel_rfl) <| .mu 1 ?_
 refine .done ⟨by kernel_rfl, ?_⟩
 obtain rfl := Option.some.inj hr
 exact FinM.normal [] ((Wk.gc [] [(0, true), (1, true)] rfl trivial).to (by kernel_rfl))

theorem predicate_Circle_inj {a : api_Pix} {b : api_Pix} {c : api_Pix} {d : api_Pix} {a_ : api_Pix} {b_ : api_Pix} {c_ : api_Pix} {d_ : api_Pix} (h : ([.agg [.at (.int .i64 a.X), .at (.int .i64 a.Y)], .agg [.at (.int .i64 b.X), .at (.int .i64 b.Y)], .agg [.at (.int .i64 c.X), .at (.int .i64 c.Y)], .agg [.at (.int .i64 d.X), .at (.int .i64 d.Y)]] : List AV) = [.agg [.at (.int .i64 a_.X), .at (.int .i64 a_.Y)], .agg [.at (.int .i64 b_.X), .at (.int .i64 b_.Y)], .agg [.at (.int .i64 c_.X), .at (.int .i64 c_.Y)], .agg [.at (.int .i64 d_.X), .at (.int .i64 d_.Y)]]) : a = a_ ∧ b = b_ ∧ c = c_ ∧ d = d_ := by
 obtain ⟨_, _⟩ := a
 obtain ⟨_, _⟩ := a_
 obtain ⟨_, _⟩ := b
 obtain ⟨_, _⟩ := b_
 obtain ⟨_, _⟩ := c
 obtain ⟨_, _⟩ := c_
 obtain ⟨_, _⟩ := d
 obtain ⟨_, _⟩ := d_
 simp only [List.cons.injEq, AV.agg.injEq, AV.at.injEq, Value.int.injEq, Value.bool.injEq, AV.fn.injEq, AV.pp.injEq, true_and, and_true] at h
 simp_all
theorem predicate_Circle_ok (n : Nat) (a : api_Pix) (b : api_Pix) (c : api_Pix) (d : api_Pix) (r : Int) (hr : predicate_Circle n a b c d = some r) : FnOk Tryz.prog 33 [.agg [.at (.int .i64 a.X), .at (.int .i64 a.Y)], .agg [.at (.int .i64 b.X), .at (.int .i64 b.Y)], .agg [.at (.int .i64 c.X), .at (.int .i64 c.Y)], .agg [.at (.int .i64 d.X), .at (.int .i64 d.Y)]] (.at (.int .i64 r)) := by
 unfold predicate_Circle at hr
 refine FnOk.body fine Tryz.func33 (c := (Tryz.f33.body).getD .skip) rfl (s := mkS 45 0 [(0, .agg (api_Pix.c a)), (1, .agg (api_Pix.c b)), (2, .agg (api_Pix.c c)), (3, .agg (api_Pix.c d))]) (by kernel_rfl) (rs := [.tmp 8]) rfl ?_
 unfold Tryz.f33
 simp only [Option.getD_some]
 refine .seq <| .rn fine [4, 5, 6, 7] (mkS 45 0 [(4, .hp 0 0), (5, .hp 1 0), (6, .hp 2 0), (7, .hp 3 0)]) [.own (api_Pix.c a), .own (api_Pix.c b), .own (api_Pix.c c), .own (api_Pix.c d)] <| .seq ?_
 obtain ⟨v1, hc2, hr⟩ := bd hr
 refine .g1 fine (callOk_val (l := []) rfl (SnL.cons (Sn.pure rfl) (SnL.cons (Sn.pure rfl) (SnL.cons (Sn.pure rfl) SnL.nil))) (predicate_Orient_ok n a b c v1 hc2)) <| .mu 3 <| .c0 (by kernel_rfl) (callOf_at (by kernel_rfl)) <| .mu 1 <| .done <| .n1 [4, 5, 6, 7, 9] (mkS 45 0 [(4, .hp 0 0), (5, .hp 1 0), (6, .hp 2 0), (7, .hp 3 0), (9, aI64 v1)]) [.own (api_Pix.c a), .own (api_Pix.c b), .own (api_Pix.c c), .own (api_Pix.c d)] <| .seq <| .seq ?_
 rcases Bool.eq_false_or_eq_true ((v1 : Int) == 0) with hb3 | hb3
 ·replace hr := cd_t hb3 hr
  refine .r0 fine <| .mu 1 <| .p0 (v := aB true) (Eq.trans (b := some (.pure (aB ((v1 : Int) == 0)))) (by kernel_rfl) (by rw [hb3])) <| .mu 6 <| .done <| .n1 [4, 5, 6, 7, 9, 23] (mkS 45 0 [(4, .hp 0 0), (5, .hp 1 0), (6, .hp 2 0), (7, .hp 3 0), (9, aI64 v1), (23, aB true)]) [.own (api_Pix.c a), .own (api_Pix.c b), .own (api_Pix.c c), .own (api_Pix.c d)] <| .cT (by kernel_rfl) <| .seq <| .ru fine <| .ret ?_
  obtain rfl := Option.some.inj hr
  exact FinQ.r1 [aI64 0]
 ·replace hr := cd_f hb3 hr
  obtain ⟨v4, hc5, hr⟩ := bd hr
  refine .region fine (callOf_cons (callOk_val (H := [.own (api_Pix.c a), .own (api_Pix.c b), .own (api_Pix.c c), .own (api_Pix.c d), .own (api_Pix.c d)]) (args := [.hs 4 0 1 2]) (l := [4]) rfl (SnL.cons (Sn.hs rfl (.inl rfl) (SnC.cons (Sn.pure rfl) (SnC.cons (Sn.pure rfl) SnC.nil)) (fun h => nomatch h)) SnL.nil) (predicate_Check_ok n [d] v4 hc5)) callOf_nil) <| .mu 1 <| .p0 (v := aB false) (Eq.trans (b := some (.pure (aB ((v1 : Int) == 0)))) (by kernel_rfl) (by rw [hb3])) <| .mu 3 <| .cal (by kernel_rfl) (by kernel_rfl) (callOf_at (by kernel_rfl)) <| .mu 2 <| .done <| .n1 [4, 5, 6, 7, 9, 23] (mkS 45 0 [(4, .hp 0 0), (5, .hp 1 0), (6, .hp 2 0), (7, .hp 3 0), (9, aI64 v1), (23, aB ((v4 : Int) != 0))]) [.own (api_Pix.c a), .own (api_Pix.c b), .own (api_Pix.c c), .own (api_Pix.c d), .own (api_Pix.c d)] ?_
  refine .cond (t := (v4 : Int) != 0) (by kernel_rfl) (fun hb6 => ?_) (fun hb6 => ?_)
  ·replace hr := cd_t hb6 hr
   refine .seq <| .ru fine <| .ret ?_
   obtain rfl := Option.some.inj hr
   exact FinQ.r1 [aI64 0]
  ·replace hr := cd_f hb6 hr
   refine .skip <| .seq ?_
   obtain ⟨v7, hc8, hr⟩ := bd hr
   refine .g1 fine (callOk_ref (l := []) (SnL.cons (Sn.pure rfl) SnL.nil) (integer_Of_ok n 0 v7 hc8)) <| .c0 (by kernel_rfl) (callOf_at (by kernel_rfl)) <| .mu 2 <| .done <| .n1 [4, 5, 6, 7, 9, 10] (mkS 45 0 [(4, .hp 0 0), (5, .hp 1 0), (6, .hp 2 0), (7, .hp 3 0), (9, aI64 v1), (10, .hp 5 0)]) [.own (api_Pix.c a), .own (api_Pix.c b), .own (api_Pix.c c), .own (api_Pix.c d), .own (api_Pix.c d), .own (api_Int.c v7)] <| .seq <| .rn fine [4, 5, 6, 9, 10, 11] (mkS 45 0 [(4, .hp 0 0), (5, .hp 1 0), (6, .hp 2 0), (9, aI64 v1), (10, .hp 5 0), (11, .fn 65 [] [.hp 5 0, .hp 3 0])]) [.own (api_Pix.c a), .own (api_Pix.c b), .own (api_Pix.c c), .own (api_Pix.c d), .own (api_Pix.c d), .own (api_Int.c v7)] <| .seq ?_
   obtain ⟨v9, hc10, hr⟩ := bd hr
   refine .g1 fine (callOk_mutU (args := [.agg (api_Pix.c a), .agg (api_Pix.c b), .agg (api_Pix.c c), .hp 5 0, .hp 3 0]) 2 0 [(5, true), (3, true)] [true, true] (predicate_Circle_1_w_ok n a b c v7.Negative v7.Groups d.X d.Y v9 hc10) trivial trivial rfl rfl (by kernel_rfl) (by kernel_rfl)) <| .mu 4 <| .c0 (by kernel_rfl) (callOf_at (by kernel_rfl)) <| .done <| .n1 [4, 5, 6, 9, 10, 11] (mkS 45 0 [(4, .hp 0 0), (5, .hp 1 0), (6, .hp 2 0), (9, aI64 v1), (10, .hp 5 0), (11, .fn 65 [] [.hp 5 0, .hp 3 0])]) [.own (api_Pix.c a), .own (api_Pix.c b), .own (api_Pix.c c), .own (api_Pix.c d), .own (api_Pix.c d), .own [aB v9.1, sU32 v9.2]] <| .seq ?_
   obtain ⟨v11, hc12, hr⟩ := bd hr
   refine .g1 fine (callOk_mutU (args := [.agg (api_Pix.c b), .agg (api_Pix.c c), .agg (api_Pix.c a), .hp 5 0, .hp 3 0]) 2 0 [(5, true), (3, true)] [true, true] (predicate_Circle_1_w_ok n b c a v9.1 v9.2 d.X d.Y v11 hc12) trivial trivial rfl rfl (by kernel_rfl) (by kernel_rfl)) <| .mu 4 <| .c0 (by kernel_rfl) (callOf_at (by kernel_rfl)) <| .done <| .n1 [4, 5, 6, 9, 10, 11] (mkS 45 0 [(4, .hp 0 0), (5, .hp 1 0), (6, .hp 2 0), (9, aI64 v1), (10, .hp 5 0), (11, .fn 65 [] [.hp 5 0, .hp 3 0])]) [.own (api_Pix.c a), .own (api_Pix.c b), .own (api_Pix.c c), .own (api_Pix.c d), .own (api_Pix.c d), .own [aB v11.1, sU32 v11.2]] <| .seq ?_
   obtain ⟨v13, hc14, hr⟩ := bd hr
   refine .g1 fine (callOk_mutU (args := [.agg (api_Pix.c c), .agg (api_Pix.c a), .agg (api_Pix.c b), .hp 5 0, .hp 3 0]) 2 0 [(5, true), (3, true)] [true, true] (predicate_Circle_1_w_ok n c a b v11.1 v11.2 d.X d.Y v13 hc14) trivial trivial rfl rfl (by kernel_rfl) (by kernel_rfl)) <| .mu 4 <| .c0 (by kernel_rfl) (callOf_at (by kernel_rfl)) <| .done <| .n1 [9, 10] (mkS 45 0 [(9, aI64 v1), (10, .hp 5 0)]) [.own (api_Pix.c a), .own (api_Pix.c b), .own (api_Pix.c c), .own (api_Pix.c d), .own (api_Pix.c d), .own [aB v13.1, sU32 v13.2]] <| .seq ?_
   obtain ⟨v15, hc16, hr⟩ := bd hr
   refine .g1 fine (callOk_val (l := []) rfl (SnL.cons (Sn.pure rfl) SnL.nil) (integer_Sign_ok n (api_Int.mk v13.1 v13.2) v15 hc16)) <| .mu 2 <| .c0 (by kernel_rfl) (callOf_at (by kernel_rfl)) <| .mu 2 <| .done <| .ret ?_
   obtain rfl := Option.some.inj hr
   exact FinQ.r1 [aI64 (wrapF .i64 (v1 * v15))]

theorem fiducialref01_made_ok (n : Nat) (negative : Bool) (l : List Int) (r : api_Int) (hr : fiducialref01_made n negative l = some r) : FnOk Tryz.prog 109 [.at (.bool negative), slT (iC .u32) l] (.agg [.at (.bool r.Negative), slT (iC .u32) r.Groups]) := by
 unfold fiducialref01_made at hr
 refine FnOk.body fine Tryz.func109 (c := (Tryz.f109.body).getD .skip) rfl (s := mkS 31 0 [(0, aB negative), (1, sU32 l)]) (by kernel_rfl) (rs := [.cell 4 35]) rfl ?_
 unfold Tryz.f109
 simp only [Option.getD_some]
 refine .seq <| .rn fine [0, 1, 4] (mkS 31 0 [(0, aB negative), (1, sU32 l), (4, .hp 0 0)]) [.own [aB false, .at (.slice none 0 0)]] <| .seq <| .rn fine [0, 1, 4, 5] (mkS 31 0 [(0, aB negative), (1, sU32 l), (4, .hp 0 0), (5, aI64 (l.length : Int))]) [.own [aB false, .at (.slice none 0 0)]] <| .seq <| .block ?_
 replace hr := bd hr; obtain ⟨n_5, hL11, hr⟩ := hr
 refine .loopO (σ := fun z0 => match z0 with | n_1 => ⟨mkS 31 0 [(0, aB negative), (1, sU32 l), (4, .hp 0 0), (5, aI64 n_1)], [.own [aB false, .at (.slice none 0 0)]]⟩) (Q := fun x st' => x = .exit 0 ∧ Wk 0 st' ⟨mkS 31 0 [(0, aB negative), (1, sU32 l), (4, .hp 0 0), (5, aI64 n_5)], [.own [aB false, .at (.slice none 0 0)]]⟩) hL11 ((Wk.gc [0, 1, 4, 5] [(0, true)] rfl trivial).to (by kernel_rfl)) ?_ ?_
 ·clear hr
  rintro m n_1 hr
  show CQ _ _ _ _ _ ⟨_, _⟩
  refine .seq <| .seq ?_
  rcases Bool.eq_false_or_eq_true (decide (n_1 > 0)) with hb7 | hb7
  ·replace hr := cd_t hb7 hr
   obtain ⟨hg8, hr⟩ := gd hr
   refine .r0 fine <| .mu 1 <| .p0 (v := aB true) (Eq.trans (b := some (.pure (aB (decide (n_1 > 0))))) (by kernel_rfl) (by rw [hb7])) <| .mu 4 <| .pure (v := .pp (l.flatMap (iC .u32)) ((wrapF .i64 (n_1 - 1)).toNat * 1)) (by kernel_rfl) (Eq.trans (b := ORes.ofP (guardV (inR (wrapF .i64 (n_1 - 1)) l.length) (.pp (l.flatMap (iC .u32)) ((wrapF .i64 (n_1 - 1)).toNat * 1)))) (by kernel_rfl) (ofP_guard hg8)) <| .pure (v := aU32 (gt l (wrapF .i64 (n_1 - 1)))) (by kernel_rfl) (Eq.trans (b := ORes.ofP ((l.flatMap (iC .u32))[(wrapF .i64 (n_1 - 1)).toNat * 1]?)) (by kernel_rfl) (ofP_some (flat_get (iC_len _) (inR_lt hg8) (by decide : 0 < 1) (by omega : (wrapF .i64 (n_1 - 1)).toNat * 1 = (wrapF .i64 (n_1 - 1)).toNat * 1 + 0) (by kernel_rfl)))) <| .mu 2 <| .done <| .n1 [0, 1, 4, 5, 17] (mkS 31 0 [(0, aB negative), (1, sU32 l), (4, .hp 0 0), (5, aI64 n_1), (17, aB (((gt l (wrapF .i64 (n_1 - 1))) : Int) == 0))]) [.own [aB false, .at (.slice none 0 0)]] ?_
   refine .cond (t := ((gt l (wrapF .i64 (n_1 - 1))) : Int) == 0) (by kernel_rfl) (fun hb9 => ?_) (fun hb9 => ?_)
   ·replace hr := cd_t hb9 hr
    refine .skip <| .block <| .ru fine <| .pop ?_
    exact loopF_back (wrapF .i64 (n_1 - 1)) hr ((Wk.gc [0, 1, 4, 5] [(0, true)] rfl trivial).to (by kernel_rfl))
   ·replace hr := cd_f hb9 hr
    refine .leave rfl ?_
    obtain rfl := Option.some.inj hr
    exact ⟨rfl, ((Wk.gc [0, 1, 4, 5] [(0, true)] rfl trivial).to (by kernel_rfl))⟩
  ·replace hr := cd_f hb7 hr
   refine .r0 fine <| .mu 1 <| .p0 (v := aB false) (Eq.trans (b := some (.pure (aB (decide (n_1 > 0))))) (by kernel_rfl) (by rw [hb7])) <| .mu 8 <| .done <| .n1 [0, 1, 4, 5, 17] (mkS 31 0 [(0, aB negative), (1, sU32 l), (4, .hp 0 0), (5, aI64 n_1), (17, aB false)]) [.own [aB false, .at (.slice none 0 0)]] <| .cF (by kernel_rfl) <| .leave rfl ?_
   obtain rfl := Option.some.inj hr
   exact ⟨rfl, ((Wk.gc [0, 1, 4, 5] [(0, true)] rfl trivial).to (by kernel_rfl))⟩
 ·rintro x st' hq12
  clear hL11
  obtain ⟨rfl, hq12⟩ := hq12
  refine CQ_exit _ rfl <| .wk hq12 <| .seq ?_
  rcases Bool.eq_false_or_eq_true negative with hb13 | hb13
  ·replace hr := cd_t hb13 hr
   obtain ⟨hg14, hr⟩ := gd hr
   obtain ⟨hg15, hr⟩ := gd hr
   obtain ⟨hg16, hr⟩ := gd hr
   refine .r0 fine <| .p0 (v := aB true) (Eq.trans (b := some (.pure (aB negative))) (by kernel_rfl) (by rw [hb13])) <| .mu 7 <| .p0 (v := sU32 ((l.drop (0 : Int).toNat).take (n_5.toNat - (0 : Int).toNat))) (Eq.trans (b := slO (inS 0 n_5 l.length) (0 : Int).toNat n_5.toNat (fun z1 z2 => .sl true (((l.flatMap (iC .u32)).drop (z1 * 1)).take ((z2 - z1) * 1)) (z2 - z1))) (by kernel_rfl) (slO_t hg14 (sub_sl (iC_len _) (inS_le hg14)))) <| .e0 (v := .hs 2 0 ((l.drop (0 : Int).toNat).take (n_5.toNat - (0 : Int).toNat)).length 1) (ws := [(1, .dead), (2, .own (((l.drop (0 : Int).toNat).take (n_5.toNat - (0 : Int).toNat)).flatMap (iC .u32)))]) (Eq.trans (b := appS (decide (((((l.drop (0 : Int).toNat).take (n_5.toNat - (0 : Int).toNat)).flatMap (iC .u32))).length = ((l.drop (0 : Int).toNat).take (n_5.toNat - (0 : Int).toNat)).length * 1)) (((l.drop (0 : Int).toNat).take (n_5.toNat - (0 : Int).toNat)).flatMap (iC .u32)) ((l.drop (0 : Int).toNat).take (n_5.toNat - (0 : Int).toNat)).length (fun z1 z2 => guardO (decide (0 + 0 * 1 ≤ (([] : List Int).flatMap (iC .u32)).length) && decide ((0 + z2) * 4 ≤ 140737488355328) && decide (0 + z2 ≤ 4611686018427387904)) (some (.eff (.hs 2 0 (0 + z2) 1) [(1, .dead), (2, .own (((([] : List Int).flatMap (iC .u32)).drop 0).take (0 * 1) ++ z1))])))) (by kernel_rfl) (appS_t (flat_lenB (iC_len _)) rfl (app_own (l := ([] : List Int)) (xs := (l.drop (0 : Int).toNat).take (n_5.toNat - (0 : Int).toNat)) (iC_len _) rfl rfl rfl hg15 hg16))) <| .mu 2 <| .done <| .n1 [4] (mkS 31 0 [(4, .hp 0 0)]) [.own [aB (decide (n_5 > 0)), .hs 2 0 ((l.drop (0 : Int).toNat).take (n_5.toNat - (0 : Int).toNat)).length 1], .dead, .own (((l.drop (0 : Int).toNat).take (n_5.toNat - (0 : Int).toNat)).flatMap (iC .u32))] <| .ret ?_
   obtain rfl := Option.some.inj hr
   exact FinQ.ret (vs := [.agg [aB (decide (n_5 > 0)), .hs 2 0 ((l.drop (0 : Int).toNat).take (n_5.toNat - (0 : Int).toNat)).length 1]]) (by kernel_rfl) (Sn.agg (SnL.cons (Sn.pure rfl) (SnL.cons (Sn.hs rfl (.inl rfl) (SnC.pure (ids_flat (iC_pure _) _)) (fun h => flat_nil0 h)) SnL.nil)))
  ·replace hr := cd_f hb13 hr
   obtain ⟨hg17, hr⟩ := gd hr
   obtain ⟨hg18, hr⟩ := gd hr
   obtain ⟨hg19, hr⟩ := gd hr
   refine .r0 fine <| .p0 (v := aB false) (Eq.trans (b := some (.pure (aB negative))) (by kernel_rfl) (by rw [hb13])) <| .mu 7 <| .p0 (v := sU32 ((l.drop (0 : Int).toNat).take (n_5.toNat - (0 : Int).toNat))) (Eq.trans (b := slO (inS 0 n_5 l.length) (0 : Int).toNat n_5.toNat (fun z1 z2 => .sl true (((l.flatMap (iC .u32)).drop (z1 * 1)).take ((z2 - z1) * 1)) (z2 - z1))) (by kernel_rfl) (slO_t hg17 (sub_sl (iC_len _) (inS_le hg17)))) <| .e0 (v := .hs 2 0 ((l.drop (0 : Int).toNat).take (n_5.toNat - (0 : Int).toNat)).length 1) (ws := [(1, .dead), (2, .own (((l.drop (0 : Int).toNat).take (n_5.toNat - (0 : Int).toNat)).flatMap (iC .u32)))]) (Eq.trans (b := appS (decide (((((l.drop (0 : Int).toNat).take (n_5.toNat - (0 : Int).toNat)).flatMap (iC .u32))).length = ((l.drop (0 : Int).toNat).take (n_5.toNat - (0 : Int).toNat)).length * 1)) (((l.drop (0 : Int).toNat).take (n_5.toNat - (0 : Int).toNat)).flatMap (iC .u32)) ((l.drop (0 : Int).toNat).take (n_5.toNat - (0 : Int).toNat)).length (fun z1 z2 => guardO (decide (0 + 0 * 1 ≤ (([] : List Int).flatMap (iC .u32)).length) && decide ((0 + z2) * 4 ≤ 140737488355328) && decide (0 + z2 ≤ 4611686018427387904)) (some (.eff (.hs 2 0 (0 + z2) 1) [(1, .dead), (2, .own (((([] : List Int).flatMap (iC .u32)).drop 0).take (0 * 1) ++ z1))])))) (by kernel_rfl) (appS_t (flat_lenB (iC_len _)) rfl (app_own (l := ([] : List Int)) (xs := (l.drop (0 : Int).toNat).take (n_5.toNat - (0 : Int).toNat)) (iC_len _) rfl rfl rfl hg18 hg19))) <| .mu 2 <| .done <| .n1 [4] (mkS 31 0 [(4, .hp 0 0)]) [.own [aB false, .hs 2 0 ((l.drop (0 : Int).toNat).take (n_5.toNat - (0 : Int).toNat)).length 1], .dead, .own (((l.drop (0 : Int).toNat).take (n_5.toNat - (0 : Int).toNat)).flatMap (iC .u32))] <| .ret ?_
   obtain rfl := Option.some.inj hr
   exact FinQ.ret (vs := [.agg [aB false, .hs 2 0 ((l.drop (0 : Int).toNat).take (n_5.toNat - (0 : Int).toNat)).length 1]]) (by kernel_rfl) (Sn.agg (SnL.cons (Sn.pure rfl) (SnL.cons (Sn.hs rfl (.inl rfl) (SnC.pure (ids_flat (iC_pure _) _)) (fun h => flat_nil0 h)) SnL.nil)))

theorem fiducialref01_Of_inj {n' : Int} {n'_ : Int} (h : ([.at (.int .i64 n')] : List AV) = [.at (.int .i64 n'_)]) : n' = n'_ := by
 simp only [List.cons.injEq, AV.agg.injEq, AV.at.injEq, Value.int.injEq, Value.bool.injEq, AV.fn.injEq, AV.pp.injEq, true_and, and_true] at h
 simp_all
theorem fiducialref01_Of_ok (n : Nat) (n' : Int) (r : api_Int) (hr : fiducialref01_Of n n' = some r) : FnOk Tryz.prog 98 [.at (.int .i64 n')] (.agg [.at (.bool r.Negative), slT (iC .u32) r.Groups]) := by
 unfold fiducialref01_Of at hr
 refine FnOk.body fine Tryz.func98 (c := (Tryz.f98.body).getD .skip) rfl (s := mkS 29 0 [(0, aI64 n')]) (by kernel_rfl) (rs := [.cell 2 35]) rfl ?_
 unfold Tryz.f98
 simp only [Option.getD_some]
 refine .seq <| .rn fine [0, 2] (mkS 29 0 [(0, aI64 n'), (2, .hp 0 0)]) [.own [aB false, .at (.slice none 0 0)]] <| .seq <| .rn fine [0, 2, 3] (mkS 29 0 [(0, aI64 n'), (2, .hp 0 0), (3, aU64 (wrapF .u64 n'))]) [.own [aB false, .at (.slice none 0 0)]] <| .seq <| .seq <| .rn fine [0, 2, 3, 8] (mkS 29 0 [(0, aI64 n'), (2, .hp 0 0), (3, aU64 (wrapF .u64 n')), (8, aB (decide (n' < 0)))]) [.own [aB false, .at (.slice none 0 0)]] ?_
 refine .cond (t := decide (n' < 0)) (by kernel_rfl) (fun hb1 => ?_) (fun hb1 => ?_)
 ·replace hr := cd_t hb1 hr
  refine .r0 fine <| .mu 2 <| .p0 (v := aI64 (wrapF .i64 (0 - (wrapF .i64 (n' + 1))))) (Eq.trans (b := some (.pure (aI64 (IntKind.wrap .i64 (0 - (wrapF .i64 (n' + 1))))))) (by kernel_rfl) wrap_at) <| .mu 3 <| .done <| .n1 [0, 2, 3] (mkS 29 0 [(0, aI64 n'), (2, .hp 0 0), (3, aU64 (wrapF .u64 ((wrapF .u64 (wrapF .i64 (0 - (wrapF .i64 (n' + 1))))) + 1)))]) [.own [aB false, .at (.slice none 0 0)]] <| .seq <| .rn fine [0, 2, 3, 4] (mkS 29 0 [(0, aI64 n'), (2, .hp 0 0), (3, aU64 (wrapF .u64 ((wrapF .u64 (wrapF .i64 (0 - (wrapF .i64 (n' + 1))))) + 1))), (4, .hs 1 0 0 1)]) [.own [aB false, .at (.slice none 0 0)], .own []] <| .seq <| .block ?_
  replace hr := bd hr; obtain ⟨l_7, hL13, hr⟩ := hr
  refine .loopO (σ := fun z0 => match z0 with | (u_2, l_3) => ⟨mkS 29 0 [(0, aI64 n'), (2, .hp 0 0), (3, aU64 u_2), (4, .hs 1 0 l_3.length 1)], [.own [aB false, .at (.slice none 0 0)], .own (l_3.flatMap (iC .u32))]⟩) (Q := fun x st' => x = .exit 0 ∧ Wk 0 st' ⟨mkS 29 0 [(0, aI64 n'), (2, .hp 0 0), (4, .hs 1 0 l_7.length 1)], [.own [aB false, .at (.slice none 0 0)], .own (l_7.flatMap (iC .u32))]⟩) hL13 ((Wk.gc [0, 2, 3, 4] [(0, true), (1, false)] rfl (pKt (pKc trivial))).to (by kernel_rfl)) ?_ ?_
  ·clear hr
   rintro m ⟨u_2, l_3⟩ hr
   show CQ _ _ _ _ _ ⟨_, _⟩
   refine .seq <| .seq <| .rn fine [0, 2, 3, 4, 16] (mkS 29 0 [(0, aI64 n'), (2, .hp 0 0), (3, aU64 u_2), (4, .hs 1 0 l_3.length 1), (16, aB (decide (u_2 > 0)))]) [.own [aB false, .at (.slice none 0 0)], .own (l_3.flatMap (iC .u32))] ?_
   refine .cond (t := decide (u_2 > 0)) (by kernel_rfl) (fun hb9 => ?_) (fun hb9 => ?_)
   ·replace hr := cd_t hb9 hr
    refine .skip <| .block <| .seq ?_
    obtain ⟨hg10, hr⟩ := gd hr
    obtain ⟨hg11, hr⟩ := gd hr
    refine .r0 fine <| .mu 5 <| .e0 (v := .hs 3 0 (l_3 ++ [wrapF .u32 (u_2.tmod 1000000000)]).length 1) (ws := [(1, .dead), (3, .own ((l_3 ++ [wrapF .u32 (u_2.tmod 1000000000)]).flatMap (iC .u32)))]) (Eq.trans (b := guardO (decide (0 + l_3.length * 1 ≤ (l_3.flatMap (iC .u32)).length) && decide ((l_3.length + 1) * 4 ≤ 140737488355328) && decide (l_3.length + 1 ≤ 4611686018427387904)) (some (.eff (.hs 3 0 (l_3.length + 1) 1) [(1, .dead), (3, .own (((l_3.flatMap (iC .u32)).drop 0).take (l_3.length * 1) ++ [aU32 (wrapF .u32 (u_2.tmod 1000000000))]))]))) (by kernel_rfl) (app_own (l := l_3) (xs := [wrapF .u32 (u_2.tmod 1000000000)]) (iC_len _) rfl rfl (by kernel_rfl) hg10 hg11)) <| .mu 1 <| .done <| .n1 [0, 2, 3, 4] (mkS 29 0 [(0, aI64 n'), (2, .hp 0 0), (3, aU64 u_2), (4, .hs 3 0 (l_3 ++ [wrapF .u32 (u_2.tmod 1000000000)]).length 1)]) [.own [aB false, .at (.slice none 0 0)], .dead, .own [aU32 (wrapF .u32 (u_2.tmod 1000000000))], .own ((l_3 ++ [wrapF .u32 (u_2.tmod 1000000000)]).flatMap (iC .u32))] <| .ru fine <| .pop ?_
    exact loopF_back (wrapF .u64 (u_2.tdiv 1000000000), l_3 ++ [wrapF .u32 (u_2.tmod 1000000000)]) hr ((Wk.gc [0, 2, 3, 4] [(0, true), (3, false)] rfl (pKt (pKo (iC .u32) (iC_pure _) (l_3 ++ [wrapF .u32 (u_2.tmod 1000000000)]) trivial))).to (by kernel_rfl))
   ·replace hr := cd_f hb9 hr
    refine .leave rfl ?_
    obtain rfl := Option.some.inj hr
    exact ⟨rfl, ((Wk.gc [0, 2, 4] [(0, true), (1, false)] rfl (pKt (pKo (iC .u32) (iC_pure _) l_3 trivial))).to (by kernel_rfl))⟩
  ·rintro x st' hq14
   clear hL13
   obtain ⟨rfl, hq14⟩ := hq14
   refine CQ_exit _ rfl <| .wk hq14 <| .seq ?_
   obtain ⟨v15, hc16, hr⟩ := bd hr
   refine .g1 fine (callOk_ref (args := [aB true, .hs 1 0 l_7.length 1]) (l := [1]) (SnL.cons (Sn.pure rfl) (SnL.cons (Sn.hs rfl (.inl rfl) (SnC.pure (ids_flat (iC_pure _) _)) (fun h => flat_nil0 h)) SnL.nil)) (fiducialref01_made_ok n true l_7 v15 hc16)) <| .mu 1 <| .p0 (v := aB true) (Eq.trans (b := some (.pure (aB (decide (n' < 0))))) (by kernel_rfl) (by rw [hb1])) <| .mu 1 <| .c0 (by kernel_rfl) (callOf_at (by kernel_rfl)) <| .mu 1 <| .done <| .n1 [2] (mkS 29 0 [(2, .hp 0 0)]) [.own (api_Int.c v15), .fix (l_7.flatMap (iC .u32))] <| .ret ?_
   obtain rfl := Option.some.inj hr
   exact FinQ.r1 [.agg (api_Int.c v15)]
 ·replace hr := cd_f hb1 hr
  refine .skip <| .seq <| .rn fine [0, 2, 3, 4] (mkS 29 0 [(0, aI64 n'), (2, .hp 0 0), (3, aU64 (wrapF .u64 n')), (4, .hs 1 0 0 1)]) [.own [aB false, .at (.slice none 0 0)], .own []] <| .seq <| .block ?_
  replace hr := bd hr; obtain ⟨l_22, hL28, hr⟩ := hr
  refine .loopO (σ := fun z0 => match z0 with | (u_17, l_18) => ⟨mkS 29 0 [(0, aI64 n'), (2, .hp 0 0), (3, aU64 u_17), (4, .hs 1 0 l_18.length 1)], [.own [aB false, .at (.slice none 0 0)], .own (l_18.flatMap (iC .u32))]⟩) (Q := fun x st' => x = .exit 0 ∧ Wk 0 st' ⟨mkS 29 0 [(0, aI64 n'), (2, .hp 0 0), (4, .hs 1 0 l_22.length 1)], [.own [aB false, .at (.slice none 0 0)], .own (l_22.flatMap (iC .u32))]⟩) hL28 ((Wk.gc [0, 2, 3, 4] [(0, true), (1, false)] rfl (pKt (pKc trivial))).to (by kernel_rfl)) ?_ ?_
  ·clear hr
   rintro m ⟨u_17, l_18⟩ hr
   show CQ _ _ _ _ _ ⟨_, _⟩
   refine .seq <| .seq <| .rn fine [0, 2, 3, 4, 16] (mkS 29 0 [(0, aI64 n'), (2, .hp 0 0), (3, aU64 u_17), (4, .hs 1 0 l_18.length 1), (16, aB (decide (u_17 > 0)))]) [.own [aB false, .at (.slice none 0 0)], .own (l_18.flatMap (iC .u32))] ?_
   refine .cond (t := decide (u_17 > 0)) (by kernel_rfl) (fun hb24 => ?_) (fun hb24 => ?_)
   ·replace hr := cd_t hb24 hr
    refine .skip <| .block <| .seq ?_
    obtain ⟨hg25, hr⟩ := gd hr
    obtain ⟨hg26, hr⟩ := gd hr
    refine .r0 fine <| .mu 5 <| .e0 (v := .hs 3 0 (l_18 ++ [wrapF .u32 (u_17.tmod 1000000000)]).length 1) (ws := [(1, .dead), (3, .own ((l_18 ++ [wrapF .u32 (u_17.tmod 1000000000)]).flatMap (iC .u32)))]) (Eq.trans (b := guardO (decide (0 + l_18.length * 1 ≤ (l_18.flatMap (iC .u32)).length) && decide ((l_18.length + 1) * 4 ≤ 140737488355328) && decide (l_18.length + 1 ≤ 4611686018427387904)) (some (.eff (.hs 3 0 (l_18.length + 1) 1) [(1, .dead), (3, .own (((l_18.flatMap (iC .u32)).drop 0).take (l_18.length * 1) ++ [aU32 (wrapF .u32 (u_17.tmod 1000000000))]))]))) (by kernel_rfl) (app_own (l := l_18) (xs := [wrapF .u32 (u_17.tmod 1000000000)]) (iC_len _) rfl rfl (by kernel_rfl) hg25 hg26)) <| .mu 1 <| .done <| .n1 [0, 2, 3, 4] (mkS 29 0 [(0, aI64 n'), (2, .hp 0 0), (3, aU64 u_17), (4, .hs 3 0 (l_18 ++ [wrapF .u32 (u_17.tmod 1000000000)]).length 1)]) [.own [aB false, .at (.slice none 0 0)], .dead, .own [aU32 (wrapF .u32 (u_17.tmod 1000000000))], .own ((l_18 ++ [wrapF .u32 (u_17.tmod 1000000000)]).flatMap (iC .u32))] <| .ru fine <| .pop ?_
    exact loopF_back (wrapF .u64 (u_17.tdiv 1000000000), l_18 ++ [wrapF .u32 (u_17.tmod 1000000000)]) hr ((Wk.gc [0, 2, 3, 4] [(0, true), (3, false)] rfl (pKt (pKo (iC .u32) (iC_pure _) (l_18 ++ [wrapF .u32 (u_17.tmod 1000000000)]) trivial))).to (by kernel_rfl))
   ·replace hr := cd_f hb24 hr
    refine .leave rfl ?_
    obtain rfl := Option.some.inj hr
    exact ⟨rfl, ((Wk.gc [0, 2, 4] [(0, true), (1, false)] rfl (pKt (pKo (iC .u32) (iC_pure _) l_18 trivial))).to (by kernel_rfl))⟩
  ·rintro x st' hq29
   clear hL28
   obtain ⟨rfl, hq29⟩ := hq29
   refine CQ_exit _ rfl <| .wk hq29 <| .seq ?_
   obtain ⟨v30, hc31, hr⟩ := bd hr
   refine .g1 fine (callOk_ref (args := [aB false, .hs 1 0 l_22.length 1]) (l := [1]) (SnL.cons (Sn.pure rfl) (SnL.cons (Sn.hs rfl (.inl rfl) (SnC.pure (ids_flat (iC_pure _) _)) (fun h => flat_nil0 h)) SnL.nil)) (fiducialref01_made_ok n false l_22 v30 hc31)) <| .mu 1 <| .p0 (v := aB false) (Eq.trans (b := some (.pure (aB (decide (n' < 0))))) (by kernel_rfl) (by rw [hb1])) <| .mu 1 <| .c0 (by kernel_rfl) (callOf_at (by kernel_rfl)) <| .mu 1 <| .done <| .n1 [2] (mkS 29 0 [(2, .hp 0 0)]) [.own (api_Int.c v30), .fix (l_22.flatMap (iC .u32))] <| .ret ?_
   obtain rfl := Option.some.inj hr
   exact FinQ.r1 [.agg (api_Int.c v30)]

theorem fiducialref02_whole_inj {n' : Int} {n'_ : Int} (h : ([.at (.int .i64 n')] : List AV) = [.at (.int .i64 n'_)]) : n' = n'_ := by
 simp only [List.cons.injEq, AV.agg.injEq, AV.at.injEq, Value.int.injEq, Value.bool.injEq, AV.fn.injEq, AV.pp.injEq, true_and, and_true] at h
 simp_all
theorem fiducialref02_whole_ok (n : Nat) (n' : Int) (r : api_Int) (hr : fiducialref02_whole n n' = some r) : FnOk Tryz.prog 55 [.at (.int .i64 n')] (.agg [.at (.bool r.Negative), slT (iC .u32) r.Groups]) := by
 unfold fiducialref02_whole at hr
 refine FnOk.body fine Tryz.func55 (c := (Tryz.f55.body).getD .skip) rfl (s := mkS 5 0 [(0, aI64 n')]) (by kernel_rfl) (rs := [.cell 2 35]) rfl ?_
 unfold Tryz.f55
 simp only [Option.getD_some]
 refine .seq <| .rn fine [0, 2] (mkS 5 0 [(0, aI64 n'), (2, .hp 0 0)]) [.own [aB false, .at (.slice none 0 0)]] <| .seq ?_
 obtain ⟨v1, hc2, hr⟩ := bd hr
 refine .g1 fine (callOk_ref (l := []) (SnL.cons (Sn.pure rfl) SnL.nil) (fiducialref01_Of_ok n n' v1 hc2)) <| .mu 1 <| .c0 (by kernel_rfl) (callOf_at (by kernel_rfl)) <| .mu 1 <| .done <| .n1 [2] (mkS 5 0 [(2, .hp 0 0)]) [.own (api_Int.c v1)] <| .ret ?_
 obtain rfl := Option.some.inj hr
 exact FinQ.r1 [.agg (api_Int.c v1)]

theorem fiducialref02_Whole_ok (n : Nat) (n' : Int) (r : api_Rat) (hr : fiducialref02_Whole n n' = some r) : FnOk Tryz.prog 22 [.at (.int .i64 n')] (.agg [.at (.bool r.Num.Negative), slT (iC .u32) r.Num.Groups, .at (.bool r.Den.Negative), slT (iC .u32) r.Den.Groups]) := by
 unfold fiducialref02_Whole at hr
 refine FnOk.body fine Tryz.func22 (c := (Tryz.f22.body).getD .skip) rfl (s := mkS 7 0 [(0, aI64 n')]) (by kernel_rfl) (rs := [.cell 2 37]) rfl ?_
 unfold Tryz.f22
 simp only [Option.getD_some]
 refine .seq <| .rn fine [0, 2] (mkS 7 0 [(0, aI64 n'), (2, .hp 0 0)]) [.own [aB false, .at (.slice none 0 0), aB false, .at (.slice none 0 0)]] <| .seq ?_
 obtain ⟨v1, hc2, hr⟩ := bd hr
 obtain ⟨v3, hc4, hr⟩ := bd hr
 refine .region fine (callOf_cons (callOk_ref (H := [.own [aB false, .at (.slice none 0 0), aB false, .at (.slice none 0 0)]]) (l := []) (SnL.cons (Sn.pure rfl) SnL.nil) (fiducialref02_whole_ok n n' v1 hc2)) (callOf_cons (callOk_ref (H := [.own [aB false, .at (.slice none 0 0), aB false, .at (.slice none 0 0)]]) (l := []) (SnL.cons (Sn.pure rfl) SnL.nil) (fiducialref02_whole_ok n 1 v3 hc4)) callOf_nil)) <| .mu 1 <| .c0 (by kernel_rfl) (callOf_at (by kernel_rfl)) <| .c0 (by kernel_rfl) (callOf_skip (fun _ h => by obtain e0 := fiducialref02_whole_inj h; rw [show v3 = v1 from Option.some.inj (hc4.symm.trans ((show fiducialref02_whole n 1 = fiducialref02_whole n n' from (congr rfl e0)).trans hc2))]) (callOf_at (by kernel_rfl))) <| .mu 2 <| .done <| .n1 [2] (mkS 7 0 [(2, .hp 0 0)]) [.own [aB v1.Negative, sU32 v1.Groups, aB v3.Negative, sU32 v3.Groups]] <| .ret ?_
 obtain rfl := Option.some.inj hr
 exact FinQ.r1 [.agg [aB v1.Negative, sU32 v1.Groups, aB v3.Negative, sU32 v3.Groups]]

theorem fiducialref01_Valid_inj {x' : api_Int} {x'_ : api_Int} (h : ([.agg [.at (.bool x'.Negative), slT (iC .u32) x'.Groups]] : List AV) = [.agg [.at (.bool x'_.Negative), slT (iC .u32) x'_.Groups]]) : x' = x'_ := by
 obtain ⟨_, _⟩ := x'
 obtain ⟨_, _⟩ := x'_
 simp only [List.cons.injEq, AV.agg.injEq, AV.at.injEq, Value.int.injEq, Value.bool.injEq, AV.fn.injEq, AV.pp.injEq, true_and, and_true, slT_inj_int] at h
 simp_all
theorem fiducialref01_Valid_ok (n : Nat) (x' : api_Int) (r : Bool) (hr : fiducialref01_Valid n x' = some r) : FnOk Tryz.prog 121 [.agg [.at (.bool x'.Negative), slT (iC .u32) x'.Groups]] (.at (.bool r)) := by
 unfold fiducialref01_Valid at hr
 refine FnOk.body fine Tryz.func121 (c := (Tryz.f121.body).getD .skip) rfl (s := mkS 31 0 [(0, .agg (api_Int.c x'))]) (by kernel_rfl) (rs := [.tmp 2]) rfl ?_
 unfold Tryz.f121
 simp only [Option.getD_some]
 refine .seq <| .rn fine [1] (mkS 31 0 [(1, .hp 0 0)]) [.own (api_Int.c x')] <| .seq <| .rn fine [1, 3] (mkS 31 0 [(1, .hp 0 0), (3, aI64 (x'.Groups.length : Int))]) [.own (api_Int.c x')] <| .seq <| .seq <| .rn fine [1, 3, 4] (mkS 31 0 [(1, .hp 0 0), (3, aI64 (x'.Groups.length : Int)), (4, aI64 0)]) [.own (api_Int.c x')] <| .block ?_
 replace hr := bd hr; obtain ⟨o9, hL10, hr⟩ := hr
 refine .loopO (σ := fun z0 => match z0 with | i_1 => ⟨mkS 31 0 [(1, .hp 0 0), (3, aI64 (x'.Groups.length : Int)), (4, aI64 i_1)], [.own (api_Int.c x')]⟩) (Q := fun x st' => match (generalizing := false) o9 with | .inl _ => x = .exit 0 ∧ Wk 0 st' ⟨mkS 31 0 [(1, .hp 0 0), (3, aI64 (x'.Groups.length : Int))], [.own (api_Int.c x')]⟩ | .inr (r0) => x = .ret ∧ FinQ Tryz.prog [.tmp 2] (aB r0) .ret st') hL10 ((Wk.gc [1, 3, 4] [(0, true)] rfl trivial).to (by kernel_rfl)) ?_ ?_
 ·clear hr
  rintro m i_1 hr
  show CQ _ _ _ _ _ ⟨_, _⟩
  refine .seq <| .seq <| .rn fine [1, 3, 4, 10] (mkS 31 0 [(1, .hp 0 0), (3, aI64 (x'.Groups.length : Int)), (4, aI64 i_1), (10, aB (decide (i_1 < (x'.Groups.length : Int))))]) [.own (api_Int.c x')] ?_
  refine .cond (t := decide (i_1 < (x'.Groups.length : Int))) (by kernel_rfl) (fun hb6 => ?_) (fun hb6 => ?_)
  ·replace hr := cd_t hb6 hr
   refine .skip <| .seq <| .block <| .seq ?_
   obtain ⟨hg7, hr⟩ := gd hr
   refine .r0 fine <| .mu 3 <| .p0 (v := .pp (x'.Groups.flatMap (iC .u32)) (i_1.toNat * 1)) (Eq.trans (b := ORes.ofP (guardV (inR i_1 x'.Groups.length) (.pp (x'.Groups.flatMap (iC .u32)) (i_1.toNat * 1)))) (by kernel_rfl) (ofP_guard hg7)) <| .p0 (v := aU32 (gt x'.Groups i_1)) (Eq.trans (b := ORes.ofP ((x'.Groups.flatMap (iC .u32))[i_1.toNat * 1]?)) (by kernel_rfl) (ofP_some (flat_get (iC_len _) (inR_lt hg7) (by decide : 0 < 1) (by omega : i_1.toNat * 1 = i_1.toNat * 1 + 0) (by kernel_rfl)))) <| .mu 1 <| .done <| .n1 [1, 3, 4, 18] (mkS 31 0 [(1, .hp 0 0), (3, aI64 (x'.Groups.length : Int)), (4, aI64 i_1), (18, aB (decide ((gt x'.Groups i_1) ≥ 1000000000)))]) [.own (api_Int.c x')] ?_
   refine .cond (t := decide ((gt x'.Groups i_1) ≥ 1000000000)) (by kernel_rfl) (fun hb8 => ?_) (fun hb8 => ?_)
   ·replace hr := cd_t hb8 hr
    refine .seq <| .ru fine <| .ret ?_
    obtain rfl := Option.some.inj hr
    exact ⟨rfl, FinQ.ret (vs := [aB false]) (by kernel_rfl) (Sn.pure rfl)⟩
   ·replace hr := cd_f hb8 hr
    refine .skip <| .pop <| .ru fine ?_
    exact loopF_back (wrapF .i64 (i_1 + 1)) hr ((Wk.gc [1, 3, 4] [(0, true)] rfl trivial).to (by kernel_rfl))
  ·replace hr := cd_f hb6 hr
   refine .leave rfl ?_
   obtain rfl := Option.some.inj hr
   exact ⟨rfl, ((Wk.gc [1, 3] [(0, true)] rfl trivial).to (by kernel_rfl))⟩
 ·rcases o9 with ⟨⟩ | r0
  ·rintro x st' hq11
   clear hL10
   obtain ⟨rfl, hq11⟩ := hq11
   refine CQ_exit _ rfl <| .wk hq11 <| .seq <| .seq <| .rn fine [1, 3, 20] (mkS 31 0 [(1, .hp 0 0), (3, aI64 (x'.Groups.length : Int)), (20, aB (((x'.Groups.length : Int) : Int) == 0))]) [.own (api_Int.c x')] ?_
   refine .cond (t := ((x'.Groups.length : Int) : Int) == 0) (by kernel_rfl) (fun hb12 => ?_) (fun hb12 => ?_)
   ·replace hr := cd_t hb12 hr
    refine .seq <| .ru fine <| .ret ?_
    obtain rfl := Option.some.inj hr
    exact FinQ.r1 [aB (!x'.Negative)]
   ·replace hr := cd_f hb12 hr
    refine .skip <| .seq ?_
    obtain ⟨hg13, hr⟩ := gd hr
    refine .r0 fine <| .mu 4 <| .p0 (v := .pp (x'.Groups.flatMap (iC .u32)) ((wrapF .i64 ((x'.Groups.length : Int) - 1)).toNat * 1)) (Eq.trans (b := ORes.ofP (guardV (inR (wrapF .i64 ((x'.Groups.length : Int) - 1)) x'.Groups.length) (.pp (x'.Groups.flatMap (iC .u32)) ((wrapF .i64 ((x'.Groups.length : Int) - 1)).toNat * 1)))) (by kernel_rfl) (ofP_guard hg13)) <| .p0 (v := aU32 (gt x'.Groups (wrapF .i64 ((x'.Groups.length : Int) - 1)))) (Eq.trans (b := ORes.ofP ((x'.Groups.flatMap (iC .u32))[(wrapF .i64 ((x'.Groups.length : Int) - 1)).toNat * 1]?)) (by kernel_rfl) (ofP_some (flat_get (iC_len _) (inR_lt hg13) (by decide : 0 < 1) (by omega : (wrapF .i64 ((x'.Groups.length : Int) - 1)).toNat * 1 = (wrapF .i64 ((x'.Groups.length : Int) - 1)).toNat * 1 + 0) (by kernel_rfl)))) <| .mu 2 <| .done <| .ret ?_
    obtain rfl := Option.some.inj hr
    exact FinQ.r1 [aB (((gt x'.Groups (wrapF .i64 ((x'.Groups.length : Int) - 1))) : Int) != 0)]
  ·rintro x st' hq11
   clear hL10
   obtain ⟨rfl, hq11⟩ := hq11
   obtain rfl := Option.some.inj hr
   exact CQ_ret _ hq11

theorem fiducialref01_Value_inj {x' : api_Int} {x'_ : api_Int} (h : ([.agg [.at (.bool x'.Negative), slT (iC .u32) x'.Groups]] : List AV) = [.agg [.at (.bool x'_.Negative), slT (iC .u32) x'_.Groups]]) : x' = x'_ := by
 obtain ⟨_, _⟩ := x'
 obtain ⟨_, _⟩ := x'_
 simp only [List.cons.injEq, AV.agg.injEq, AV.at.injEq, Value.int.injEq, Value.bool.injEq, AV.fn.injEq, AV.pp.injEq, true_and, and_true, slT_inj_int] at h
 simp_all
theorem fiducialref01_Value_ok (n : Nat) (x' : api_Int) (r : api_Int) (hr : fiducialref01_Value n x' = some r) : FnOk Tryz.prog 108 [.agg [.at (.bool x'.Negative), slT (iC .u32) x'.Groups]] (.agg [.at (.bool r.Negative), slT (iC .u32) r.Groups]) := by
 unfold fiducialref01_Value at hr
 refine FnOk.body fine Tryz.func108 (c := (Tryz.f108.body).getD .skip) rfl (s := mkS 14 0 [(0, .agg (api_Int.c x'))]) (by kernel_rfl) (rs := [.cell 2 35]) rfl ?_
 unfold Tryz.f108
 simp only [Option.getD_some]
 refine .seq <| .rn fine [1, 2] (mkS 14 0 [(1, .hp 0 0), (2, .hp 1 0)]) [.own (api_Int.c x'), .own [aB false, .at (.slice none 0 0)]] <| .seq <| .seq ?_
 obtain ⟨v1, hc2, hr⟩ := bd hr
 refine .g1 fine (callOk_val (l := []) rfl (SnL.cons (Sn.pure rfl) SnL.nil) (fiducialref01_Valid_ok n x' v1 hc2)) <| .mu 1 <| .c0 (by kernel_rfl) (callOf_at (by kernel_rfl)) <| .mu 1 <| .done <| .n1 [1, 2, 5] (mkS 14 0 [(1, .hp 0 0), (2, .hp 1 0), (5, aB (!v1))]) [.own (api_Int.c x'), .own [aB false, .at (.slice none 0 0)]] ?_
 refine .cond (t := !v1) (by kernel_rfl) (fun hb3 => ?_) (fun hb3 => ?_)
 ·replace hr := cd_t hb3 hr
  refine .seq <| .rn fine [2] (mkS 14 0 [(2, .hp 1 0)]) [.own (api_Int.c x'), .own [aB false, .at (.slice none 0 0)]] <| .ret ?_
  obtain rfl := Option.some.inj hr
  exact FinQ.ret (vs := [.agg [aB false, .at (.slice none 0 0)]]) (by kernel_rfl) (Sn.agg (SnL.cons (Sn.pure rfl) (SnL.cons Sn.nilsl SnL.nil)))
 ·replace hr := cd_f hb3 hr
  refine .skip <| .seq ?_
  obtain ⟨hg4, hr⟩ := gd hr
  obtain ⟨hg5, hr⟩ := gd hr
  refine .regionT fine callOf_nil <| .mu 5 <| .eff (v := .hs 3 0 x'.Groups.length 1) (ws := [(2, .dead), (3, .own (x'.Groups.flatMap (iC .u32)))]) (by kernel_rfl) (Eq.trans (b := appS (decide (((x'.Groups.flatMap (iC .u32))).length = x'.Groups.length * 1)) (x'.Groups.flatMap (iC .u32)) x'.Groups.length (fun z1 z2 => guardO (decide (0 + 0 * 1 ≤ (([] : List Int).flatMap (iC .u32)).length) && decide ((0 + z2) * 4 ≤ 140737488355328) && decide (0 + z2 ≤ 4611686018427387904)) (some (.eff (.hs 3 0 (0 + z2) 1) [(2, .dead), (3, .own (((([] : List Int).flatMap (iC .u32)).drop 0).take (0 * 1) ++ z1))])))) (by kernel_rfl) (appS_t (flat_lenB (iC_len _)) rfl (app_own (l := ([] : List Int)) (xs := x'.Groups) (iC_len _) rfl rfl rfl hg4 hg5))) (by kernel_rfl) <| .mu 2 ?_
  refine .done ⟨by kernel_rfl, ?_⟩
  refine .n1 [2] (mkS 14 0 [(2, .hp 1 0)]) [.own (api_Int.c x'), .own [aB x'.Negative, .hs 3 0 x'.Groups.length 1], .dead, .own (x'.Groups.flatMap (iC .u32))] <| .ret ?_
  obtain rfl := Option.some.inj hr
  exact FinQ.ret (vs := [.agg [aB x'.Negative, .hs 3 0 x'.Groups.length 1]]) (by kernel_rfl) (Sn.agg (SnL.cons (Sn.pure rfl) (SnL.cons (Sn.hs rfl (.inl rfl) (SnC.pure (ids_flat (iC_pure _) _)) (fun h => flat_nil0 h)) SnL.nil)))

theorem fiducialref01_Sign_ok (n : Nat) (x' : api_Int) (r : Int) (hr : fiducialref01_Sign n x' = some r) : FnOk Tryz.prog 75 [.agg [.at (.bool x'.Negative), slT (iC .u32) x'.Groups]] (.at (.int .i64 r)) := by
 unfold fiducialref01_Sign at hr
 refine FnOk.body fine Tryz.func75 (c := (Tryz.f75.body).getD .skip) rfl (s := mkS 11 0 [(0, .agg (api_Int.c x'))]) (by kernel_rfl) (rs := [.tmp 2]) rfl ?_
 unfold Tryz.f75
 simp only [Option.getD_some]
 refine .seq <| .rn fine [1] (mkS 11 0 [(1, .hp 0 0)]) [.own (api_Int.c x')] <| .seq ?_
 obtain ⟨v1, hc2, hr⟩ := bd hr
 refine .g1 fine (callOk_ref (l := []) (SnL.cons (Sn.pure rfl) SnL.nil) (fiducialref01_Value_ok n x' v1 hc2)) <| .mu 1 <| .c0 (by kernel_rfl) (callOf_at (by kernel_rfl)) <| .mu 1 <| .done <| .n1 [1] (mkS 11 0 [(1, .hp 0 0)]) [.own (api_Int.c v1)] <| .seq <| .seq <| .rn fine [1, 8] (mkS 11 0 [(1, .hp 0 0), (8, aB (((v1.Groups.length : Int) : Int) == 0))]) [.own (api_Int.c v1)] ?_
 refine .cond (t := ((v1.Groups.length : Int) : Int) == 0) (by kernel_rfl) (fun hb3 => ?_) (fun hb3 => ?_)
 ·replace hr := cd_t hb3 hr
  refine .seq <| .ru fine <| .ret ?_
  obtain rfl := Option.some.inj hr
  exact FinQ.r1 [aI64 0]
 ·replace hr := cd_f hb3 hr
  refine .skip <| .seq <| .seq <| .rn fine [10] (mkS 11 0 [(10, aB v1.Negative)]) [.own (api_Int.c v1)] ?_
  refine .cond (t := v1.Negative) (by kernel_rfl) (fun hb4 => ?_) (fun hb4 => ?_)
  ·replace hr := cd_t hb4 hr
   refine .seq <| .ru fine <| .ret ?_
   obtain rfl := Option.some.inj hr
   exact FinQ.r1 [aI64 (-1)]
  ·replace hr := cd_f hb4 hr
   refine .skip <| .seq <| .ru fine <| .ret ?_
   obtain rfl := Option.some.inj hr
   exact FinQ.r1 [aI64 1]

theorem fiducialref01_short_ok (n : Nat) (a : List Int) (d : Int) (r : List Int × Int) (hr : fiducialref01_short n a d = some r) : FnOk Tryz.prog 160 [slT (iC .u32) a, .at (.int .u64 d)] (.tup [slT (iC .u32) r.1, .at (.int .u64 r.2)]) := by
 unfold fiducialref01_short at hr
 refine FnOk.body fine Tryz.func160 (c := (Tryz.f160.body).getD .skip) rfl (s := mkS 42 0 [(0, sU32 a), (1, aU64 d)]) (by kernel_rfl) (rs := [.tmp 4, .tmp 5]) rfl ?_
 unfold Tryz.f160
 simp only [Option.getD_some]
 refine .seq <| .rn fine [0, 1] (mkS 42 0 [(0, sU32 a), (1, aU64 d)]) [] <| .seq ?_
 obtain ⟨hg1, hr⟩ := gd hr
 obtain ⟨hg2, hr⟩ := gd hr
 obtain ⟨hg3, hr⟩ := gd hr
 refine .r0 fine <| .mu 2 <| .e0 (v := .hs 0 0 (List.replicate (a.length : Int).toNat (0 : Int)).length 1) (ws := [(0, .own ((List.replicate (a.length : Int).toNat (0 : Int)).flatMap (iC .u32)))]) (Eq.trans (b := guardO (decide (0 ≤ (a.length : Int)) && decide ((a.length : Int) ≤ (a.length : Int)) && decide ((4 : Int) * (a.length : Int) ≤ 281474976710656) && decide ((a.length : Int) ≤ 9223372036854775807) && true && true && true) (some (.eff (.hs 0 0 (a.length : Int).toNat 1) [(0, .own (zerosA [aU32 0] (a.length : Int).toNat))]))) (by kernel_rfl) (make_own (c := (iC .u32)) (z := 0) rfl hg1 hg2 hg3)) <| .mu 1 <| .done <| .n1 [0, 1, 6] (mkS 42 0 [(0, sU32 a), (1, aU64 d), (6, .hs 0 0 (List.replicate (a.length : Int).toNat (0 : Int)).length 1)]) [.own ((List.replicate (a.length : Int).toNat (0 : Int)).flatMap (iC .u32))] <| .seq <| .rn fine [0, 1, 6, 7] (mkS 42 0 [(0, sU32 a), (1, aU64 d), (6, .hs 0 0 (List.replicate (a.length : Int).toNat (0 : Int)).length 1), (7, aU64 0)]) [.own ((List.replicate (a.length : Int).toNat (0 : Int)).flatMap (iC .u32))] <| .seq <| .seq <| .rn fine [0, 1, 6, 7, 8] (mkS 42 0 [(0, sU32 a), (1, aU64 d), (6, .hs 0 0 (List.replicate (a.length : Int).toNat (0 : Int)).length 1), (7, aU64 0), (8, aI64 (wrapF .i64 ((a.length : Int) - 1)))]) [.own ((List.replicate (a.length : Int).toNat (0 : Int)).flatMap (iC .u32))] <| .block ?_
 replace hr := bd hr; obtain ⟨o18, hL19, hr⟩ := hr
 refine .loopO (σ := fun z0 => match z0 with | (q_4, rest_5, i_6) => ⟨mkS 42 0 [(0, sU32 a), (1, aU64 d), (6, .hs 0 0 q_4.length 1), (7, aU64 rest_5), (8, aI64 i_6)], [.own (q_4.flatMap (iC .u32))]⟩) (Q := fun x st' => match (generalizing := false) o18 with | (q_11, rest_12) => x = .exit 0 ∧ Wk 0 st' ⟨mkS 42 0 [(6, .hs 0 0 q_11.length 1), (7, aU64 rest_12)], [.own (q_11.flatMap (iC .u32))]⟩) hL19 ((Wk.gc [0, 1, 6, 7, 8] [(0, false)] rfl (pKo (iC .u32) (iC_pure _) (List.replicate (a.length : Int).toNat (0 : Int)) trivial)).to (by kernel_rfl)) ?_ ?_
 ·clear hr
  rintro m ⟨q_4, rest_5, i_6⟩ hr
  show CQ _ _ _ _ _ ⟨_, _⟩
  refine .seq <| .seq <| .rn fine [0, 1, 6, 7, 8, 17] (mkS 42 0 [(0, sU32 a), (1, aU64 d), (6, .hs 0 0 q_4.length 1), (7, aU64 rest_5), (8, aI64 i_6), (17, aB (decide (i_6 ≥ 0)))]) [.own (q_4.flatMap (iC .u32))] ?_
  refine .cond (t := decide (i_6 ≥ 0)) (by kernel_rfl) (fun hb14 => ?_) (fun hb14 => ?_)
  ·replace hr := cd_t hb14 hr
   refine .skip <| .seq <| .block <| .seq ?_
   obtain ⟨hg15, hr⟩ := gd hr
   refine .r0 fine <| .mu 4 <| .p0 (v := .pp (a.flatMap (iC .u32)) (i_6.toNat * 1)) (Eq.trans (b := ORes.ofP (guardV (inR i_6 a.length) (.pp (a.flatMap (iC .u32)) (i_6.toNat * 1)))) (by kernel_rfl) (ofP_guard hg15)) <| .p0 (v := aU32 (gt a i_6)) (Eq.trans (b := ORes.ofP ((a.flatMap (iC .u32))[i_6.toNat * 1]?)) (by kernel_rfl) (ofP_some (flat_get (iC_len _) (inR_lt hg15) (by decide : 0 < 1) (by omega : i_6.toNat * 1 = i_6.toNat * 1 + 0) (by kernel_rfl)))) <| .mu 3 <| .done <| .n1 [0, 1, 6, 8, 9] (mkS 42 0 [(0, sU32 a), (1, aU64 d), (6, .hs 0 0 q_4.length 1), (8, aI64 i_6), (9, aU64 (wrapF .u64 ((wrapF .u64 (rest_5 * 1000000000)) + (wrapF .u64 (gt a i_6)))))]) [.own (q_4.flatMap (iC .u32))] <| .seq ?_
   obtain ⟨hg16, hr⟩ := gd hr
   obtain ⟨hg17, hr⟩ := gd hr
   refine .r0 fine <| .mu 4 <| .p0 (v := aU64 (wrapF .u64 ((wrapF .u64 ((wrapF .u64 (rest_5 * 1000000000)) + (wrapF .u64 (gt a i_6)))).tdiv d))) (op_quo (x := wrapF .u64 ((wrapF .u64 (rest_5 * 1000000000)) + (wrapF .u64 (gt a i_6)))) (y := d) (by kernel_rfl) (by kernel_rfl) hg16) <| .mu 1 <| .p0 (v := .hp 0 (0 + i_6.toNat * 1)) (Eq.trans (b := ORes.ofP (guardV (inR i_6 q_4.length) (.hp 0 (0 + i_6.toNat * 1)))) (by kernel_rfl) (ofP_guard hg17)) <| .e0 (v := .unk) (ws := [(0, .own ((q_4.set i_6.toNat (wrapF .u32 (wrapF .u64 ((wrapF .u64 ((wrapF .u64 (rest_5 * 1000000000)) + (wrapF .u64 (gt a i_6)))).tdiv d)))).flatMap (iC .u32)))]) (Eq.trans (b := stO (decide ((0 + i_6.toNat * 1) + 1 ≤ (q_4.flatMap (iC .u32)).length) && true) [(0, .own (setCells (q_4.flatMap (iC .u32)) (0 + i_6.toNat * 1) [aU32 (wrapF .u32 (wrapF .u64 ((wrapF .u64 ((wrapF .u64 (rest_5 * 1000000000)) + (wrapF .u64 (gt a i_6)))).tdiv d)))]))]) (by kernel_rfl) (stO_t (and_t (flat_fits (iC_len _) (inR_lt hg17) (Nat.le_of_ble_eq_true rfl) (by omega : 0 + i_6.toNat * 1 = i_6.toNat * 1 + 0))) (congrArg Blk.own (flat_set (iC_len _) (inR_lt hg17) (Nat.le_of_ble_eq_true rfl) (by omega : 0 + i_6.toNat * 1 = i_6.toNat * 1 + 0) (by kernel_rfl))))) <| .done <| .n1 [0, 1, 6, 8, 9] (mkS 42 0 [(0, sU32 a), (1, aU64 d), (6, .hs 0 0 q_4.length 1), (8, aI64 i_6), (9, aU64 (wrapF .u64 ((wrapF .u64 (rest_5 * 1000000000)) + (wrapF .u64 (gt a i_6)))))]) [.own ((q_4.set i_6.toNat (wrapF .u32 (wrapF .u64 ((wrapF .u64 ((wrapF .u64 (rest_5 * 1000000000)) + (wrapF .u64 (gt a i_6)))).tdiv d)))).flatMap (iC .u32))] <| .r0 fine <| .mu 2 <| .p0 (v := aU64 ((wrapF .u64 ((wrapF .u64 (rest_5 * 1000000000)) + (wrapF .u64 (gt a i_6)))).tmod d)) (op_rem (x := wrapF .u64 ((wrapF .u64 (rest_5 * 1000000000)) + (wrapF .u64 (gt a i_6)))) (y := d) (by kernel_rfl) (by kernel_rfl) hg16) <| .mu 1 <| .done <| .pop <| .ru fine ?_
   exact loopF_back (q_4.set i_6.toNat (wrapF .u32 (wrapF .u64 ((wrapF .u64 ((wrapF .u64 (rest_5 * 1000000000)) + (wrapF .u64 (gt a i_6)))).tdiv d))), (wrapF .u64 ((wrapF .u64 (rest_5 * 1000000000)) + (wrapF .u64 (gt a i_6)))).tmod d, wrapF .i64 (i_6 - 1)) hr ((Wk.relen 6 (b := 0) (es := 1) (len := q_4.length) (q_4.set i_6.toNat (wrapF .u32 (wrapF .u64 ((wrapF .u64 ((wrapF .u64 (rest_5 * 1000000000)) + (wrapF .u64 (gt a i_6)))).tdiv d)))).length (by kernel_rfl) (by simp)).trans ((Wk.gc [0, 1, 6, 7, 8] [(0, false)] rfl (pKo (iC .u32) (iC_pure _) (q_4.set i_6.toNat (wrapF .u32 (wrapF .u64 ((wrapF .u64 ((wrapF .u64 (rest_5 * 1000000000)) + (wrapF .u64 (gt a i_6)))).tdiv d)))) trivial)).to (by kernel_rfl)))
  ·replace hr := cd_f hb14 hr
   refine .leave rfl ?_
   obtain rfl := Option.some.inj hr
   exact ⟨rfl, ((Wk.gc [6, 7] [(0, false)] rfl (pKo (iC .u32) (iC_pure _) q_4 trivial)).to (by kernel_rfl))⟩
 ·rcases o18 with ⟨q_11, rest_12⟩
  rintro x st' hq20
  clear hL19
  obtain ⟨rfl, hq20⟩ := hq20
  refine CQ_exit _ rfl <| .wk hq20 <| .seq ?_
  obtain ⟨v21, hc22, hr⟩ := bd hr
  refine .g1 fine (callOk_ref (args := [aB false, .hs 0 0 q_11.length 1]) (l := [0]) (SnL.cons (Sn.pure rfl) (SnL.cons (Sn.hs rfl (.inl rfl) (SnC.pure (ids_flat (iC_pure _) _)) (fun h => flat_nil0 h)) SnL.nil)) (fiducialref01_made_ok n false q_11 v21 hc22)) <| .mu 1 <| .c0 (by kernel_rfl) (callOf_at (by kernel_rfl)) <| .mu 4 <| .done <| .ret ?_
  obtain rfl := Option.some.inj hr
  exact FinQ.ret (vs := [sU32 v21.Groups, aU64 rest_12]) (by kernel_rfl) (Sn.tup (SnL.cons (Sn.pure rfl) (SnL.cons (Sn.pure rfl) SnL.nil)))

theorem fiducialref01_size_ok (n : Nat) (a : List Int) (b : List Int) (r : Int) (hr : fiducialref01_size n a b = some r) : FnOk Tryz.prog 112 [slT (iC .u32) a, slT (iC .u32) b] (.at (.int .i64 r)) := by
 unfold fiducialref01_size at hr
 refine FnOk.body fine Tryz.func112 (c := (Tryz.f112.body).getD .skip) rfl (s := mkS 41 0 [(0, sU32 a), (1, sU32 b)]) (by kernel_rfl) (rs := [.tmp 4]) rfl ?_
 unfold Tryz.f112
 simp only [Option.getD_some]
 refine .seq <| .rn fine [0, 1] (mkS 41 0 [(0, sU32 a), (1, sU32 b)]) [] <| .seq <| .seq <| .rn fine [0, 1, 10] (mkS 41 0 [(0, sU32 a), (1, sU32 b), (10, aB (((a.length : Int) : Int) != (b.length : Int)))]) [] ?_
 refine .cond (t := ((a.length : Int) : Int) != (b.length : Int)) (by kernel_rfl) (fun hb1 => ?_) (fun hb1 => ?_)
 ·replace hr := cd_t hb1 hr
  refine .seq <| .seq <| .rn fine [15] (mkS 41 0 [(15, aB (decide ((a.length : Int) < (b.length : Int))))]) [] ?_
  refine .cond (t := decide ((a.length : Int) < (b.length : Int))) (by kernel_rfl) (fun hb2 => ?_) (fun hb2 => ?_)
  ·replace hr := cd_t hb2 hr
   refine .seq <| .ru fine <| .ret ?_
   obtain rfl := Option.some.inj hr
   exact FinQ.r1 [aI64 (-1)]
  ·replace hr := cd_f hb2 hr
   refine .skip <| .seq <| .ru fine <| .ret ?_
   obtain rfl := Option.some.inj hr
   exact FinQ.r1 [aI64 1]
 ·replace hr := cd_f hb1 hr
  refine .skip <| .seq <| .seq <| .rn fine [0, 1, 5] (mkS 41 0 [(0, sU32 a), (1, sU32 b), (5, aI64 (wrapF .i64 ((a.length : Int) - 1)))]) [] <| .block ?_
  replace hr := bd hr; obtain ⟨o15, hL16, hr⟩ := hr
  refine .loopO (σ := fun z0 => match z0 with | i_3 => ⟨mkS 41 0 [(0, sU32 a), (1, sU32 b), (5, aI64 i_3)], []⟩) (Q := fun x st' => match (generalizing := false) o15 with | .inl _ => x = .exit 0 ∧ Wk 0 st' ⟨mkS 41 0 [], []⟩ | .inr (r0) => x = .ret ∧ FinQ Tryz.prog [.tmp 4] (aI64 r0) .ret st') hL16 ((Wk.gc [0, 1, 5] [] rfl pK0).to (by kernel_rfl)) ?_ ?_
  ·clear hr
   rintro m i_3 hr
   show CQ _ _ _ _ _ ⟨_, _⟩
   refine .seq <| .seq <| .rn fine [0, 1, 5, 20] (mkS 41 0 [(0, sU32 a), (1, sU32 b), (5, aI64 i_3), (20, aB (decide (i_3 ≥ 0)))]) [] ?_
   refine .cond (t := decide (i_3 ≥ 0)) (by kernel_rfl) (fun hb10 => ?_) (fun hb10 => ?_)
   ·replace hr := cd_t hb10 hr
    refine .skip <| .seq <| .block <| .seq <| .seq ?_
    obtain ⟨hg11, hr⟩ := gd hr
    obtain ⟨hg12, hr⟩ := gd hr
    refine .regionT fine callOf_nil <| .mu 2 <| .pure (v := .pp (a.flatMap (iC .u32)) (i_3.toNat * 1)) (by kernel_rfl) (Eq.trans (b := ORes.ofP (guardV (inR i_3 a.length) (.pp (a.flatMap (iC .u32)) (i_3.toNat * 1)))) (by kernel_rfl) (ofP_guard hg11)) (by kernel_rfl) <| .pure (v := aU32 (gt a i_3)) (by kernel_rfl) (Eq.trans (b := ORes.ofP ((a.flatMap (iC .u32))[i_3.toNat * 1]?)) (by kernel_rfl) (ofP_some (flat_get (iC_len _) (inR_lt hg11) (by decide : 0 < 1) (by omega : i_3.toNat * 1 = i_3.toNat * 1 + 0) (by kernel_rfl)))) (by kernel_rfl) <| .mu 2 <| .pure (v := .pp (b.flatMap (iC .u32)) (i_3.toNat * 1)) (by kernel_rfl) (Eq.trans (b := ORes.ofP (guardV (inR i_3 b.length) (.pp (b.flatMap (iC .u32)) (i_3.toNat * 1)))) (by kernel_rfl) (ofP_guard hg12)) (by kernel_rfl) <| .pure (v := aU32 (gt b i_3)) (by kernel_rfl) (Eq.trans (b := ORes.ofP ((b.flatMap (iC .u32))[i_3.toNat * 1]?)) (by kernel_rfl) (ofP_some (flat_get (iC_len _) (inR_lt hg12) (by decide : 0 < 1) (by omega : i_3.toNat * 1 = i_3.toNat * 1 + 0) (by kernel_rfl)))) (by kernel_rfl) <| .mu 1 ?_
    refine .done ⟨by kernel_rfl, ?_⟩
    refine .n1 [0, 1, 5, 31] (mkS 41 0 [(0, sU32 a), (1, sU32 b), (5, aI64 i_3), (31, aB (decide ((gt a i_3) < (gt b i_3))))]) [] ?_
    refine .cond (t := decide ((gt a i_3) < (gt b i_3))) (by kernel_rfl) (fun hb13 => ?_) (fun hb13 => ?_)
    ·replace hr := cd_t hb13 hr
     refine .seq <| .ru fine <| .ret ?_
     obtain rfl := Option.some.inj hr
     exact ⟨rfl, FinQ.ret (vs := [aI64 (-1)]) (by kernel_rfl) (Sn.pure rfl)⟩
    ·replace hr := cd_f hb13 hr
     refine .skip <| .seq <| .regionT fine callOf_nil <| .mu 2 <| .pure (v := .pp (a.flatMap (iC .u32)) (i_3.toNat * 1)) (by kernel_rfl) (Eq.trans (b := ORes.ofP (guardV (inR i_3 a.length) (.pp (a.flatMap (iC .u32)) (i_3.toNat * 1)))) (by kernel_rfl) (ofP_guard hg11)) (by kernel_rfl) <| .pure (v := aU32 (gt a i_3)) (by kernel_rfl) (Eq.trans (b := ORes.ofP ((a.flatMap (iC .u32))[i_3.toNat * 1]?)) (by kernel_rfl) (ofP_some (flat_get (iC_len _) (inR_lt hg11) (by decide : 0 < 1) (by omega : i_3.toNat * 1 = i_3.toNat * 1 + 0) (by kernel_rfl)))) (by kernel_rfl) <| .mu 2 <| .pure (v := .pp (b.flatMap (iC .u32)) (i_3.toNat * 1)) (by kernel_rfl) (Eq.trans (b := ORes.ofP (guardV (inR i_3 b.length) (.pp (b.flatMap (iC .u32)) (i_3.toNat * 1)))) (by kernel_rfl) (ofP_guard hg12)) (by kernel_rfl) <| .pure (v := aU32 (gt b i_3)) (by kernel_rfl) (Eq.trans (b := ORes.ofP ((b.flatMap (iC .u32))[i_3.toNat * 1]?)) (by kernel_rfl) (ofP_some (flat_get (iC_len _) (inR_lt hg12) (by decide : 0 < 1) (by omega : i_3.toNat * 1 = i_3.toNat * 1 + 0) (by kernel_rfl)))) (by kernel_rfl) <| .mu 1 ?_
     refine .done ⟨by kernel_rfl, ?_⟩
     refine .n1 [0, 1, 5, 40] (mkS 41 0 [(0, sU32 a), (1, sU32 b), (5, aI64 i_3), (40, aB (decide ((gt a i_3) > (gt b i_3))))]) [] ?_
     refine .cond (t := decide ((gt a i_3) > (gt b i_3))) (by kernel_rfl) (fun hb14 => ?_) (fun hb14 => ?_)
     ·replace hr := cd_t hb14 hr
      refine .seq <| .ru fine <| .ret ?_
      obtain rfl := Option.some.inj hr
      exact ⟨rfl, FinQ.ret (vs := [aI64 1]) (by kernel_rfl) (Sn.pure rfl)⟩
     ·replace hr := cd_f hb14 hr
      refine .skip <| .pop <| .ru fine ?_
      exact loopF_back (wrapF .i64 (i_3 - 1)) hr ((Wk.gc [0, 1, 5] [] rfl pK0).to (by kernel_rfl))
   ·replace hr := cd_f hb10 hr
    refine .leave rfl ?_
    obtain rfl := Option.some.inj hr
    exact ⟨rfl, ((Wk.gc [] [] rfl pK0).to (by kernel_rfl))⟩
  ·rcases o15 with ⟨⟩ | r0
   ·rintro x st' hq17
    clear hL16
    obtain ⟨rfl, hq17⟩ := hq17
    refine CQ_exit _ rfl <| .wk hq17 <| .seq <| .ru fine <| .ret ?_
    obtain rfl := Option.some.inj hr
    exact FinQ.r1 [aI64 0]
   ·rintro x st' hq17
    clear hL16
    obtain ⟨rfl, hq17⟩ := hq17
    obtain rfl := Option.some.inj hr
    exact CQ_ret _ hq17

theorem fiducialref01_scaled_inj {a : List Int} {d : Int} {a_ : List Int} {d_ : Int} (h : ([slT (iC .u32) a, .at (.int .u64 d)] : List AV) = [slT (iC .u32) a_, .at (.int .u64 d_)]) : a = a_ ∧ d = d_ := by
 simp only [List.cons.injEq, AV.agg.injEq, AV.at.injEq, Value.int.injEq, Value.bool.injEq, AV.fn.injEq, AV.pp.injEq, true_and, and_true, slT_inj_int] at h
 simp_all
theorem fiducialref01_scaled_ok (n : Nat) (a : List Int) (d : Int) (r : List Int) (hr : fiducialref01_scaled n a d = some r) : FnOk Tryz.prog 161 [slT (iC .u32) a, .at (.int .u64 d)] (slT (iC .u32) r) := by
 unfold fiducialref01_scaled at hr
 refine FnOk.body fine Tryz.func161 (c := (Tryz.f161.body).getD .skip) rfl (s := mkS 40 0 [(0, sU32 a), (1, aU64 d)]) (by kernel_rfl) (rs := [.tmp 4]) rfl ?_
 unfold Tryz.f161
 simp only [Option.getD_some]
 refine .seq <| .rn fine [0, 1] (mkS 40 0 [(0, sU32 a), (1, aU64 d)]) [] <| .seq <| .rn fine [0, 1, 5] (mkS 40 0 [(0, sU32 a), (1, aU64 d), (5, .hs 0 0 0 1)]) [.own []] <| .seq <| .rn fine [0, 1, 5, 6] (mkS 40 0 [(0, sU32 a), (1, aU64 d), (5, .hs 0 0 0 1), (6, aU64 0)]) [.own []] <| .seq <| .seq <| .rn fine [0, 1, 5, 6, 7] (mkS 40 0 [(0, sU32 a), (1, aU64 d), (5, .hs 0 0 0 1), (6, aU64 0), (7, aI64 0)]) [.own []] <| .block ?_
 replace hr := bd hr; obtain ⟨o15, hL16, hr⟩ := hr
 refine .loopO (σ := fun z0 => match z0 with | (out_1, carry_2, i_3) => ⟨mkS 40 0 [(0, sU32 a), (1, aU64 d), (5, .hs 0 0 out_1.length 1), (6, aU64 carry_2), (7, aI64 i_3)], [.own (out_1.flatMap (iC .u32))]⟩) (Q := fun x st' => match (generalizing := false) o15 with | (out_8, carry_9) => x = .exit 0 ∧ Wk 0 st' ⟨mkS 40 0 [(5, .hs 0 0 out_8.length 1), (6, aU64 carry_9)], [.own (out_8.flatMap (iC .u32))]⟩) hL16 ((Wk.gc [0, 1, 5, 6, 7] [(0, false)] rfl (pKc trivial)).to (by kernel_rfl)) ?_ ?_
 ·clear hr
  rintro m ⟨out_1, carry_2, i_3⟩ hr
  show CQ _ _ _ _ _ ⟨_, _⟩
  refine .seq <| .seq <| .rn fine [0, 1, 5, 6, 7, 13] (mkS 40 0 [(0, sU32 a), (1, aU64 d), (5, .hs 0 0 out_1.length 1), (6, aU64 carry_2), (7, aI64 i_3), (13, aB (decide (i_3 < (a.length : Int))))]) [.own (out_1.flatMap (iC .u32))] ?_
  refine .cond (t := decide (i_3 < (a.length : Int))) (by kernel_rfl) (fun hb11 => ?_) (fun hb11 => ?_)
  ·replace hr := cd_t hb11 hr
   refine .skip <| .seq <| .block <| .seq ?_
   obtain ⟨hg12, hr⟩ := gd hr
   refine .r0 fine <| .mu 2 <| .p0 (v := .pp (a.flatMap (iC .u32)) (i_3.toNat * 1)) (Eq.trans (b := ORes.ofP (guardV (inR i_3 a.length) (.pp (a.flatMap (iC .u32)) (i_3.toNat * 1)))) (by kernel_rfl) (ofP_guard hg12)) <| .p0 (v := aU32 (gt a i_3)) (Eq.trans (b := ORes.ofP ((a.flatMap (iC .u32))[i_3.toNat * 1]?)) (by kernel_rfl) (ofP_some (flat_get (iC_len _) (inR_lt hg12) (by decide : 0 < 1) (by omega : i_3.toNat * 1 = i_3.toNat * 1 + 0) (by kernel_rfl)))) <| .mu 6 <| .done <| .n1 [0, 1, 5, 7, 8] (mkS 40 0 [(0, sU32 a), (1, aU64 d), (5, .hs 0 0 out_1.length 1), (7, aI64 i_3), (8, aU64 (wrapF .u64 ((wrapF .u64 ((wrapF .u64 (gt a i_3)) * d)) + carry_2)))]) [.own (out_1.flatMap (iC .u32))] <| .seq ?_
   obtain ⟨hg13, hr⟩ := gd hr
   obtain ⟨hg14, hr⟩ := gd hr
   refine .r0 fine <| .mu 5 <| .e0 (v := .hs 2 0 (out_1 ++ [wrapF .u32 ((wrapF .u64 ((wrapF .u64 ((wrapF .u64 (gt a i_3)) * d)) + carry_2)).tmod 1000000000)]).length 1) (ws := [(0, .dead), (2, .own ((out_1 ++ [wrapF .u32 ((wrapF .u64 ((wrapF .u64 ((wrapF .u64 (gt a i_3)) * d)) + carry_2)).tmod 1000000000)]).flatMap (iC .u32)))]) (Eq.trans (b := guardO (decide (0 + out_1.length * 1 ≤ (out_1.flatMap (iC .u32)).length) && decide ((out_1.length + 1) * 4 ≤ 140737488355328) && decide (out_1.length + 1 ≤ 4611686018427387904)) (some (.eff (.hs 2 0 (out_1.length + 1) 1) [(0, .dead), (2, .own (((out_1.flatMap (iC .u32)).drop 0).take (out_1.length * 1) ++ [aU32 (wrapF .u32 ((wrapF .u64 ((wrapF .u64 ((wrapF .u64 (gt a i_3)) * d)) + carry_2)).tmod 1000000000))]))]))) (by kernel_rfl) (app_own (l := out_1) (xs := [wrapF .u32 ((wrapF .u64 ((wrapF .u64 ((wrapF .u64 (gt a i_3)) * d)) + carry_2)).tmod 1000000000)]) (iC_len _) rfl rfl (by kernel_rfl) hg13 hg14)) <| .mu 1 <| .done <| .n1 [0, 1, 5, 7, 8] (mkS 40 0 [(0, sU32 a), (1, aU64 d), (5, .hs 2 0 (out_1 ++ [wrapF .u32 ((wrapF .u64 ((wrapF .u64 ((wrapF .u64 (gt a i_3)) * d)) + carry_2)).tmod 1000000000)]).length 1), (7, aI64 i_3), (8, aU64 (wrapF .u64 ((wrapF .u64 ((wrapF .u64 (gt a i_3)) * d)) + carry_2)))]) [.dead, .own [aU32 (wrapF .u32 ((wrapF .u64 ((wrapF .u64 ((wrapF .u64 (gt a i_3)) * d)) + carry_2)).tmod 1000000000))], .own ((out_1 ++ [wrapF .u32 ((wrapF .u64 ((wrapF .u64 ((wrapF .u64 (gt a i_3)) * d)) + carry_2)).tmod 1000000000)]).flatMap (iC .u32))] <| .ru fine <| .pop <| .ru fine ?_
   exact loopF_back (out_1 ++ [wrapF .u32 ((wrapF .u64 ((wrapF .u64 ((wrapF .u64 (gt a i_3)) * d)) + carry_2)).tmod 1000000000)], wrapF .u64 ((wrapF .u64 ((wrapF .u64 ((wrapF .u64 (gt a i_3)) * d)) + carry_2)).tdiv 1000000000), wrapF .i64 (i_3 + 1)) hr ((Wk.gc [0, 1, 5, 6, 7] [(2, false)] rfl (pKo (iC .u32) (iC_pure _) (out_1 ++ [wrapF .u32 ((wrapF .u64 ((wrapF .u64 ((wrapF .u64 (gt a i_3)) * d)) + carry_2)).tmod 1000000000)]) trivial)).to (by kernel_rfl))
  ·replace hr := cd_f hb11 hr
   refine .leave rfl ?_
   obtain rfl := Option.some.inj hr
   exact ⟨rfl, ((Wk.gc [5, 6] [(0, false)] rfl (pKo (iC .u32) (iC_pure _) out_1 trivial)).to (by kernel_rfl))⟩
 ·rcases o15 with ⟨out_8, carry_9⟩
  rintro x st' hq17
  clear hL16
  obtain ⟨rfl, hq17⟩ := hq17
  refine CQ_exit _ rfl <| .wk hq17 <| .seq ?_
  obtain ⟨hg18, hr⟩ := gd hr
  obtain ⟨hg19, hr⟩ := gd hr
  obtain ⟨v20, hc21, hr⟩ := bd hr
  refine .region fine (callOf_cons (callOk_ref (H := [.dead, .own [aU32 (wrapF .u32 carry_9)], .own ((out_8 ++ [wrapF .u32 carry_9]).flatMap (iC .u32))]) (args := [aB false, .hs 2 0 (out_8 ++ [wrapF .u32 carry_9]).length 1]) (l := [2]) (SnL.cons (Sn.pure rfl) (SnL.cons (Sn.hs rfl (.inl rfl) (SnC.pure (ids_flat (iC_pure _) _)) (fun h => flat_nil0 h)) SnL.nil)) (fiducialref01_made_ok n false (out_8 ++ [wrapF .u32 carry_9]) v20 hc21)) callOf_nil) <| .mu 4 <| .e0 (v := .hs 2 0 (out_8 ++ [wrapF .u32 carry_9]).length 1) (ws := [(0, .dead), (2, .own ((out_8 ++ [wrapF .u32 carry_9]).flatMap (iC .u32)))]) (Eq.trans (b := guardO (decide (0 + out_8.length * 1 ≤ (out_8.flatMap (iC .u32)).length) && decide ((out_8.length + 1) * 4 ≤ 140737488355328) && decide (out_8.length + 1 ≤ 4611686018427387904)) (some (.eff (.hs 2 0 (out_8.length + 1) 1) [(0, .dead), (2, .own (((out_8.flatMap (iC .u32)).drop 0).take (out_8.length * 1) ++ [aU32 (wrapF .u32 carry_9)]))]))) (by kernel_rfl) (app_own (l := out_8) (xs := [wrapF .u32 carry_9]) (iC_len _) rfl rfl (by kernel_rfl) hg18 hg19)) <| .c0 (by kernel_rfl) (callOf_at (by kernel_rfl)) <| .mu 2 <| .done <| .ret ?_
  obtain rfl := Option.some.inj hr
  exact FinQ.r1 [sU32 v20.Groups]

theorem fiducialref01_shifted_ok (n : Nat) (a : List Int) (d : Int) (r : List Int) (hr : fiducialref01_shifted n a d = some r) : FnOk Tryz.prog 162 [slT (iC .u32) a, .at (.int .u32 d)] (slT (iC .u32) r) := by
 unfold fiducialref01_shifted at hr
 refine FnOk.body fine Tryz.func162 (c := (Tryz.f162.body).getD .skip) rfl (s := mkS 11 0 [(0, sU32 a), (1, aU32 d)]) (by kernel_rfl) (rs := [.tmp 4]) rfl ?_
 unfold Tryz.f162
 simp only [Option.getD_some]
 refine .seq <| .rn fine [0, 1] (mkS 11 0 [(0, sU32 a), (1, aU32 d)]) [] <| .seq ?_
 obtain ⟨hg1, hr⟩ := gd hr
 obtain ⟨hg2, hr⟩ := gd hr
 obtain ⟨v3, hc4, hr⟩ := bd hr
 refine .region fine (callOf_cons (callOk_ref (H := [.dead, .own (([d] ++ a).flatMap (iC .u32))]) (args := [aB false, .hs 1 0 ([d] ++ a).length 1]) (l := [1]) (SnL.cons (Sn.pure rfl) (SnL.cons (Sn.hs rfl (.inl rfl) (SnC.pure (ids_flat (iC_pure _) _)) (fun h => flat_nil0 h)) SnL.nil)) (fiducialref01_made_ok n false ([d] ++ a) v3 hc4)) callOf_nil) <| .mu 3 <| .e0 (v := .hs 1 0 ([d] ++ a).length 1) (ws := [(0, .dead), (1, .own (([d] ++ a).flatMap (iC .u32)))]) (Eq.trans (b := appS (decide (((a.flatMap (iC .u32))).length = a.length * 1)) (a.flatMap (iC .u32)) a.length (fun z1 z2 => guardO (decide (0 + 1 * 1 ≤ ([d].flatMap (iC .u32)).length) && decide ((1 + z2) * 4 ≤ 140737488355328) && decide (1 + z2 ≤ 4611686018427387904)) (some (.eff (.hs 1 0 (1 + z2) 1) [(0, .dead), (1, .own ((([d].flatMap (iC .u32)).drop 0).take (1 * 1) ++ z1))])))) (by kernel_rfl) (appS_t (flat_lenB (iC_len _)) rfl (app_own (l := [d]) (xs := a) (iC_len _) rfl rfl rfl hg1 hg2))) <| .c0 (by kernel_rfl) (callOf_at (by kernel_rfl)) <| .mu 2 <| .done <| .ret ?_
 obtain rfl := Option.some.inj hr
 exact FinQ.r1 [sU32 v3.Groups]

theorem fiducialref01_group_inj {l : List Int} {i : Int} {l_ : List Int} {i_ : Int} (h : ([slT (iC .u32) l, .at (.int .i64 i)] : List AV) = [slT (iC .u32) l_, .at (.int .i64 i_)]) : l = l_ ∧ i = i_ := by
 simp only [List.cons.injEq, AV.agg.injEq, AV.at.injEq, Value.int.injEq, Value.bool.injEq, AV.fn.injEq, AV.pp.injEq, true_and, and_true, slT_inj_int] at h
 simp_all
theorem fiducialref01_group_ok (n : Nat) (l : List Int) (i : Int) (r : Int) (hr : fiducialref01_group n l i = some r) : FnOk Tryz.prog 136 [slT (iC .u32) l, .at (.int .i64 i)] (.at (.int .u64 r)) := by
 unfold fiducialref01_group at hr
 refine FnOk.body fine Tryz.func136 (c := (Tryz.f136.body).getD .skip) rfl (s := mkS 14 0 [(0, sU32 l), (1, aI64 i)]) (by kernel_rfl) (rs := [.tmp 4]) rfl ?_
 unfold Tryz.f136
 simp only [Option.getD_some]
 refine .seq <| .rn fine [0, 1] (mkS 14 0 [(0, sU32 l), (1, aI64 i)]) [] <| .seq <| .seq <| .rn fine [0, 1, 8] (mkS 14 0 [(0, sU32 l), (1, aI64 i), (8, aB (decide (i < (l.length : Int))))]) [] ?_
 refine .cond (t := decide (i < (l.length : Int))) (by kernel_rfl) (fun hb1 => ?_) (fun hb1 => ?_)
 ·replace hr := cd_t hb1 hr
  refine .seq ?_
  obtain ⟨hg2, hr⟩ := gd hr
  refine .r0 fine <| .mu 2 <| .p0 (v := .pp (l.flatMap (iC .u32)) (i.toNat * 1)) (Eq.trans (b := ORes.ofP (guardV (inR i l.length) (.pp (l.flatMap (iC .u32)) (i.toNat * 1)))) (by kernel_rfl) (ofP_guard hg2)) <| .p0 (v := aU32 (gt l i)) (Eq.trans (b := ORes.ofP ((l.flatMap (iC .u32))[i.toNat * 1]?)) (by kernel_rfl) (ofP_some (flat_get (iC_len _) (inR_lt hg2) (by decide : 0 < 1) (by omega : i.toNat * 1 = i.toNat * 1 + 0) (by kernel_rfl)))) <| .mu 2 <| .done <| .ret ?_
  obtain rfl := Option.some.inj hr
  exact FinQ.r1 [aU64 (wrapF .u64 (gt l i))]
 ·replace hr := cd_f hb1 hr
  refine .skip <| .seq <| .ru fine <| .ret ?_
  obtain rfl := Option.some.inj hr
  exact FinQ.r1 [aU64 0]

theorem fiducialref01_minus_ok (n : Nat) (a : List Int) (b : List Int) (r : List Int) (hr : fiducialref01_minus n a b = some r) : FnOk Tryz.prog 113 [slT (iC .u32) a, slT (iC .u32) b] (slT (iC .u32) r) := by
 unfold fiducialref01_minus at hr
 refine FnOk.body fine Tryz.func113 (c := (Tryz.f113.body).getD .skip) rfl (s := mkS 38 0 [(0, sU32 a), (1, sU32 b)]) (by kernel_rfl) (rs := [.tmp 4]) rfl ?_
 unfold Tryz.f113
 simp only [Option.getD_some]
 refine .seq <| .rn fine [0, 1] (mkS 38 0 [(0, sU32 a), (1, sU32 b)]) [] <| .seq <| .rn fine [0, 1, 5] (mkS 38 0 [(0, sU32 a), (1, sU32 b), (5, .hs 0 0 0 1)]) [.own []] <| .seq <| .rn fine [0, 1, 5, 6] (mkS 38 0 [(0, sU32 a), (1, sU32 b), (5, .hs 0 0 0 1), (6, aU64 0)]) [.own []] <| .seq <| .seq <| .rn fine [0, 1, 5, 6, 7] (mkS 38 0 [(0, sU32 a), (1, sU32 b), (5, .hs 0 0 0 1), (6, aU64 0), (7, aI64 0)]) [.own []] <| .block ?_
 replace hr := bd hr; obtain ⟨out_11, hL21, hr⟩ := hr
 refine .loopO (σ := fun z0 => match z0 with | (out_1, borrow_2, i_3) => ⟨mkS 38 0 [(0, sU32 a), (1, sU32 b), (5, .hs 0 0 out_1.length 1), (6, aU64 borrow_2), (7, aI64 i_3)], [.own (out_1.flatMap (iC .u32))]⟩) (Q := fun x st' => x = .exit 0 ∧ Wk 0 st' ⟨mkS 38 0 [(5, .hs 0 0 out_11.length 1)], [.own (out_11.flatMap (iC .u32))]⟩) hL21 ((Wk.gc [0, 1, 5, 6, 7] [(0, false)] rfl (pKc trivial)).to (by kernel_rfl)) ?_ ?_
 ·clear hr
  rintro m ⟨out_1, borrow_2, i_3⟩ hr
  show CQ _ _ _ _ _ ⟨_, _⟩
  refine .seq <| .seq <| .rn fine [0, 1, 5, 6, 7, 13] (mkS 38 0 [(0, sU32 a), (1, sU32 b), (5, .hs 0 0 out_1.length 1), (6, aU64 borrow_2), (7, aI64 i_3), (13, aB (decide (i_3 < (a.length : Int))))]) [.own (out_1.flatMap (iC .u32))] ?_
  refine .cond (t := decide (i_3 < (a.length : Int))) (by kernel_rfl) (fun hb13 => ?_) (fun hb13 => ?_)
  ·replace hr := cd_t hb13 hr
   refine .skip <| .seq <| .block <| .seq ?_
   obtain ⟨v14, hc15, hr⟩ := bd hr
   obtain ⟨v16, hc17, hr⟩ := bd hr
   refine .region fine (callOf_cons (callOk_val (H := [.own (out_1.flatMap (iC .u32))]) (l := []) rfl (SnL.cons (Sn.pure rfl) (SnL.cons (Sn.pure rfl) SnL.nil)) (fiducialref01_group_ok n a i_3 v14 hc15)) (callOf_cons (callOk_val (H := [.own (out_1.flatMap (iC .u32))]) (l := []) rfl (SnL.cons (Sn.pure rfl) (SnL.cons (Sn.pure rfl) SnL.nil)) (fiducialref01_group_ok n b i_3 v16 hc17)) callOf_nil)) <| .mu 2 <| .c0 (by kernel_rfl) (callOf_at (by kernel_rfl)) <| .mu 3 <| .c0 (by kernel_rfl) (callOf_skip (fun _ h => by obtain ⟨e0, e1⟩ := fiducialref01_group_inj h; rw [show v16 = v14 from Option.some.inj (hc17.symm.trans ((show fiducialref01_group n b i_3 = fiducialref01_group n a i_3 from (congr (congr rfl e0) e1)).trans hc15))]) (callOf_at (by kernel_rfl))) <| .mu 4 <| .done <| .n1 [0, 1, 5, 7, 8] (mkS 38 0 [(0, sU32 a), (1, sU32 b), (5, .hs 0 0 out_1.length 1), (7, aI64 i_3), (8, aU64 (wrapF .u64 ((wrapF .u64 ((wrapF .u64 (1000000000 + v14)) - v16)) - borrow_2)))]) [.own (out_1.flatMap (iC .u32))] <| .seq ?_
   obtain ⟨hg18, hr⟩ := gd hr
   obtain ⟨hg19, hr⟩ := gd hr
   refine .r0 fine <| .mu 5 <| .e0 (v := .hs 2 0 (out_1 ++ [wrapF .u32 ((wrapF .u64 ((wrapF .u64 ((wrapF .u64 (1000000000 + v14)) - v16)) - borrow_2)).tmod 1000000000)]).length 1) (ws := [(0, .dead), (2, .own ((out_1 ++ [wrapF .u32 ((wrapF .u64 ((wrapF .u64 ((wrapF .u64 (1000000000 + v14)) - v16)) - borrow_2)).tmod 1000000000)]).flatMap (iC .u32)))]) (Eq.trans (b := guardO (decide (0 + out_1.length * 1 ≤ (out_1.flatMap (iC .u32)).length) && decide ((out_1.length + 1) * 4 ≤ 140737488355328) && decide (out_1.length + 1 ≤ 4611686018427387904)) (some (.eff (.hs 2 0 (out_1.length + 1) 1) [(0, .dead), (2, .own (((out_1.flatMap (iC .u32)).drop 0).take (out_1.length * 1) ++ [aU32 (wrapF .u32 ((wrapF .u64 ((wrapF .u64 ((wrapF .u64 (1000000000 + v14)) - v16)) - borrow_2)).tmod 1000000000))]))]))) (by kernel_rfl) (app_own (l := out_1) (xs := [wrapF .u32 ((wrapF .u64 ((wrapF .u64 ((wrapF .u64 (1000000000 + v14)) - v16)) - borrow_2)).tmod 1000000000)]) (iC_len _) rfl rfl (by kernel_rfl) hg18 hg19)) <| .mu 1 <| .done <| .n1 [0, 1, 5, 7, 8] (mkS 38 0 [(0, sU32 a), (1, sU32 b), (5, .hs 2 0 (out_1 ++ [wrapF .u32 ((wrapF .u64 ((wrapF .u64 ((wrapF .u64 (1000000000 + v14)) - v16)) - borrow_2)).tmod 1000000000)]).length 1), (7, aI64 i_3), (8, aU64 (wrapF .u64 ((wrapF .u64 ((wrapF .u64 (1000000000 + v14)) - v16)) - borrow_2)))]) [.dead, .own [aU32 (wrapF .u32 ((wrapF .u64 ((wrapF .u64 ((wrapF .u64 (1000000000 + v14)) - v16)) - borrow_2)).tmod 1000000000))], .own ((out_1 ++ [wrapF .u32 ((wrapF .u64 ((wrapF .u64 ((wrapF .u64 (1000000000 + v14)) - v16)) - borrow_2)).tmod 1000000000)]).flatMap (iC .u32))] <| .ru fine <| .pop <| .ru fine ?_
   exact loopF_back (out_1 ++ [wrapF .u32 ((wrapF .u64 ((wrapF .u64 ((wrapF .u64 (1000000000 + v14)) - v16)) - borrow_2)).tmod 1000000000)], wrapF .u64 (1 - (wrapF .u64 ((wrapF .u64 ((wrapF .u64 ((wrapF .u64 (1000000000 + v14)) - v16)) - borrow_2)).tdiv 1000000000))), wrapF .i64 (i_3 + 1)) hr ((Wk.gc [0, 1, 5, 6, 7] [(2, false)] rfl (pKo (iC .u32) (iC_pure _) (out_1 ++ [wrapF .u32 ((wrapF .u64 ((wrapF .u64 ((wrapF .u64 (1000000000 + v14)) - v16)) - borrow_2)).tmod 1000000000)]) trivial)).to (by kernel_rfl))
  ·replace hr := cd_f hb13 hr
   refine .leave rfl ?_
   obtain rfl := Option.some.inj hr
   exact ⟨rfl, ((Wk.gc [5] [(0, false)] rfl (pKo (iC .u32) (iC_pure _) out_1 trivial)).to (by kernel_rfl))⟩
 ·rintro x st' hq22
  clear hL21
  obtain ⟨rfl, hq22⟩ := hq22
  refine CQ_exit _ rfl <| .wk hq22 <| .seq ?_
  obtain ⟨v23, hc24, hr⟩ := bd hr
  refine .g1 fine (callOk_ref (args := [aB false, .hs 0 0 out_11.length 1]) (l := [0]) (SnL.cons (Sn.pure rfl) (SnL.cons (Sn.hs rfl (.inl rfl) (SnC.pure (ids_flat (iC_pure _) _)) (fun h => flat_nil0 h)) SnL.nil)) (fiducialref01_made_ok n false out_11 v23 hc24)) <| .mu 1 <| .c0 (by kernel_rfl) (callOf_at (by kernel_rfl)) <| .mu 2 <| .done <| .ret ?_
  obtain rfl := Option.some.inj hr
  exact FinQ.r1 [sU32 v23.Groups]

theorem fiducialref01_parts_ok (n : Nat) (a : List Int) (b : List Int) (r : List Int × List Int) (hr : fiducialref01_parts n a b = some r) : FnOk Tryz.prog 144 [slT (iC .u32) a, slT (iC .u32) b] (.tup [slT (iC .u32) r.1, slT (iC .u32) r.2]) := by
 unfold fiducialref01_parts at hr
 refine FnOk.body fine Tryz.func144 (c := (Tryz.f144.body).getD .skip) rfl (s := mkS 130 0 [(0, sU32 a), (1, sU32 b)]) (by kernel_rfl) (rs := [.tmp 4, .tmp 5]) rfl ?_
 unfold Tryz.f144
 simp only [Option.getD_some]
 refine .seq <| .rn fine [0, 1] (mkS 130 0 [(0, sU32 a), (1, sU32 b)]) [] <| .seq <| .rn fine [0, 1, 6] (mkS 130 0 [(0, sU32 a), (1, sU32 b), (6, aI64 (b.length : Int))]) [] <| .seq <| .seq <| .rn fine [0, 1, 6, 19] (mkS 130 0 [(0, sU32 a), (1, sU32 b), (6, aI64 (b.length : Int)), (19, aB (((b.length : Int) : Int) == 1))]) [] ?_
 refine .cond (t := ((b.length : Int) : Int) == 1) (by kernel_rfl) (fun hb1 => ?_) (fun hb1 => ?_)
 ·replace hr := cd_t hb1 hr
  refine .seq ?_
  obtain ⟨hg2, hr⟩ := gd hr
  obtain ⟨v3, hc4, hr⟩ := bd hr
  refine .g1 fine (callOk_ref (l := []) (SnL.cons (Sn.pure rfl) (SnL.cons (Sn.pure rfl) SnL.nil)) (fiducialref01_short_ok n a (wrapF .u64 (gt b 0)) v3 hc4)) <| .mu 2 <| .p0 (v := .pp (b.flatMap (iC .u32)) ((0 : Int).toNat * 1)) (Eq.trans (b := ORes.ofP (guardV (inR 0 b.length) (.pp (b.flatMap (iC .u32)) ((0 : Int).toNat * 1)))) (by kernel_rfl) (ofP_guard hg2)) <| .p0 (v := aU32 (gt b 0)) (Eq.trans (b := ORes.ofP ((b.flatMap (iC .u32))[(0 : Int).toNat * 1]?)) (by kernel_rfl) (ofP_some (flat_get (iC_len _) (inR_lt hg2) (by decide : 0 < 1) (by omega : (0 : Int).toNat * 1 = (0 : Int).toNat * 1 + 0) (by kernel_rfl)))) <| .mu 1 <| .c0 (by kernel_rfl) (callOf_at (by kernel_rfl)) <| .mu 5 <| .done <| .n1 [7, 8] (mkS 130 0 [(7, sU32 v3.1), (8, aU64 v3.2)]) [] <| .seq ?_
  obtain ⟨v5, hc6, hr⟩ := bd hr
  refine .region fine (callOf_cons (callOk_ref (H := [.own [aU32 (wrapF .u32 v3.2)]]) (args := [aB false, .hs 0 0 1 1]) (l := [0]) (SnL.cons (Sn.pure rfl) (SnL.cons (Sn.hs rfl (.inl rfl) (SnC.cons (Sn.pure rfl) SnC.nil) (fun h => nomatch h)) SnL.nil)) (fiducialref01_made_ok n false [(wrapF .u32 v3.2)] v5 hc6)) callOf_nil) <| .mu 4 <| .c0 (by kernel_rfl) (callOf_at (by kernel_rfl)) <| .mu 3 <| .done <| .ret ?_
  obtain rfl := Option.some.inj hr
  exact FinQ.ret (vs := [sU32 v3.1, sU32 v5.Groups]) (by kernel_rfl) (Sn.tup (SnL.cons (Sn.pure rfl) (SnL.cons (Sn.pure rfl) SnL.nil)))
 ·replace hr := cd_f hb1 hr
  refine .skip <| .seq <| .seq ?_
  obtain ⟨v7, hc8, hr⟩ := bd hr
  refine .g1 fine (callOk_val (l := []) rfl (SnL.cons (Sn.pure rfl) (SnL.cons (Sn.pure rfl) SnL.nil)) (fiducialref01_size_ok n a b v7 hc8)) <| .mu 2 <| .c0 (by kernel_rfl) (callOf_at (by kernel_rfl)) <| .mu 1 <| .done <| .n1 [0, 1, 6, 38] (mkS 130 0 [(0, sU32 a), (1, sU32 b), (6, aI64 (b.length : Int)), (38, aB (decide (v7 < 0)))]) [] ?_
  refine .cond (t := decide (v7 < 0)) (by kernel_rfl) (fun hb9 => ?_) (fun hb9 => ?_)
  ·replace hr := cd_t hb9 hr
   refine .seq <| .rn fine [4, 5] (mkS 130 0 [(4, .hs 0 0 0 1), (5, sU32 a)]) [.own []] <| .ret ?_
   obtain rfl := Option.some.inj hr
   exact FinQ.ret (vs := [.hs 0 0 0 1, sU32 a]) (by kernel_rfl) (Sn.tup (SnL.cons (Sn.hs rfl (.inl rfl) SnC.nil (fun _ => rfl)) (SnL.cons (Sn.pure rfl) SnL.nil)))
  ·replace hr := cd_f hb9 hr
   refine .skip <| .seq ?_
   obtain ⟨hg10, hr⟩ := gd hr
   obtain ⟨hg11, hr⟩ := gd hr
   refine .r0 fine <| .mu 3 <| .p0 (v := .pp (b.flatMap (iC .u32)) ((wrapF .i64 ((b.length : Int) - 1)).toNat * 1)) (Eq.trans (b := ORes.ofP (guardV (inR (wrapF .i64 ((b.length : Int) - 1)) b.length) (.pp (b.flatMap (iC .u32)) ((wrapF .i64 ((b.length : Int) - 1)).toNat * 1)))) (by kernel_rfl) (ofP_guard hg10)) <| .p0 (v := aU32 (gt b (wrapF .i64 ((b.length : Int) - 1)))) (Eq.trans (b := ORes.ofP ((b.flatMap (iC .u32))[(wrapF .i64 ((b.length : Int) - 1)).toNat * 1]?)) (by kernel_rfl) (ofP_some (flat_get (iC_len _) (inR_lt hg10) (by decide : 0 < 1) (by omega : (wrapF .i64 ((b.length : Int) - 1)).toNat * 1 = (wrapF .i64 ((b.length : Int) - 1)).toNat * 1 + 0) (by kernel_rfl)))) <| .mu 2 <| .p0 (v := aU64 (wrapF .u64 ((1000000000 : Int).tdiv (wrapF .u64 ((wrapF .u64 (gt b (wrapF .i64 ((b.length : Int) - 1)))) + 1))))) (op_quo (x := 1000000000) (y := wrapF .u64 ((wrapF .u64 (gt b (wrapF .i64 ((b.length : Int) - 1)))) + 1)) (by kernel_rfl) (by kernel_rfl) hg11) <| .mu 1 <| .done <| .n1 [0, 1, 6, 9] (mkS 130 0 [(0, sU32 a), (1, sU32 b), (6, aI64 (b.length : Int)), (9, aU64 (wrapF .u64 ((1000000000 : Int).tdiv (wrapF .u64 ((wrapF .u64 (gt b (wrapF .i64 ((b.length : Int) - 1)))) + 1)))))]) [] <| .seq ?_
   obtain ⟨v12, hc13, hr⟩ := bd hr
   obtain ⟨v14, hc15, hr⟩ := bd hr
   refine .region fine (callOf_cons (callOk_ref (H := []) (l := []) (SnL.cons (Sn.pure rfl) (SnL.cons (Sn.pure rfl) SnL.nil)) (fiducialref01_scaled_ok n a (wrapF .u64 ((1000000000 : Int).tdiv (wrapF .u64 ((wrapF .u64 (gt b (wrapF .i64 ((b.length : Int) - 1)))) + 1)))) v12 hc13)) (callOf_cons (callOk_ref (H := []) (l := []) (SnL.cons (Sn.pure rfl) (SnL.cons (Sn.pure rfl) SnL.nil)) (fiducialref01_scaled_ok n b (wrapF .u64 ((1000000000 : Int).tdiv (wrapF .u64 ((wrapF .u64 (gt b (wrapF .i64 ((b.length : Int) - 1)))) + 1)))) v14 hc15)) callOf_nil)) <| .mu 2 <| .c0 (by kernel_rfl) (callOf_at (by kernel_rfl)) <| .mu 2 <| .c0 (by kernel_rfl) (callOf_skip (fun _ h => by obtain ⟨e0, e1⟩ := fiducialref01_scaled_inj h; rw [show v14 = v12 from Option.some.inj (hc15.symm.trans ((show fiducialref01_scaled n b (wrapF .u64 ((1000000000 : Int).tdiv (wrapF .u64 ((wrapF .u64 (gt b (wrapF .i64 ((b.length : Int) - 1)))) + 1)))) = fiducialref01_scaled n a (wrapF .u64 ((1000000000 : Int).tdiv (wrapF .u64 ((wrapF .u64 (gt b (wrapF .i64 ((b.length : Int) - 1)))) + 1)))) from (congr (congr rfl e0) e1)).trans hc13))]) (callOf_at (by kernel_rfl))) <| .mu 2 <| .done <| .n1 [0, 1, 6, 9] (mkS 130 0 [(0, sU32 v12), (1, sU32 v14), (6, aI64 (b.length : Int)), (9, aU64 (wrapF .u64 ((1000000000 : Int).tdiv (wrapF .u64 ((wrapF .u64 (gt b (wrapF .i64 ((b.length : Int) - 1)))) + 1)))))]) [] <| .seq ?_
   obtain ⟨hg16, hr⟩ := gd hr
   obtain ⟨v17, hc18, hr⟩ := bd hr
   refine .g1 fine (callOk_ref (l := []) (SnL.cons (Sn.pure rfl) (SnL.cons (Sn.pure rfl) SnL.nil)) (fiducialref01_made_ok n false ((v12.drop (wrapF .i64 ((wrapF .i64 ((v12.length : Int) - (b.length : Int))) + 1)).toNat).take ((v12.length : Int).toNat - (wrapF .i64 ((wrapF .i64 ((v12.length : Int) - (b.length : Int))) + 1)).toNat)) v17 hc18)) <| .mu 6 <| .p0 (v := sU32 ((v12.drop (wrapF .i64 ((wrapF .i64 ((v12.length : Int) - (b.length : Int))) + 1)).toNat).take ((v12.length : Int).toNat - (wrapF .i64 ((wrapF .i64 ((v12.length : Int) - (b.length : Int))) + 1)).toNat))) (Eq.trans (b := slO (inS (wrapF .i64 ((wrapF .i64 ((v12.length : Int) - (b.length : Int))) + 1)) (v12.length : Int) v12.length) (wrapF .i64 ((wrapF .i64 ((v12.length : Int) - (b.length : Int))) + 1)).toNat (v12.length : Int).toNat (fun z1 z2 => .sl true (((v12.flatMap (iC .u32)).drop (z1 * 1)).take ((z2 - z1) * 1)) (z2 - z1))) (by kernel_rfl) (slO_t hg16 (sub_sl (iC_len _) (inS_le hg16)))) <| .c0 (by kernel_rfl) (callOf_at (by kernel_rfl)) <| .mu 2 <| .done <| .n1 [0, 1, 6, 9, 10] (mkS 130 0 [(0, sU32 v12), (1, sU32 v14), (6, aI64 (b.length : Int)), (9, aU64 (wrapF .u64 ((1000000000 : Int).tdiv (wrapF .u64 ((wrapF .u64 (gt b (wrapF .i64 ((b.length : Int) - 1)))) + 1))))), (10, sU32 v17.Groups)]) [] <| .seq ?_
   obtain ⟨hg19, hr⟩ := gd hr
   obtain ⟨hg20, hr⟩ := gd hr
   obtain ⟨hg21, hr⟩ := gd hr
   refine .r0 fine <| .mu 5 <| .e0 (v := .hs 0 0 (List.replicate (wrapF .i64 ((wrapF .i64 ((v12.length : Int) - (b.length : Int))) + 1)).toNat (0 : Int)).length 1) (ws := [(0, .own ((List.replicate (wrapF .i64 ((wrapF .i64 ((v12.length : Int) - (b.length : Int))) + 1)).toNat (0 : Int)).flatMap (iC .u32)))]) (Eq.trans (b := guardO (decide (0 ≤ (wrapF .i64 ((wrapF .i64 ((v12.length : Int) - (b.length : Int))) + 1))) && decide ((wrapF .i64 ((wrapF .i64 ((v12.length : Int) - (b.length : Int))) + 1)) ≤ (wrapF .i64 ((wrapF .i64 ((v12.length : Int) - (b.length : Int))) + 1))) && decide ((4 : Int) * (wrapF .i64 ((wrapF .i64 ((v12.length : Int) - (b.length : Int))) + 1)) ≤ 281474976710656) && decide ((wrapF .i64 ((wrapF .i64 ((v12.length : Int) - (b.length : Int))) + 1)) ≤ 9223372036854775807) && true && true && true) (some (.eff (.hs 0 0 (wrapF .i64 ((wrapF .i64 ((v12.length : Int) - (b.length : Int))) + 1)).toNat 1) [(0, .own (zerosA [aU32 0] (wrapF .i64 ((wrapF .i64 ((v12.length : Int) - (b.length : Int))) + 1)).toNat))]))) (by kernel_rfl) (make_own (c := (iC .u32)) (z := 0) rfl hg19 hg20 hg21)) <| .mu 1 <| .done <| .n1 [0, 1, 6, 9, 10, 11] (mkS 130 0 [(0, sU32 v12), (1, sU32 v14), (6, aI64 (b.length : Int)), (9, aU64 (wrapF .u64 ((1000000000 : Int).tdiv (wrapF .u64 ((wrapF .u64 (gt b (wrapF .i64 ((b.length : Int) - 1)))) + 1))))), (10, sU32 v17.Groups), (11, .hs 0 0 (List.replicate (wrapF .i64 ((wrapF .i64 ((v12.length : Int) - (b.length : Int))) + 1)).toNat (0 : Int)).length 1)]) [.own ((List.replicate (wrapF .i64 ((wrapF .i64 ((v12.length : Int) - (b.length : Int))) + 1)).toNat (0 : Int)).flatMap (iC .u32))] <| .seq <| .seq <| .rn fine [0, 1, 6, 9, 10, 11, 12] (mkS 130 0 [(0, sU32 v12), (1, sU32 v14), (6, aI64 (b.length : Int)), (9, aU64 (wrapF .u64 ((1000000000 : Int).tdiv (wrapF .u64 ((wrapF .u64 (gt b (wrapF .i64 ((b.length : Int) - 1)))) + 1))))), (10, sU32 v17.Groups), (11, .hs 0 0 (List.replicate (wrapF .i64 ((wrapF .i64 ((v12.length : Int) - (b.length : Int))) + 1)).toNat (0 : Int)).length 1), (12, aI64 (wrapF .i64 ((v12.length : Int) - (b.length : Int))))]) [.own ((List.replicate (wrapF .i64 ((wrapF .i64 ((v12.length : Int) - (b.length : Int))) + 1)).toNat (0 : Int)).flatMap (iC .u32))] <| .block ?_
   replace hr := bd hr; obtain ⟨o94, hL95, hr⟩ := hr
   refine .loopO (σ := fun z0 => match z0 with | (rest_22, q_23, i_24) => ⟨mkS 130 0 [(0, sU32 v12), (1, sU32 v14), (6, aI64 (b.length : Int)), (9, aU64 (wrapF .u64 ((1000000000 : Int).tdiv (wrapF .u64 ((wrapF .u64 (gt b (wrapF .i64 ((b.length : Int) - 1)))) + 1))))), (10, sU32 rest_22), (11, .hs 0 0 q_23.length 1), (12, aI64 i_24)], [.own (q_23.flatMap (iC .u32))]⟩) (Q := fun x st' => match (generalizing := false) o94 with | (rest_58, q_59) => x = .exit 0 ∧ Wk 0 st' ⟨mkS 130 0 [(9, aU64 (wrapF .u64 ((1000000000 : Int).tdiv (wrapF .u64 ((wrapF .u64 (gt b (wrapF .i64 ((b.length : Int) - 1)))) + 1))))), (10, sU32 rest_58), (11, .hs 0 0 q_59.length 1)], [.own (q_59.flatMap (iC .u32))]⟩) hL95 ((Wk.gc [0, 1, 6, 9, 10, 11, 12] [(0, false)] rfl (pKo (iC .u32) (iC_pure _) (List.replicate (wrapF .i64 ((wrapF .i64 ((v12.length : Int) - (b.length : Int))) + 1)).toNat (0 : Int)) trivial)).to (by kernel_rfl)) ?_ ?_
   ·clear hr
    rintro m ⟨rest_22, q_23, i_24⟩ hr
    show CQ _ _ _ _ _ ⟨_, _⟩
    refine .seq <| .seq <| .rn fine [0, 1, 6, 9, 10, 11, 12, 75] (mkS 130 0 [(0, sU32 v12), (1, sU32 v14), (6, aI64 (b.length : Int)), (9, aU64 (wrapF .u64 ((1000000000 : Int).tdiv (wrapF .u64 ((wrapF .u64 (gt b (wrapF .i64 ((b.length : Int) - 1)))) + 1))))), (10, sU32 rest_22), (11, .hs 0 0 q_23.length 1), (12, aI64 i_24), (75, aB (decide (i_24 ≥ 0)))]) [.own (q_23.flatMap (iC .u32))] ?_
    refine .cond (t := decide (i_24 ≥ 0)) (by kernel_rfl) (fun hb61 => ?_) (fun hb61 => ?_)
    ·replace hr := cd_t hb61 hr
     refine .skip <| .seq <| .block <| .seq ?_
     obtain ⟨hg62, hr⟩ := gd hr
     obtain ⟨v63, hc64, hr⟩ := bd hr
     refine .g1 fine (callOk_ref (l := []) (SnL.cons (Sn.pure rfl) (SnL.cons (Sn.pure rfl) SnL.nil)) (fiducialref01_shifted_ok n rest_22 (gt v12 i_24) v63 hc64)) <| .mu 3 <| .p0 (v := .pp (v12.flatMap (iC .u32)) (i_24.toNat * 1)) (Eq.trans (b := ORes.ofP (guardV (inR i_24 v12.length) (.pp (v12.flatMap (iC .u32)) (i_24.toNat * 1)))) (by kernel_rfl) (ofP_guard hg62)) <| .p0 (v := aU32 (gt v12 i_24)) (Eq.trans (b := ORes.ofP ((v12.flatMap (iC .u32))[i_24.toNat * 1]?)) (by kernel_rfl) (ofP_some (flat_get (iC_len _) (inR_lt hg62) (by decide : 0 < 1) (by omega : i_24.toNat * 1 = i_24.toNat * 1 + 0) (by kernel_rfl)))) <| .c0 (by kernel_rfl) (callOf_at (by kernel_rfl)) <| .mu 1 <| .done <| .n1 [0, 1, 6, 9, 10, 11, 12] (mkS 130 0 [(0, sU32 v12), (1, sU32 v14), (6, aI64 (b.length : Int)), (9, aU64 (wrapF .u64 ((1000000000 : Int).tdiv (wrapF .u64 ((wrapF .u64 (gt b (wrapF .i64 ((b.length : Int) - 1)))) + 1))))), (10, sU32 v63), (11, .hs 0 0 q_23.length 1), (12, aI64 i_24)]) [.own (q_23.flatMap (iC .u32))] <| .seq ?_
     obtain ⟨v65, hc66, hr⟩ := bd hr
     obtain ⟨v67, hc68, hr⟩ := bd hr
     obtain ⟨hg69, hr⟩ := gd hr
     obtain ⟨hg70, hr⟩ := gd hr
     refine .regionT fine (callOf_cons (callOk_val (H := [.own (q_23.flatMap (iC .u32))]) (l := []) rfl (SnL.cons (Sn.pure rfl) (SnL.cons (Sn.pure rfl) SnL.nil)) (fiducialref01_group_ok n v63 (b.length : Int) v65 hc66)) (callOf_cons (callOk_val (H := [.own (q_23.flatMap (iC .u32))]) (l := []) rfl (SnL.cons (Sn.pure rfl) (SnL.cons (Sn.pure rfl) SnL.nil)) (fiducialref01_group_ok n v63 (wrapF .i64 ((b.length : Int) - 1)) v67 hc68)) callOf_nil)) <| .mu 2 <| .cal (by kernel_rfl) (by kernel_rfl) (callOf_at (by kernel_rfl)) (by kernel_rfl) <| .mu 4 <| .cal (by kernel_rfl) (by kernel_rfl) (callOf_skip (fun _ h => by obtain ⟨e0, e1⟩ := fiducialref01_group_inj h; rw [show v67 = v65 from Option.some.inj (hc68.symm.trans ((show fiducialref01_group n v63 (wrapF .i64 ((b.length : Int) - 1)) = fiducialref01_group n v63 (b.length : Int) from (congr (congr rfl e0) e1)).trans hc66))]) (callOf_at (by kernel_rfl))) (by kernel_rfl) <| .mu 4 <| .pure (v := .pp (v14.flatMap (iC .u32)) ((wrapF .i64 ((b.length : Int) - 1)).toNat * 1)) (by kernel_rfl) (Eq.trans (b := ORes.ofP (guardV (inR (wrapF .i64 ((b.length : Int) - 1)) v14.length) (.pp (v14.flatMap (iC .u32)) ((wrapF .i64 ((b.length : Int) - 1)).toNat * 1)))) (by kernel_rfl) (ofP_guard hg69)) (by kernel_rfl) <| .pure (v := aU32 (gt v14 (wrapF .i64 ((b.length : Int) - 1)))) (by kernel_rfl) (Eq.trans (b := ORes.ofP ((v14.flatMap (iC .u32))[(wrapF .i64 ((b.length : Int) - 1)).toNat * 1]?)) (by kernel_rfl) (ofP_some (flat_get (iC_len _) (inR_lt hg69) (by decide : 0 < 1) (by omega : (wrapF .i64 ((b.length : Int) - 1)).toNat * 1 = (wrapF .i64 ((b.length : Int) - 1)).toNat * 1 + 0) (by kernel_rfl)))) (by kernel_rfl) <| .mu 2 <| .pure (v := aU64 (wrapF .u64 ((wrapF .u64 ((wrapF .u64 (v65 * 1000000000)) + v67)).tdiv (wrapF .u64 ((wrapF .u64 (gt v14 (wrapF .i64 ((b.length : Int) - 1)))) + 1))))) (by kernel_rfl) (op_quo (x := wrapF .u64 ((wrapF .u64 (v65 * 1000000000)) + v67)) (y := wrapF .u64 ((wrapF .u64 (gt v14 (wrapF .i64 ((b.length : Int) - 1)))) + 1)) (by kernel_rfl) (by kernel_rfl) hg70) (by kernel_rfl) <| .mu 1 ?_
     refine .done ⟨by kernel_rfl, ?_⟩
     refine .n1 [0, 1, 6, 9, 10, 11, 12, 13] (mkS 130 0 [(0, sU32 v12), (1, sU32 v14), (6, aI64 (b.length : Int)), (9, aU64 (wrapF .u64 ((1000000000 : Int).tdiv (wrapF .u64 ((wrapF .u64 (gt b (wrapF .i64 ((b.length : Int) - 1)))) + 1))))), (10, sU32 v63), (11, .hs 0 0 q_23.length 1), (12, aI64 i_24), (13, aU64 (wrapF .u64 ((wrapF .u64 ((wrapF .u64 (v65 * 1000000000)) + v67)).tdiv (wrapF .u64 ((wrapF .u64 (gt v14 (wrapF .i64 ((b.length : Int) - 1)))) + 1)))))]) [.own (q_23.flatMap (iC .u32))] <| .seq ?_
     obtain ⟨v71, hc72, hr⟩ := bd hr
     obtain ⟨v73, hc74, hr⟩ := bd hr
     refine .region fine (callOf_cons (callOk_ref (H := [.own (q_23.flatMap (iC .u32))]) (l := []) (SnL.cons (Sn.pure rfl) (SnL.cons (Sn.pure rfl) SnL.nil)) (fiducialref01_scaled_ok n v14 (wrapF .u64 ((wrapF .u64 ((wrapF .u64 (v65 * 1000000000)) + v67)).tdiv (wrapF .u64 ((wrapF .u64 (gt v14 (wrapF .i64 ((b.length : Int) - 1)))) + 1)))) v71 hc72)) (callOf_cons (callOk_ref (H := [.own (q_23.flatMap (iC .u32))]) (l := []) (SnL.cons (Sn.pure rfl) (SnL.cons (Sn.pure rfl) SnL.nil)) (fiducialref01_minus_ok n v63 v71 v73 hc74)) callOf_nil)) <| .mu 3 <| .c0 (by kernel_rfl) (callOf_at (by kernel_rfl)) <| .c0 (by kernel_rfl) (callOf_skip (fun h _ => absurd (show (113 : Nat) = 161 from h) (by decide)) (callOf_at (by kernel_rfl))) <| .mu 1 <| .done <| .n1 [0, 1, 6, 9, 10, 11, 12, 13] (mkS 130 0 [(0, sU32 v12), (1, sU32 v14), (6, aI64 (b.length : Int)), (9, aU64 (wrapF .u64 ((1000000000 : Int).tdiv (wrapF .u64 ((wrapF .u64 (gt b (wrapF .i64 ((b.length : Int) - 1)))) + 1))))), (10, sU32 v73), (11, .hs 0 0 q_23.length 1), (12, aI64 i_24), (13, aU64 (wrapF .u64 ((wrapF .u64 ((wrapF .u64 (v65 * 1000000000)) + v67)).tdiv (wrapF .u64 ((wrapF .u64 (gt v14 (wrapF .i64 ((b.length : Int) - 1)))) + 1)))))]) [.own (q_23.flatMap (iC .u32))] <| .seq <| .block ?_
     replace hr := bd hr; obtain ⟨o90, hL91, hr⟩ := hr
     refine .loopO (σ := fun z0 => match z0 with | (rest_75, guess_76) => ⟨mkS 130 0 [(0, sU32 v12), (1, sU32 v14), (6, aI64 (b.length : Int)), (9, aU64 (wrapF .u64 ((1000000000 : Int).tdiv (wrapF .u64 ((wrapF .u64 (gt b (wrapF .i64 ((b.length : Int) - 1)))) + 1))))), (10, sU32 rest_75), (11, .hs 0 0 q_23.length 1), (12, aI64 i_24), (13, aU64 guess_76)], [.own (q_23.flatMap (iC .u32))]⟩) (Q := fun x st' => match (generalizing := false) o90 with | (rest_82, guess_83) => x = .exit 2 ∧ Wk 0 st' ⟨mkS 130 0 [(0, sU32 v12), (1, sU32 v14), (6, aI64 (b.length : Int)), (9, aU64 (wrapF .u64 ((1000000000 : Int).tdiv (wrapF .u64 ((wrapF .u64 (gt b (wrapF .i64 ((b.length : Int) - 1)))) + 1))))), (10, sU32 rest_82), (11, .hs 0 0 q_23.length 1), (12, aI64 i_24), (13, aU64 guess_83)], [.own (q_23.flatMap (iC .u32))]⟩) hL91 ((Wk.gc [0, 1, 6, 9, 10, 11, 12, 13] [(0, false)] rfl (pKo (iC .u32) (iC_pure _) q_23 trivial)).to (by kernel_rfl)) ?_ ?_
     ·clear hr
      rintro m ⟨rest_75, guess_76⟩ hr
      show CQ _ _ _ _ _ ⟨_, _⟩
      refine .seq <| .seq ?_
      obtain ⟨v85, hc86, hr⟩ := bd hr
      refine .g1 fine (callOk_val (l := []) rfl (SnL.cons (Sn.pure rfl) (SnL.cons (Sn.pure rfl) SnL.nil)) (fiducialref01_size_ok n rest_75 v14 v85 hc86)) <| .mu 2 <| .c0 (by kernel_rfl) (callOf_at (by kernel_rfl)) <| .mu 1 <| .done <| .n1 [0, 1, 6, 9, 10, 11, 12, 13, 109] (mkS 130 0 [(0, sU32 v12), (1, sU32 v14), (6, aI64 (b.length : Int)), (9, aU64 (wrapF .u64 ((1000000000 : Int).tdiv (wrapF .u64 ((wrapF .u64 (gt b (wrapF .i64 ((b.length : Int) - 1)))) + 1))))), (10, sU32 rest_75), (11, .hs 0 0 q_23.length 1), (12, aI64 i_24), (13, aU64 guess_76), (109, aB (decide (v85 ≥ 0)))]) [.own (q_23.flatMap (iC .u32))] ?_
      refine .cond (t := decide (v85 ≥ 0)) (by kernel_rfl) (fun hb87 => ?_) (fun hb87 => ?_)
      ·replace hr := cd_t hb87 hr
       refine .skip <| .block <| .seq ?_
       obtain ⟨v88, hc89, hr⟩ := bd hr
       refine .g1 fine (callOk_ref (l := []) (SnL.cons (Sn.pure rfl) (SnL.cons (Sn.pure rfl) SnL.nil)) (fiducialref01_minus_ok n rest_75 v14 v88 hc89)) <| .mu 2 <| .c0 (by kernel_rfl) (callOf_at (by kernel_rfl)) <| .mu 1 <| .done <| .n1 [0, 1, 6, 9, 10, 11, 12, 13] (mkS 130 0 [(0, sU32 v12), (1, sU32 v14), (6, aI64 (b.length : Int)), (9, aU64 (wrapF .u64 ((1000000000 : Int).tdiv (wrapF .u64 ((wrapF .u64 (gt b (wrapF .i64 ((b.length : Int) - 1)))) + 1))))), (10, sU32 v88), (11, .hs 0 0 q_23.length 1), (12, aI64 i_24), (13, aU64 guess_76)]) [.own (q_23.flatMap (iC .u32))] <| .ru fine <| .pop ?_
       exact loopF_back (v88, wrapF .u64 (guess_76 + 1)) hr ((Wk.gc [0, 1, 6, 9, 10, 11, 12, 13] [(0, false)] rfl (pKo (iC .u32) (iC_pure _) q_23 trivial)).to (by kernel_rfl))
      ·replace hr := cd_f hb87 hr
       refine .leave rfl ?_
       obtain rfl := Option.some.inj hr
       exact ⟨rfl, ((Wk.gc [0, 1, 6, 9, 10, 11, 12, 13] [(0, false)] rfl (pKo (iC .u32) (iC_pure _) q_23 trivial)).to (by kernel_rfl))⟩
     ·rcases o90 with ⟨rest_82, guess_83⟩
      rintro x st' hq92
      clear hL91
      obtain ⟨rfl, hq92⟩ := hq92
      refine CQ_exit _ rfl <| .wk hq92 ?_
      obtain ⟨hg93, hr⟩ := gd hr
      refine .r0 fine <| .mu 4 <| .p0 (v := .hp 0 (0 + i_24.toNat * 1)) (Eq.trans (b := ORes.ofP (guardV (inR i_24 q_23.length) (.hp 0 (0 + i_24.toNat * 1)))) (by kernel_rfl) (ofP_guard hg93)) <| .e0 (v := .unk) (ws := [(0, .own ((q_23.set i_24.toNat (wrapF .u32 guess_83)).flatMap (iC .u32)))]) (Eq.trans (b := stO (decide ((0 + i_24.toNat * 1) + 1 ≤ (q_23.flatMap (iC .u32)).length) && true) [(0, .own (setCells (q_23.flatMap (iC .u32)) (0 + i_24.toNat * 1) [aU32 (wrapF .u32 guess_83)]))]) (by kernel_rfl) (stO_t (and_t (flat_fits (iC_len _) (inR_lt hg93) (Nat.le_of_ble_eq_true rfl) (by omega : 0 + i_24.toNat * 1 = i_24.toNat * 1 + 0))) (congrArg Blk.own (flat_set (iC_len _) (inR_lt hg93) (Nat.le_of_ble_eq_true rfl) (by omega : 0 + i_24.toNat * 1 = i_24.toNat * 1 + 0) (by kernel_rfl))))) <| .done <| .pop <| .ru fine ?_
      exact loopF_back (rest_82, q_23.set i_24.toNat (wrapF .u32 guess_83), wrapF .i64 (i_24 - 1)) hr ((Wk.relen 11 (b := 0) (es := 1) (len := q_23.length) (q_23.set i_24.toNat (wrapF .u32 guess_83)).length (by kernel_rfl) (by simp)).trans ((Wk.gc [0, 1, 6, 9, 10, 11, 12] [(0, false)] rfl (pKo (iC .u32) (iC_pure _) (q_23.set i_24.toNat (wrapF .u32 guess_83)) trivial)).to (by kernel_rfl)))
    ·replace hr := cd_f hb61 hr
     refine .leave rfl ?_
     obtain rfl := Option.some.inj hr
     exact ⟨rfl, ((Wk.gc [9, 10, 11] [(0, false)] rfl (pKo (iC .u32) (iC_pure _) q_23 trivial)).to (by kernel_rfl))⟩
   ·rcases o94 with ⟨rest_58, q_59⟩
    rintro x st' hq96
    clear hL95
    obtain ⟨rfl, hq96⟩ := hq96
    refine CQ_exit _ rfl <| .wk hq96 <| .seq ?_
    obtain ⟨v97, hc98, hr⟩ := bd hr
    refine .g1 fine (callOk_ref (l := []) (SnL.cons (Sn.pure rfl) (SnL.cons (Sn.pure rfl) SnL.nil)) (fiducialref01_short_ok n rest_58 (wrapF .u64 ((1000000000 : Int).tdiv (wrapF .u64 ((wrapF .u64 (gt b (wrapF .i64 ((b.length : Int) - 1)))) + 1)))) v97 hc98)) <| .mu 2 <| .c0 (by kernel_rfl) (callOf_at (by kernel_rfl)) <| .mu 5 <| .done <| .n1 [11, 14] (mkS 130 0 [(11, .hs 0 0 q_59.length 1), (14, sU32 v97.1)]) [.own (q_59.flatMap (iC .u32))] <| .seq ?_
    obtain ⟨v99, hc100, hr⟩ := bd hr
    refine .g1 fine (callOk_ref (args := [aB false, .hs 0 0 q_59.length 1]) (l := [0]) (SnL.cons (Sn.pure rfl) (SnL.cons (Sn.hs rfl (.inl rfl) (SnC.pure (ids_flat (iC_pure _) _)) (fun h => flat_nil0 h)) SnL.nil)) (fiducialref01_made_ok n false q_59 v99 hc100)) <| .mu 1 <| .c0 (by kernel_rfl) (callOf_at (by kernel_rfl)) <| .mu 4 <| .done <| .ret ?_
    obtain rfl := Option.some.inj hr
    exact FinQ.ret (vs := [sU32 v99.Groups, sU32 v97.1]) (by kernel_rfl) (Sn.tup (SnL.cons (Sn.pure rfl) (SnL.cons (Sn.pure rfl) SnL.nil)))

theorem fiducialref01_pair_inj {a : List Int} {a_ : List Int} (h : ([slT (iC .u32) a] : List AV) = [slT (iC .u32) a_]) : a = a_ := by
 simp only [List.cons.injEq, AV.agg.injEq, AV.at.injEq, Value.int.injEq, Value.bool.injEq, AV.fn.injEq, AV.pp.injEq, true_and, and_true, slT_inj_int] at h
 simp_all
theorem fiducialref01_pair_ok (n : Nat) (a : List Int) (r : Int) (hr : fiducialref01_pair n a = some r) : FnOk Tryz.prog 145 [slT (iC .u32) a] (.at (.int .u64 r)) := by
 unfold fiducialref01_pair at hr
 refine FnOk.body fine Tryz.func145 (c := (Tryz.f145.body).getD .skip) rfl (s := mkS 9 0 [(0, sU32 a)]) (by kernel_rfl) (rs := [.tmp 2]) rfl ?_
 unfold Tryz.f145
 simp only [Option.getD_some]
 refine .seq <| .rn fine [0] (mkS 9 0 [(0, sU32 a)]) [] <| .seq ?_
 obtain ⟨v1, hc2, hr⟩ := bd hr
 obtain ⟨v3, hc4, hr⟩ := bd hr
 refine .region fine (callOf_cons (callOk_val (H := []) (l := []) rfl (SnL.cons (Sn.pure rfl) (SnL.cons (Sn.pure rfl) SnL.nil)) (fiducialref01_group_ok n a 1 v1 hc2)) (callOf_cons (callOk_val (H := []) (l := []) rfl (SnL.cons (Sn.pure rfl) (SnL.cons (Sn.pure rfl) SnL.nil)) (fiducialref01_group_ok n a 0 v3 hc4)) callOf_nil)) <| .mu 1 <| .c0 (by kernel_rfl) (callOf_at (by kernel_rfl)) <| .mu 2 <| .c0 (by kernel_rfl) (callOf_skip (fun _ h => by obtain ⟨e0, e1⟩ := fiducialref01_group_inj h; rw [show v3 = v1 from Option.some.inj (hc4.symm.trans ((show fiducialref01_group n a 0 = fiducialref01_group n a 1 from (congr (congr rfl e0) e1)).trans hc2))]) (callOf_at (by kernel_rfl))) <| .mu 2 <| .done <| .ret ?_
 obtain rfl := Option.some.inj hr
 exact FinQ.r1 [aU64 (wrapF .u64 ((wrapF .u64 (v1 * 1000000000)) + v3))]

theorem fiducialref01_Gcd_ok (n : Nat) (x' : api_Int) (y : api_Int) (r : api_Int) (hr : fiducialref01_Gcd n x' y = some r) : FnOk Tryz.prog 123 [.agg [.at (.bool x'.Negative), slT (iC .u32) x'.Groups], .agg [.at (.bool y.Negative), slT (iC .u32) y.Groups]] (.agg [.at (.bool r.Negative), slT (iC .u32) r.Groups]) := by
 unfold fiducialref01_Gcd at hr
 refine FnOk.body fine Tryz.func123 (c := (Tryz.f123.body).getD .skip) rfl (s := mkS 61 0 [(0, .agg (api_Int.c x')), (1, .agg (api_Int.c y))]) (by kernel_rfl) (rs := [.cell 4 35]) rfl ?_
 unfold Tryz.f123
 simp only [Option.getD_some]
 refine .seq <| .rn fine [2, 3, 4] (mkS 61 0 [(2, .hp 0 0), (3, .hp 1 0), (4, .hp 2 0)]) [.own (api_Int.c x'), .own (api_Int.c y), .own [aB false, .at (.slice none 0 0)]] <| .seq ?_
 obtain ⟨v1, hc2, hr⟩ := bd hr
 obtain ⟨v3, hc4, hr⟩ := bd hr
 refine .regionT fine (callOf_cons (callOk_ref (H := [.own (api_Int.c x'), .own (api_Int.c y), .own [aB false, .at (.slice none 0 0)]]) (l := []) (SnL.cons (Sn.pure rfl) SnL.nil) (fiducialref01_Value_ok n x' v1 hc2)) (callOf_cons (callOk_ref (H := [.own (api_Int.c x'), .own (api_Int.c y), .own [aB false, .at (.slice none 0 0)]]) (l := []) (SnL.cons (Sn.pure rfl) SnL.nil) (fiducialref01_Value_ok n y v3 hc4)) callOf_nil)) <| .mu 1 <| .cal (by kernel_rfl) (by kernel_rfl) (callOf_at (by kernel_rfl)) (by kernel_rfl) <| .mu 2 <| .cal (by kernel_rfl) (by kernel_rfl) (callOf_skip (fun _ h => by obtain e0 := fiducialref01_Value_inj h; rw [show v3 = v1 from Option.some.inj (hc4.symm.trans ((show fiducialref01_Value n y = fiducialref01_Value n x' from (congr rfl e0)).trans hc2))]) (callOf_at (by kernel_rfl))) (by kernel_rfl) <| .mu 3 ?_
 refine .done ⟨by kernel_rfl, ?_⟩
 refine .n1 [4, 5, 6] (mkS 61 0 [(4, .hp 2 0), (5, sU32 v1.Groups), (6, sU32 v3.Groups)]) [.own (api_Int.c x'), .own (api_Int.c y), .own [aB false, .at (.slice none 0 0)]] <| .seq <| .block ?_
 replace hr := bd hr; obtain ⟨o24, hL25, hr⟩ := hr
 refine .loopO (σ := fun z0 => match z0 with | (a_5, b_6) => ⟨mkS 61 0 [(4, .hp 0 0), (5, sU32 a_5), (6, sU32 b_6)], [.own [aB false, .at (.slice none 0 0)]]⟩) (Q := fun x st' => match (generalizing := false) o24 with | (a_14, b_15) => x = .exit 0 ∧ Wk 0 st' ⟨mkS 61 0 [(4, .hp 0 0), (5, sU32 a_14), (6, sU32 b_15)], [.own [aB false, .at (.slice none 0 0)]]⟩) hL25 ((Wk.gc [4, 5, 6] [(2, true)] rfl trivial).to (by kernel_rfl)) ?_ ?_
 ·clear hr
  rintro m ⟨a_5, b_6⟩ hr
  show CQ _ _ _ _ _ ⟨_, _⟩
  refine .seq <| .seq ?_
  rcases Bool.eq_false_or_eq_true (decide ((b_6.length : Int) > 0)) with hb17 | hb17
  ·replace hr := cd_t hb17 hr
   rcases Bool.eq_false_or_eq_true (decide ((a_5.length : Int) > 2)) with hb18 | hb18
   ·replace hr := cd_t hb18 hr
    refine .r0 fine <| .mu 2 <| .p0 (v := aB true) (Eq.trans (b := some (.pure (aB (decide ((b_6.length : Int) > 0))))) (by kernel_rfl) (by rw [hb17])) <| .mu 3 <| .pure (v := aB true) (by kernel_rfl) (Eq.trans (b := some (.pure (aB (decide ((a_5.length : Int) > 2))))) (by kernel_rfl) (by rw [hb18])) <| .mu 6 <| .done <| .n1 [4, 5, 6, 29] (mkS 61 0 [(4, .hp 0 0), (5, sU32 a_5), (6, sU32 b_6), (29, aB true)]) [.own [aB false, .at (.slice none 0 0)]] <| .cT (by kernel_rfl) <| .skip <| .block <| .seq ?_
    obtain ⟨v19, hc20, hr⟩ := bd hr
    refine .g1 fine (callOk_ref (l := []) (SnL.cons (Sn.pure rfl) (SnL.cons (Sn.pure rfl) SnL.nil)) (fiducialref01_parts_ok n a_5 b_6 v19 hc20)) <| .mu 2 <| .c0 (by kernel_rfl) (callOf_at (by kernel_rfl)) <| .mu 5 <| .done <| .n1 [4, 6, 8] (mkS 61 0 [(4, .hp 0 0), (6, sU32 b_6), (8, sU32 v19.2)]) [.own [aB false, .at (.slice none 0 0)]] <| .ru fine <| .pop ?_
    exact loopF_back (b_6, v19.2) hr ((Wk.gc [4, 5, 6] [(0, true)] rfl trivial).to (by kernel_rfl))
   ·replace hr := cd_f hb18 hr
    refine .r0 fine <| .mu 2 <| .p0 (v := aB true) (Eq.trans (b := some (.pure (aB (decide ((b_6.length : Int) > 0))))) (by kernel_rfl) (by rw [hb17])) <| .mu 3 <| .pure (v := aB false) (by kernel_rfl) (Eq.trans (b := some (.pure (aB (decide ((a_5.length : Int) > 2))))) (by kernel_rfl) (by rw [hb18])) <| .mu 6 <| .done <| .n1 [4, 5, 6, 29] (mkS 61 0 [(4, .hp 0 0), (5, sU32 a_5), (6, sU32 b_6), (29, aB (decide ((b_6.length : Int) > 2)))]) [.own [aB false, .at (.slice none 0 0)]] ?_
    refine .cond (t := decide ((b_6.length : Int) > 2)) (by kernel_rfl) (fun hb21 => ?_) (fun hb21 => ?_)
    ·replace hr := cd_t hb21 hr
     refine .skip <| .block <| .seq ?_
     obtain ⟨v22, hc23, hr⟩ := bd hr
     refine .g1 fine (callOk_ref (l := []) (SnL.cons (Sn.pure rfl) (SnL.cons (Sn.pure rfl) SnL.nil)) (fiducialref01_parts_ok n a_5 b_6 v22 hc23)) <| .mu 2 <| .c0 (by kernel_rfl) (callOf_at (by kernel_rfl)) <| .mu 5 <| .done <| .n1 [4, 6, 8] (mkS 61 0 [(4, .hp 0 0), (6, sU32 b_6), (8, sU32 v22.2)]) [.own [aB false, .at (.slice none 0 0)]] <| .ru fine <| .pop ?_
     exact loopF_back (b_6, v22.2) hr ((Wk.gc [4, 5, 6] [(0, true)] rfl trivial).to (by kernel_rfl))
    ·replace hr := cd_f hb21 hr
     refine .leave rfl ?_
     obtain rfl := Option.some.inj hr
     exact ⟨rfl, ((Wk.gc [4, 5, 6] [(0, true)] rfl trivial).to (by kernel_rfl))⟩
  ·replace hr := cd_f hb17 hr
   refine .r0 fine <| .mu 2 <| .p0 (v := aB false) (Eq.trans (b := some (.pure (aB (decide ((b_6.length : Int) > 0))))) (by kernel_rfl) (by rw [hb17])) <| .mu 10 <| .done <| .n1 [4, 5, 6, 29] (mkS 61 0 [(4, .hp 0 0), (5, sU32 a_5), (6, sU32 b_6), (29, aB false)]) [.own [aB false, .at (.slice none 0 0)]] <| .cF (by kernel_rfl) <| .leave rfl ?_
   obtain rfl := Option.some.inj hr
   exact ⟨rfl, ((Wk.gc [4, 5, 6] [(0, true)] rfl trivial).to (by kernel_rfl))⟩
 ·rcases o24 with ⟨a_14, b_15⟩
  rintro x st' hq26
  clear hL25
  obtain ⟨rfl, hq26⟩ := hq26
  refine CQ_exit _ rfl <| .wk hq26 <| .seq <| .seq <| .rn fine [4, 5, 6, 40] (mkS 61 0 [(4, .hp 0 0), (5, sU32 a_14), (6, sU32 b_15), (40, aB (((b_15.length : Int) : Int) == 0))]) [.own [aB false, .at (.slice none 0 0)]] ?_
  refine .cond (t := ((b_15.length : Int) : Int) == 0) (by kernel_rfl) (fun hb27 => ?_) (fun hb27 => ?_)
  ·replace hr := cd_t hb27 hr
   refine .seq ?_
   obtain ⟨v28, hc29, hr⟩ := bd hr
   refine .g1 fine (callOk_ref (l := []) (SnL.cons (Sn.pure rfl) (SnL.cons (Sn.pure rfl) SnL.nil)) (fiducialref01_made_ok n false a_14 v28 hc29)) <| .mu 1 <| .c0 (by kernel_rfl) (callOf_at (by kernel_rfl)) <| .mu 1 <| .done <| .n1 [4] (mkS 61 0 [(4, .hp 0 0)]) [.own (api_Int.c v28)] <| .ret ?_
   obtain rfl := Option.some.inj hr
   exact FinQ.r1 [.agg (api_Int.c v28)]
  ·replace hr := cd_f hb27 hr
   refine .skip <| .seq ?_
   obtain ⟨v30, hc31, hr⟩ := bd hr
   obtain ⟨v32, hc33, hr⟩ := bd hr
   refine .region fine (callOf_cons (callOk_val (H := [.own [aB false, .at (.slice none 0 0)]]) (l := []) rfl (SnL.cons (Sn.pure rfl) SnL.nil) (fiducialref01_pair_ok n a_14 v30 hc31)) (callOf_cons (callOk_val (H := [.own [aB false, .at (.slice none 0 0)]]) (l := []) rfl (SnL.cons (Sn.pure rfl) SnL.nil) (fiducialref01_pair_ok n b_15 v32 hc33)) callOf_nil)) <| .mu 1 <| .c0 (by kernel_rfl) (callOf_at (by kernel_rfl)) <| .mu 1 <| .c0 (by kernel_rfl) (callOf_skip (fun _ h => by obtain e0 := fiducialref01_pair_inj h; rw [show v32 = v30 from Option.some.inj (hc33.symm.trans ((show fiducialref01_pair n b_15 = fiducialref01_pair n a_14 from (congr rfl e0)).trans hc31))]) (callOf_at (by kernel_rfl))) <| .mu 2 <| .done <| .n1 [4, 9, 10] (mkS 61 0 [(4, .hp 0 0), (9, aU64 v30), (10, aU64 v32)]) [.own [aB false, .at (.slice none 0 0)]] <| .seq <| .block ?_
   replace hr := bd hr; obtain ⟨u_38, hL43, hr⟩ := hr
   refine .loopO (σ := fun z0 => match z0 with | (u_34, v_35) => ⟨mkS 61 0 [(4, .hp 0 0), (9, aU64 u_34), (10, aU64 v_35)], [.own [aB false, .at (.slice none 0 0)]]⟩) (Q := fun x st' => x = .exit 2 ∧ Wk 0 st' ⟨mkS 61 0 [(4, .hp 0 0), (9, aU64 u_38)], [.own [aB false, .at (.slice none 0 0)]]⟩) hL43 ((Wk.gc [4, 9, 10] [(0, true)] rfl trivial).to (by kernel_rfl)) ?_ ?_
   ·clear hr
    rintro m ⟨u_34, v_35⟩ hr
    show CQ _ _ _ _ _ ⟨_, _⟩
    refine .seq <| .seq <| .rn fine [4, 9, 10, 48] (mkS 61 0 [(4, .hp 0 0), (9, aU64 u_34), (10, aU64 v_35), (48, aB (decide (v_35 > 0)))]) [.own [aB false, .at (.slice none 0 0)]] ?_
    refine .cond (t := decide (v_35 > 0)) (by kernel_rfl) (fun hb40 => ?_) (fun hb40 => ?_)
    ·replace hr := cd_t hb40 hr
     refine .skip <| .block ?_
     obtain ⟨hg41, hr⟩ := gd hr
     refine .regionT fine callOf_nil <| .mu 3 <| .pure (v := aU64 (u_34.tmod v_35)) (by kernel_rfl) (op_rem (x := u_34) (y := v_35) (by kernel_rfl) (by kernel_rfl) hg41) (by kernel_rfl) <| .mu 2 ?_
     refine .done ⟨by kernel_rfl, ?_⟩
     refine .pop ?_
     exact loopF_back (v_35, u_34.tmod v_35) hr ((Wk.gc [4, 9, 10] [(0, true)] rfl trivial).to (by kernel_rfl))
    ·replace hr := cd_f hb40 hr
     refine .leave rfl ?_
     obtain rfl := Option.some.inj hr
     exact ⟨rfl, ((Wk.gc [4, 9] [(0, true)] rfl trivial).to (by kernel_rfl))⟩
   ·rintro x st' hq44
    clear hL43
    obtain ⟨rfl, hq44⟩ := hq44
    refine CQ_exit _ rfl <| .wk hq44 <| .seq ?_
    obtain ⟨v45, hc46, hr⟩ := bd hr
    refine .region fine (callOf_cons (callOk_ref (H := [.own [aB false, .at (.slice none 0 0)], .own [aU32 (wrapF .u32 (u_38.tmod 1000000000)), aU32 (wrapF .u32 (wrapF .u64 (u_38.tdiv 1000000000)))]]) (args := [aB false, .hs 1 0 2 1]) (l := [1]) (SnL.cons (Sn.pure rfl) (SnL.cons (Sn.hs rfl (.inl rfl) (SnC.cons (Sn.pure rfl) (SnC.cons (Sn.pure rfl) SnC.nil)) (fun h => nomatch h)) SnL.nil)) (fiducialref01_made_ok n false [(wrapF .u32 (u_38.tmod 1000000000)), (wrapF .u32 (wrapF .u64 (u_38.tdiv 1000000000)))] v45 hc46)) callOf_nil) <| .mu 7 <| .c0 (by kernel_rfl) (callOf_at (by kernel_rfl)) <| .mu 1 <| .done <| .n1 [4] (mkS 61 0 [(4, .hp 0 0)]) [.own (api_Int.c v45), .fix [aU32 (wrapF .u32 (u_38.tmod 1000000000)), aU32 (wrapF .u32 (wrapF .u64 (u_38.tdiv 1000000000)))]] <| .ret ?_
    obtain rfl := Option.some.inj hr
    exact FinQ.r1 [.agg (api_Int.c v45)]

theorem fiducialref01_Neg_ok (n : Nat) (x' : api_Int) (r : api_Int) (hr : fiducialref01_Neg n x' = some r) : FnOk Tryz.prog 110 [.agg [.at (.bool x'.Negative), slT (iC .u32) x'.Groups]] (.agg [.at (.bool r.Negative), slT (iC .u32) r.Groups]) := by
 unfold fiducialref01_Neg at hr
 refine FnOk.body fine Tryz.func110 (c := (Tryz.f110.body).getD .skip) rfl (s := mkS 11 0 [(0, .agg (api_Int.c x'))]) (by kernel_rfl) (rs := [.cell 2 35]) rfl ?_
 unfold Tryz.f110
 simp only [Option.getD_some]
 refine .seq <| .rn fine [1, 2] (mkS 11 0 [(1, .hp 0 0), (2, .hp 1 0)]) [.own (api_Int.c x'), .own [aB false, .at (.slice none 0 0)]] <| .seq ?_
 obtain ⟨v1, hc2, hr⟩ := bd hr
 refine .g1 fine (callOk_ref (l := []) (SnL.cons (Sn.pure rfl) SnL.nil) (fiducialref01_Value_ok n x' v1 hc2)) <| .mu 1 <| .c0 (by kernel_rfl) (callOf_at (by kernel_rfl)) <| .mu 1 <| .done <| .n1 [1, 2] (mkS 11 0 [(1, .hp 0 0), (2, .hp 1 0)]) [.own (api_Int.c v1), .own [aB false, .at (.slice none 0 0)]] <| .seq ?_
 obtain ⟨v3, hc4, hr⟩ := bd hr
 refine .g1 fine (callOk_ref (l := []) (SnL.cons (Sn.pure rfl) (SnL.cons (Sn.pure rfl) SnL.nil)) (fiducialref01_made_ok n (!v1.Negative) v1.Groups v3 hc4)) <| .mu 5 <| .c0 (by kernel_rfl) (callOf_at (by kernel_rfl)) <| .mu 1 <| .done <| .n1 [2] (mkS 11 0 [(2, .hp 1 0)]) [.own (api_Int.c v1), .own (api_Int.c v3)] <| .ret ?_
 obtain rfl := Option.some.inj hr
 exact FinQ.r1 [.agg (api_Int.c v3)]

theorem fiducialref01_plus_ok (n : Nat) (a : List Int) (b : List Int) (r : List Int) (hr : fiducialref01_plus n a b = some r) : FnOk Tryz.prog 111 [slT (iC .u32) a, slT (iC .u32) b] (slT (iC .u32) r) := by
 unfold fiducialref01_plus at hr
 refine FnOk.body fine Tryz.func111 (c := (Tryz.f111.body).getD .skip) rfl (s := mkS 46 0 [(0, sU32 a), (1, sU32 b)]) (by kernel_rfl) (rs := [.tmp 4]) rfl ?_
 unfold Tryz.f111
 simp only [Option.getD_some]
 refine .seq <| .rn fine [0, 1] (mkS 46 0 [(0, sU32 a), (1, sU32 b)]) [] <| .seq <| .rn fine [0, 1, 5] (mkS 46 0 [(0, sU32 a), (1, sU32 b), (5, .hs 0 0 0 1)]) [.own []] <| .seq <| .rn fine [0, 1, 5, 6] (mkS 46 0 [(0, sU32 a), (1, sU32 b), (5, .hs 0 0 0 1), (6, aU64 0)]) [.own []] <| .seq <| .seq <| .rn fine [0, 1, 5, 6, 7] (mkS 46 0 [(0, sU32 a), (1, sU32 b), (5, .hs 0 0 0 1), (6, aU64 0), (7, aI64 0)]) [.own []] <| .block ?_
 replace hr := bd hr; obtain ⟨o35, hL36, hr⟩ := hr
 refine .loopO (σ := fun z0 => match z0 with | (out_1, carry_2, i_3) => ⟨mkS 46 0 [(0, sU32 a), (1, sU32 b), (5, .hs 0 0 out_1.length 1), (6, aU64 carry_2), (7, aI64 i_3)], [.own (out_1.flatMap (iC .u32))]⟩) (Q := fun x st' => match (generalizing := false) o35 with | (out_18, carry_19) => x = .exit 0 ∧ Wk 0 st' ⟨mkS 46 0 [(5, .hs 0 0 out_18.length 1), (6, aU64 carry_19)], [.own (out_18.flatMap (iC .u32))]⟩) hL36 ((Wk.gc [0, 1, 5, 6, 7] [(0, false)] rfl (pKc trivial)).to (by kernel_rfl)) ?_ ?_
 ·clear hr
  rintro m ⟨out_1, carry_2, i_3⟩ hr
  show CQ _ _ _ _ _ ⟨_, _⟩
  refine .seq <| .seq ?_
  rcases Bool.eq_false_or_eq_true (decide (i_3 < (a.length : Int))) with hb21 | hb21
  ·replace hr := cd_t hb21 hr
   refine .r0 fine <| .mu 3 <| .p0 (v := aB true) (Eq.trans (b := some (.pure (aB (decide (i_3 < (a.length : Int)))))) (by kernel_rfl) (by rw [hb21])) <| .mu 6 <| .done <| .n1 [0, 1, 5, 6, 7, 19] (mkS 46 0 [(0, sU32 a), (1, sU32 b), (5, .hs 0 0 out_1.length 1), (6, aU64 carry_2), (7, aI64 i_3), (19, aB true)]) [.own (out_1.flatMap (iC .u32))] <| .cT (by kernel_rfl) <| .skip <| .seq <| .block <| .seq ?_
   obtain ⟨v22, hc23, hr⟩ := bd hr
   obtain ⟨v24, hc25, hr⟩ := bd hr
   refine .region fine (callOf_cons (callOk_val (H := [.own (out_1.flatMap (iC .u32))]) (l := []) rfl (SnL.cons (Sn.pure rfl) (SnL.cons (Sn.pure rfl) SnL.nil)) (fiducialref01_group_ok n a i_3 v22 hc23)) (callOf_cons (callOk_val (H := [.own (out_1.flatMap (iC .u32))]) (l := []) rfl (SnL.cons (Sn.pure rfl) (SnL.cons (Sn.pure rfl) SnL.nil)) (fiducialref01_group_ok n b i_3 v24 hc25)) callOf_nil)) <| .mu 2 <| .c0 (by kernel_rfl) (callOf_at (by kernel_rfl)) <| .mu 2 <| .c0 (by kernel_rfl) (callOf_skip (fun _ h => by obtain ⟨e0, e1⟩ := fiducialref01_group_inj h; rw [show v24 = v22 from Option.some.inj (hc25.symm.trans ((show fiducialref01_group n b i_3 = fiducialref01_group n a i_3 from (congr (congr rfl e0) e1)).trans hc23))]) (callOf_at (by kernel_rfl))) <| .mu 4 <| .done <| .n1 [0, 1, 5, 7, 8] (mkS 46 0 [(0, sU32 a), (1, sU32 b), (5, .hs 0 0 out_1.length 1), (7, aI64 i_3), (8, aU64 (wrapF .u64 ((wrapF .u64 (v22 + v24)) + carry_2)))]) [.own (out_1.flatMap (iC .u32))] <| .seq ?_
   obtain ⟨hg26, hr⟩ := gd hr
   obtain ⟨hg27, hr⟩ := gd hr
   refine .r0 fine <| .mu 5 <| .e0 (v := .hs 2 0 (out_1 ++ [wrapF .u32 ((wrapF .u64 ((wrapF .u64 (v22 + v24)) + carry_2)).tmod 1000000000)]).length 1) (ws := [(0, .dead), (2, .own ((out_1 ++ [wrapF .u32 ((wrapF .u64 ((wrapF .u64 (v22 + v24)) + carry_2)).tmod 1000000000)]).flatMap (iC .u32)))]) (Eq.trans (b := guardO (decide (0 + out_1.length * 1 ≤ (out_1.flatMap (iC .u32)).length) && decide ((out_1.length + 1) * 4 ≤ 140737488355328) && decide (out_1.length + 1 ≤ 4611686018427387904)) (some (.eff (.hs 2 0 (out_1.length + 1) 1) [(0, .dead), (2, .own (((out_1.flatMap (iC .u32)).drop 0).take (out_1.length * 1) ++ [aU32 (wrapF .u32 ((wrapF .u64 ((wrapF .u64 (v22 + v24)) + carry_2)).tmod 1000000000))]))]))) (by kernel_rfl) (app_own (l := out_1) (xs := [wrapF .u32 ((wrapF .u64 ((wrapF .u64 (v22 + v24)) + carry_2)).tmod 1000000000)]) (iC_len _) rfl rfl (by kernel_rfl) hg26 hg27)) <| .mu 1 <| .done <| .n1 [0, 1, 5, 7, 8] (mkS 46 0 [(0, sU32 a), (1, sU32 b), (5, .hs 2 0 (out_1 ++ [wrapF .u32 ((wrapF .u64 ((wrapF .u64 (v22 + v24)) + carry_2)).tmod 1000000000)]).length 1), (7, aI64 i_3), (8, aU64 (wrapF .u64 ((wrapF .u64 (v22 + v24)) + carry_2)))]) [.dead, .own [aU32 (wrapF .u32 ((wrapF .u64 ((wrapF .u64 (v22 + v24)) + carry_2)).tmod 1000000000))], .own ((out_1 ++ [wrapF .u32 ((wrapF .u64 ((wrapF .u64 (v22 + v24)) + carry_2)).tmod 1000000000)]).flatMap (iC .u32))] <| .ru fine <| .pop <| .ru fine ?_
   exact loopF_back (out_1 ++ [wrapF .u32 ((wrapF .u64 ((wrapF .u64 (v22 + v24)) + carry_2)).tmod 1000000000)], wrapF .u64 ((wrapF .u64 ((wrapF .u64 (v22 + v24)) + carry_2)).tdiv 1000000000), wrapF .i64 (i_3 + 1)) hr ((Wk.gc [0, 1, 5, 6, 7] [(2, false)] rfl (pKo (iC .u32) (iC_pure _) (out_1 ++ [wrapF .u32 ((wrapF .u64 ((wrapF .u64 (v22 + v24)) + carry_2)).tmod 1000000000)]) trivial)).to (by kernel_rfl))
  ·replace hr := cd_f hb21 hr
   refine .r0 fine <| .mu 3 <| .p0 (v := aB false) (Eq.trans (b := some (.pure (aB (decide (i_3 < (a.length : Int)))))) (by kernel_rfl) (by rw [hb21])) <| .mu 6 <| .done <| .n1 [0, 1, 5, 6, 7, 19] (mkS 46 0 [(0, sU32 a), (1, sU32 b), (5, .hs 0 0 out_1.length 1), (6, aU64 carry_2), (7, aI64 i_3), (19, aB (decide (i_3 < (b.length : Int))))]) [.own (out_1.flatMap (iC .u32))] ?_
   refine .cond (t := decide (i_3 < (b.length : Int))) (by kernel_rfl) (fun hb28 => ?_) (fun hb28 => ?_)
   ·replace hr := cd_t hb28 hr
    refine .skip <| .seq <| .block <| .seq ?_
    obtain ⟨v29, hc30, hr⟩ := bd hr
    obtain ⟨v31, hc32, hr⟩ := bd hr
    refine .region fine (callOf_cons (callOk_val (H := [.own (out_1.flatMap (iC .u32))]) (l := []) rfl (SnL.cons (Sn.pure rfl) (SnL.cons (Sn.pure rfl) SnL.nil)) (fiducialref01_group_ok n a i_3 v29 hc30)) (callOf_cons (callOk_val (H := [.own (out_1.flatMap (iC .u32))]) (l := []) rfl (SnL.cons (Sn.pure rfl) (SnL.cons (Sn.pure rfl) SnL.nil)) (fiducialref01_group_ok n b i_3 v31 hc32)) callOf_nil)) <| .mu 2 <| .c0 (by kernel_rfl) (callOf_at (by kernel_rfl)) <| .mu 2 <| .c0 (by kernel_rfl) (callOf_skip (fun _ h => by obtain ⟨e0, e1⟩ := fiducialref01_group_inj h; rw [show v31 = v29 from Option.some.inj (hc32.symm.trans ((show fiducialref01_group n b i_3 = fiducialref01_group n a i_3 from (congr (congr rfl e0) e1)).trans hc30))]) (callOf_at (by kernel_rfl))) <| .mu 4 <| .done <| .n1 [0, 1, 5, 7, 8] (mkS 46 0 [(0, sU32 a), (1, sU32 b), (5, .hs 0 0 out_1.length 1), (7, aI64 i_3), (8, aU64 (wrapF .u64 ((wrapF .u64 (v29 + v31)) + carry_2)))]) [.own (out_1.flatMap (iC .u32))] <| .seq ?_
    obtain ⟨hg33, hr⟩ := gd hr
    obtain ⟨hg34, hr⟩ := gd hr
    refine .r0 fine <| .mu 5 <| .e0 (v := .hs 2 0 (out_1 ++ [wrapF .u32 ((wrapF .u64 ((wrapF .u64 (v29 + v31)) + carry_2)).tmod 1000000000)]).length 1) (ws := [(0, .dead), (2, .own ((out_1 ++ [wrapF .u32 ((wrapF .u64 ((wrapF .u64 (v29 + v31)) + carry_2)).tmod 1000000000)]).flatMap (iC .u32)))]) (Eq.trans (b := guardO (decide (0 + out_1.length * 1 ≤ (out_1.flatMap (iC .u32)).length) && decide ((out_1.length + 1) * 4 ≤ 140737488355328) && decide (out_1.length + 1 ≤ 4611686018427387904)) (some (.eff (.hs 2 0 (out_1.length + 1) 1) [(0, .dead), (2, .own (((out_1.flatMap (iC .u32)).drop 0).take (out_1.length * 1) ++ [aU32 (wrapF .u32 ((wrapF .u64 ((wrapF .u64 (v29 + v31)) + carry_2)).tmod 1000000000))]))]))) (by kernel_rfl) (app_own (l := out_1) (xs := [wrapF .u32 ((wrapF .u64 ((wrapF .u64 (v29 + v31)) + carry_2)).tmod 1000000000)]) (iC_len _) rfl rfl (by kernel_rfl) hg33 hg34)) <| .mu 1 <| .done <| .n1 [0, 1, 5, 7, 8] (mkS 46 0 [(0, sU32 a), (1, sU32 b), (5, .hs 2 0 (out_1 ++ [wrapF .u32 ((wrapF .u64 ((wrapF .u64 (v29 + v31)) + carry_2)).tmod 1000000000)]).length 1), (7, aI64 i_3), (8, aU64 (wrapF .u64 ((wrapF .u64 (v29 + v31)) + carry_2)))]) [.dead, .own [aU32 (wrapF .u32 ((wrapF .u64 ((wrapF .u64 (v29 + v31)) + carry_2)).tmod 1000000000))], .own ((out_1 ++ [wrapF .u32 ((wrapF .u64 ((wrapF .u64 (v29 + v31)) + carry_2)).tmod 1000000000)]).flatMap (iC .u32))] <| .ru fine <| .pop <| .ru fine ?_
    exact loopF_back (out_1 ++ [wrapF .u32 ((wrapF .u64 ((wrapF .u64 (v29 + v31)) + carry_2)).tmod 1000000000)], wrapF .u64 ((wrapF .u64 ((wrapF .u64 (v29 + v31)) + carry_2)).tdiv 1000000000), wrapF .i64 (i_3 + 1)) hr ((Wk.gc [0, 1, 5, 6, 7] [(2, false)] rfl (pKo (iC .u32) (iC_pure _) (out_1 ++ [wrapF .u32 ((wrapF .u64 ((wrapF .u64 (v29 + v31)) + carry_2)).tmod 1000000000)]) trivial)).to (by kernel_rfl))
   ·replace hr := cd_f hb28 hr
    refine .leave rfl ?_
    obtain rfl := Option.some.inj hr
    exact ⟨rfl, ((Wk.gc [5, 6] [(0, false)] rfl (pKo (iC .u32) (iC_pure _) out_1 trivial)).to (by kernel_rfl))⟩
 ·rcases o35 with ⟨out_18, carry_19⟩
  rintro x st' hq37
  clear hL36
  obtain ⟨rfl, hq37⟩ := hq37
  refine CQ_exit _ rfl <| .wk hq37 <| .seq ?_
  obtain ⟨hg38, hr⟩ := gd hr
  obtain ⟨hg39, hr⟩ := gd hr
  obtain ⟨v40, hc41, hr⟩ := bd hr
  refine .region fine (callOf_cons (callOk_ref (H := [.dead, .own [aU32 (wrapF .u32 carry_19)], .own ((out_18 ++ [wrapF .u32 carry_19]).flatMap (iC .u32))]) (args := [aB false, .hs 2 0 (out_18 ++ [wrapF .u32 carry_19]).length 1]) (l := [2]) (SnL.cons (Sn.pure rfl) (SnL.cons (Sn.hs rfl (.inl rfl) (SnC.pure (ids_flat (iC_pure _) _)) (fun h => flat_nil0 h)) SnL.nil)) (fiducialref01_made_ok n false (out_18 ++ [wrapF .u32 carry_19]) v40 hc41)) callOf_nil) <| .mu 4 <| .e0 (v := .hs 2 0 (out_18 ++ [wrapF .u32 carry_19]).length 1) (ws := [(0, .dead), (2, .own ((out_18 ++ [wrapF .u32 carry_19]).flatMap (iC .u32)))]) (Eq.trans (b := guardO (decide (0 + out_18.length * 1 ≤ (out_18.flatMap (iC .u32)).length) && decide ((out_18.length + 1) * 4 ≤ 140737488355328) && decide (out_18.length + 1 ≤ 4611686018427387904)) (some (.eff (.hs 2 0 (out_18.length + 1) 1) [(0, .dead), (2, .own (((out_18.flatMap (iC .u32)).drop 0).take (out_18.length * 1) ++ [aU32 (wrapF .u32 carry_19)]))]))) (by kernel_rfl) (app_own (l := out_18) (xs := [wrapF .u32 carry_19]) (iC_len _) rfl rfl (by kernel_rfl) hg38 hg39)) <| .c0 (by kernel_rfl) (callOf_at (by kernel_rfl)) <| .mu 2 <| .done <| .ret ?_
  obtain rfl := Option.some.inj hr
  exact FinQ.r1 [sU32 v40.Groups]

theorem fiducialref01_Add_ok (n : Nat) (x' : api_Int) (y : api_Int) (r : api_Int) (hr : fiducialref01_Add n x' y = some r) : FnOk Tryz.prog 74 [.agg [.at (.bool x'.Negative), slT (iC .u32) x'.Groups], .agg [.at (.bool y.Negative), slT (iC .u32) y.Groups]] (.agg [.at (.bool r.Negative), slT (iC .u32) r.Groups]) := by
 unfold fiducialref01_Add at hr
 refine FnOk.body fine Tryz.func74 (c := (Tryz.f74.body).getD .skip) rfl (s := mkS 44 0 [(0, .agg (api_Int.c x')), (1, .agg (api_Int.c y))]) (by kernel_rfl) (rs := [.cell 4 35]) rfl ?_
 unfold Tryz.f74
 simp only [Option.getD_some]
 refine .seq <| .rn fine [2, 3, 4] (mkS 44 0 [(2, .hp 0 0), (3, .hp 1 0), (4, .hp 2 0)]) [.own (api_Int.c x'), .own (api_Int.c y), .own [aB false, .at (.slice none 0 0)]] <| .seq ?_
 obtain ⟨v1, hc2, hr⟩ := bd hr
 obtain ⟨v3, hc4, hr⟩ := bd hr
 refine .regionT fine (callOf_cons (callOk_ref (H := [.own (api_Int.c x'), .own (api_Int.c y), .own [aB false, .at (.slice none 0 0)]]) (l := []) (SnL.cons (Sn.pure rfl) SnL.nil) (fiducialref01_Value_ok n x' v1 hc2)) (callOf_cons (callOk_ref (H := [.own (api_Int.c x'), .own (api_Int.c y), .own [aB false, .at (.slice none 0 0)]]) (l := []) (SnL.cons (Sn.pure rfl) SnL.nil) (fiducialref01_Value_ok n y v3 hc4)) callOf_nil)) <| .mu 1 <| .cal (by kernel_rfl) (by kernel_rfl) (callOf_at (by kernel_rfl)) (by kernel_rfl) <| .mu 1 <| .cal (by kernel_rfl) (by kernel_rfl) (callOf_skip (fun _ h => by obtain e0 := fiducialref01_Value_inj h; rw [show v3 = v1 from Option.some.inj (hc4.symm.trans ((show fiducialref01_Value n y = fiducialref01_Value n x' from (congr rfl e0)).trans hc2))]) (callOf_at (by kernel_rfl))) (by kernel_rfl) <| .mu 2 ?_
 refine .done ⟨by kernel_rfl, ?_⟩
 refine .n1 [2, 3, 4] (mkS 44 0 [(2, .hp 0 0), (3, .hp 1 0), (4, .hp 2 0)]) [.own (api_Int.c v1), .own (api_Int.c v3), .own [aB false, .at (.slice none 0 0)]] <| .seq <| .seq <| .rn fine [2, 3, 4, 13] (mkS 44 0 [(2, .hp 0 0), (3, .hp 1 0), (4, .hp 2 0), (13, aB (v1.Negative == v3.Negative))]) [.own (api_Int.c v1), .own (api_Int.c v3), .own [aB false, .at (.slice none 0 0)]] ?_
 refine .cond (t := v1.Negative == v3.Negative) (by kernel_rfl) (fun hb5 => ?_) (fun hb5 => ?_)
 ·replace hr := cd_t hb5 hr
  refine .seq ?_
  obtain ⟨v6, hc7, hr⟩ := bd hr
  obtain ⟨v8, hc9, hr⟩ := bd hr
  refine .regionT fine (callOf_cons (callOk_ref (H := [.own (api_Int.c v1), .own (api_Int.c v3), .own [aB false, .at (.slice none 0 0)]]) (l := []) (SnL.cons (Sn.pure rfl) (SnL.cons (Sn.pure rfl) SnL.nil)) (fiducialref01_plus_ok n v1.Groups v3.Groups v6 hc7)) (callOf_cons (callOk_ref (H := [.own (api_Int.c v1), .own (api_Int.c v3), .own [aB false, .at (.slice none 0 0)]]) (l := []) (SnL.cons (Sn.pure rfl) (SnL.cons (Sn.pure rfl) SnL.nil)) (fiducialref01_made_ok n v1.Negative v6 v8 hc9)) callOf_nil)) <| .mu 6 <| .cal (by kernel_rfl) (by kernel_rfl) (callOf_at (by kernel_rfl)) (by kernel_rfl) <| .cal (by kernel_rfl) (by kernel_rfl) (callOf_skip (fun h _ => absurd (show (109 : Nat) = 111 from h) (by decide)) (callOf_at (by kernel_rfl))) (by kernel_rfl) <| .mu 1 ?_
  refine .done ⟨by kernel_rfl, ?_⟩
  refine .n1 [4] (mkS 44 0 [(4, .hp 2 0)]) [.own (api_Int.c v1), .own (api_Int.c v3), .own (api_Int.c v8)] <| .ret ?_
  obtain rfl := Option.some.inj hr
  exact FinQ.r1 [.agg (api_Int.c v8)]
 ·replace hr := cd_f hb5 hr
  refine .skip <| .seq <| .seq ?_
  obtain ⟨v10, hc11, hr⟩ := bd hr
  refine .g1 fine (callOk_val (l := []) rfl (SnL.cons (Sn.pure rfl) (SnL.cons (Sn.pure rfl) SnL.nil)) (fiducialref01_size_ok n v1.Groups v3.Groups v10 hc11)) <| .mu 4 <| .c0 (by kernel_rfl) (callOf_at (by kernel_rfl)) <| .mu 1 <| .done <| .n1 [2, 3, 4, 27] (mkS 44 0 [(2, .hp 0 0), (3, .hp 1 0), (4, .hp 2 0), (27, aB (decide (v10 ≥ 0)))]) [.own (api_Int.c v1), .own (api_Int.c v3), .own [aB false, .at (.slice none 0 0)]] ?_
  refine .cond (t := decide (v10 ≥ 0)) (by kernel_rfl) (fun hb12 => ?_) (fun hb12 => ?_)
  ·replace hr := cd_t hb12 hr
   refine .seq ?_
   obtain ⟨v13, hc14, hr⟩ := bd hr
   obtain ⟨v15, hc16, hr⟩ := bd hr
   refine .regionT fine (callOf_cons (callOk_ref (H := [.own (api_Int.c v1), .own (api_Int.c v3), .own [aB false, .at (.slice none 0 0)]]) (l := []) (SnL.cons (Sn.pure rfl) (SnL.cons (Sn.pure rfl) SnL.nil)) (fiducialref01_minus_ok n v1.Groups v3.Groups v13 hc14)) (callOf_cons (callOk_ref (H := [.own (api_Int.c v1), .own (api_Int.c v3), .own [aB false, .at (.slice none 0 0)]]) (l := []) (SnL.cons (Sn.pure rfl) (SnL.cons (Sn.pure rfl) SnL.nil)) (fiducialref01_made_ok n v1.Negative v13 v15 hc16)) callOf_nil)) <| .mu 6 <| .cal (by kernel_rfl) (by kernel_rfl) (callOf_at (by kernel_rfl)) (by kernel_rfl) <| .cal (by kernel_rfl) (by kernel_rfl) (callOf_skip (fun h _ => absurd (show (109 : Nat) = 113 from h) (by decide)) (callOf_at (by kernel_rfl))) (by kernel_rfl) <| .mu 1 ?_
   refine .done ⟨by kernel_rfl, ?_⟩
   refine .n1 [4] (mkS 44 0 [(4, .hp 2 0)]) [.own (api_Int.c v1), .own (api_Int.c v3), .own (api_Int.c v15)] <| .ret ?_
   obtain rfl := Option.some.inj hr
   exact FinQ.r1 [.agg (api_Int.c v15)]
  ·replace hr := cd_f hb12 hr
   refine .skip <| .seq ?_
   obtain ⟨v17, hc18, hr⟩ := bd hr
   obtain ⟨v19, hc20, hr⟩ := bd hr
   refine .regionT fine (callOf_cons (callOk_ref (H := [.own (api_Int.c v1), .own (api_Int.c v3), .own [aB false, .at (.slice none 0 0)]]) (l := []) (SnL.cons (Sn.pure rfl) (SnL.cons (Sn.pure rfl) SnL.nil)) (fiducialref01_minus_ok n v3.Groups v1.Groups v17 hc18)) (callOf_cons (callOk_ref (H := [.own (api_Int.c v1), .own (api_Int.c v3), .own [aB false, .at (.slice none 0 0)]]) (l := []) (SnL.cons (Sn.pure rfl) (SnL.cons (Sn.pure rfl) SnL.nil)) (fiducialref01_made_ok n v3.Negative v17 v19 hc20)) callOf_nil)) <| .mu 6 <| .cal (by kernel_rfl) (by kernel_rfl) (callOf_at (by kernel_rfl)) (by kernel_rfl) <| .cal (by kernel_rfl) (by kernel_rfl) (callOf_skip (fun h _ => absurd (show (109 : Nat) = 113 from h) (by decide)) (callOf_at (by kernel_rfl))) (by kernel_rfl) <| .mu 1 ?_
   refine .done ⟨by kernel_rfl, ?_⟩
   refine .n1 [4] (mkS 44 0 [(4, .hp 2 0)]) [.own (api_Int.c v1), .own (api_Int.c v3), .own (api_Int.c v19)] <| .ret ?_
   obtain rfl := Option.some.inj hr
   exact FinQ.r1 [.agg (api_Int.c v19)]

theorem fiducialref01_Sub_ok (n : Nat) (x' : api_Int) (y : api_Int) (r : api_Int) (hr : fiducialref01_Sub n x' y = some r) : FnOk Tryz.prog 73 [.agg [.at (.bool x'.Negative), slT (iC .u32) x'.Groups], .agg [.at (.bool y.Negative), slT (iC .u32) y.Groups]] (.agg [.at (.bool r.Negative), slT (iC .u32) r.Groups]) := by
 unfold fiducialref01_Sub at hr
 refine FnOk.body fine Tryz.func73 (c := (Tryz.f73.body).getD .skip) rfl (s := mkS 9 0 [(0, .agg (api_Int.c x')), (1, .agg (api_Int.c y))]) (by kernel_rfl) (rs := [.cell 4 35]) rfl ?_
 unfold Tryz.f73
 simp only [Option.getD_some]
 refine .seq <| .rn fine [2, 3, 4] (mkS 9 0 [(2, .hp 0 0), (3, .hp 1 0), (4, .hp 2 0)]) [.own (api_Int.c x'), .own (api_Int.c y), .own [aB false, .at (.slice none 0 0)]] <| .seq ?_
 obtain ⟨v1, hc2, hr⟩ := bd hr
 obtain ⟨v3, hc4, hr⟩ := bd hr
 refine .regionT fine (callOf_cons (callOk_ref (H := [.own (api_Int.c x'), .own (api_Int.c y), .own [aB false, .at (.slice none 0 0)]]) (l := []) (SnL.cons (Sn.pure rfl) SnL.nil) (fiducialref01_Neg_ok n y v1 hc2)) (callOf_cons (callOk_ref (H := [.own (api_Int.c x'), .own (api_Int.c y), .own [aB false, .at (.slice none 0 0)]]) (l := []) (SnL.cons (Sn.pure rfl) (SnL.cons (Sn.pure rfl) SnL.nil)) (fiducialref01_Add_ok n x' v1 v3 hc4)) callOf_nil)) <| .mu 2 <| .cal (by kernel_rfl) (by kernel_rfl) (callOf_at (by kernel_rfl)) (by kernel_rfl) <| .cal (by kernel_rfl) (by kernel_rfl) (callOf_skip (fun h _ => absurd (show (74 : Nat) = 110 from h) (by decide)) (callOf_at (by kernel_rfl))) (by kernel_rfl) <| .mu 1 ?_
 refine .done ⟨by kernel_rfl, ?_⟩
 refine .n1 [4] (mkS 9 0 [(4, .hp 2 0)]) [.own (api_Int.c x'), .own (api_Int.c y), .own (api_Int.c v3)] <| .ret ?_
 obtain rfl := Option.some.inj hr
 exact FinQ.r1 [.agg (api_Int.c v3)]

theorem fiducialref01_Compare_ok (n : Nat) (x' : api_Int) (y : api_Int) (r : Int) (hr : fiducialref01_Compare n x' y = some r) : FnOk Tryz.prog 122 [.agg [.at (.bool x'.Negative), slT (iC .u32) x'.Groups], .agg [.at (.bool y.Negative), slT (iC .u32) y.Groups]] (.at (.int .i64 r)) := by
 unfold fiducialref01_Compare at hr
 refine FnOk.body fine Tryz.func122 (c := (Tryz.f122.body).getD .skip) rfl (s := mkS 9 0 [(0, .agg (api_Int.c x')), (1, .agg (api_Int.c y))]) (by kernel_rfl) (rs := [.tmp 4]) rfl ?_
 unfold Tryz.f122
 simp only [Option.getD_some]
 refine .seq <| .rn fine [2, 3] (mkS 9 0 [(2, .hp 0 0), (3, .hp 1 0)]) [.own (api_Int.c x'), .own (api_Int.c y)] <| .seq ?_
 obtain ⟨v1, hc2, hr⟩ := bd hr
 obtain ⟨v3, hc4, hr⟩ := bd hr
 refine .region fine (callOf_cons (callOk_ref (H := [.own (api_Int.c x'), .own (api_Int.c y)]) (l := []) (SnL.cons (Sn.pure rfl) (SnL.cons (Sn.pure rfl) SnL.nil)) (fiducialref01_Sub_ok n x' y v1 hc2)) (callOf_cons (callOk_val (H := [.own (api_Int.c x'), .own (api_Int.c y)]) (l := []) rfl (SnL.cons (Sn.pure rfl) SnL.nil) (fiducialref01_Sign_ok n v1 v3 hc4)) callOf_nil)) <| .mu 2 <| .c0 (by kernel_rfl) (callOf_at (by kernel_rfl)) <| .c0 (by kernel_rfl) (callOf_skip (fun h _ => absurd (show (75 : Nat) = 73 from h) (by decide)) (callOf_at (by kernel_rfl))) <| .mu 1 <| .done <| .ret ?_
 obtain rfl := Option.some.inj hr
 exact FinQ.r1 [aI64 v3]

theorem fiducialref02_Valid_inj {x' : api_Rat} {x'_ : api_Rat} (h : ([.agg [.at (.bool x'.Num.Negative), slT (iC .u32) x'.Num.Groups, .at (.bool x'.Den.Negative), slT (iC .u32) x'.Den.Groups]] : List AV) = [.agg [.at (.bool x'_.Num.Negative), slT (iC .u32) x'_.Num.Groups, .at (.bool x'_.Den.Negative), slT (iC .u32) x'_.Den.Groups]]) : x' = x'_ := by
 obtain ⟨⟨_, _⟩, ⟨_, _⟩⟩ := x'
 obtain ⟨⟨_, _⟩, ⟨_, _⟩⟩ := x'_
 simp only [List.cons.injEq, AV.agg.injEq, AV.at.injEq, Value.int.injEq, Value.bool.injEq, AV.fn.injEq, AV.pp.injEq, true_and, and_true, slT_inj_int] at h
 simp_all
theorem fiducialref02_Valid_ok (n : Nat) (x' : api_Rat) (r : Bool) (hr : fiducialref02_Valid n x' = some r) : FnOk Tryz.prog 88 [.agg [.at (.bool x'.Num.Negative), slT (iC .u32) x'.Num.Groups, .at (.bool x'.Den.Negative), slT (iC .u32) x'.Den.Groups]] (.at (.bool r)) := by
 unfold fiducialref02_Valid at hr
 refine FnOk.body fine Tryz.func88 (c := (Tryz.f88.body).getD .skip) rfl (s := mkS 27 0 [(0, .agg (api_Rat.c x'))]) (by kernel_rfl) (rs := [.tmp 2]) rfl ?_
 unfold Tryz.f88
 simp only [Option.getD_some]
 refine .seq <| .rn fine [1] (mkS 27 0 [(1, .hp 0 0)]) [.own (api_Rat.c x')] <| .seq <| .seq ?_
 obtain ⟨v1, hc2, hr⟩ := bd hr
 rcases Bool.eq_false_or_eq_true (!v1) with hb3 | hb3
 ·replace hr := cd_t hb3 hr
  refine .g1 fine (callOk_val (l := []) rfl (SnL.cons (Sn.pure rfl) SnL.nil) (fiducialref01_Valid_ok n x'.Num v1 hc2)) <| .mu 2 <| .c0 (by kernel_rfl) (callOf_at (by kernel_rfl)) <| .p0 (v := aB true) (Eq.trans (b := some (.pure (aB (!v1)))) (by kernel_rfl) (by rw [hb3])) <| .mu 12 <| .done <| .n1 [1, 18] (mkS 27 0 [(1, .hp 0 0), (18, aB true)]) [.own (api_Rat.c x')] <| .cT (by kernel_rfl) <| .seq <| .ru fine <| .ret ?_
  obtain rfl := Option.some.inj hr
  exact FinQ.r1 [aB false]
 ·replace hr := cd_f hb3 hr
  obtain ⟨v4, hc5, hr⟩ := bd hr
  rcases Bool.eq_false_or_eq_true (!v4) with hb6 | hb6
  ·replace hr := cd_t hb6 hr
   refine .region fine (callOf_cons (callOk_val (H := [.own (api_Rat.c x')]) (l := []) rfl (SnL.cons (Sn.pure rfl) SnL.nil) (fiducialref01_Valid_ok n x'.Num v1 hc2)) (callOf_cons (callOk_val (H := [.own (api_Rat.c x')]) (l := []) rfl (SnL.cons (Sn.pure rfl) SnL.nil) (fiducialref01_Valid_ok n x'.Den v4 hc5)) callOf_nil)) <| .mu 2 <| .c0 (by kernel_rfl) (callOf_at (by kernel_rfl)) <| .p0 (v := aB false) (Eq.trans (b := some (.pure (aB (!v1)))) (by kernel_rfl) (by rw [hb3])) <| .mu 3 <| .cal (by kernel_rfl) (by kernel_rfl) (callOf_skip (fun _ h => by obtain e0 := fiducialref01_Valid_inj h; rw [show v4 = v1 from Option.some.inj (hc5.symm.trans ((show fiducialref01_Valid n x'.Den = fiducialref01_Valid n x'.Num from (congr rfl e0)).trans hc2))]) (callOf_at (by kernel_rfl))) <| .pure (v := aB true) (by kernel_rfl) (Eq.trans (b := some (.pure (aB (!v4)))) (by kernel_rfl) (by rw [hb6])) <| .mu 7 <| .done <| .n1 [1, 18] (mkS 27 0 [(1, .hp 0 0), (18, aB true)]) [.own (api_Rat.c x')] <| .cT (by kernel_rfl) <| .seq <| .ru fine <| .ret ?_
   obtain rfl := Option.some.inj hr
   exact FinQ.r1 [aB false]
  ·replace hr := cd_f hb6 hr
   obtain ⟨v7, hc8, hr⟩ := bd hr
   refine .region fine (callOf_cons (callOk_val (H := [.own (api_Rat.c x')]) (l := []) rfl (SnL.cons (Sn.pure rfl) SnL.nil) (fiducialref01_Valid_ok n x'.Num v1 hc2)) (callOf_cons (callOk_val (H := [.own (api_Rat.c x')]) (l := []) rfl (SnL.cons (Sn.pure rfl) SnL.nil) (fiducialref01_Valid_ok n x'.Den v4 hc5)) (callOf_cons (callOk_val (H := [.own (api_Rat.c x')]) (l := []) rfl (SnL.cons (Sn.pure rfl) SnL.nil) (fiducialref01_Sign_ok n x'.Den v7 hc8)) callOf_nil))) <| .mu 2 <| .c0 (by kernel_rfl) (callOf_at (by kernel_rfl)) <| .p0 (v := aB false) (Eq.trans (b := some (.pure (aB (!v1)))) (by kernel_rfl) (by rw [hb3])) <| .mu 3 <| .cal (by kernel_rfl) (by kernel_rfl) (callOf_skip (fun _ h => by obtain e0 := fiducialref01_Valid_inj h; rw [show v4 = v1 from Option.some.inj (hc5.symm.trans ((show fiducialref01_Valid n x'.Den = fiducialref01_Valid n x'.Num from (congr rfl e0)).trans hc2))]) (callOf_at (by kernel_rfl))) <| .pure (v := aB false) (by kernel_rfl) (Eq.trans (b := some (.pure (aB (!v4)))) (by kernel_rfl) (by rw [hb6])) <| .mu 4 <| .cal (by kernel_rfl) (by kernel_rfl) (callOf_skip (fun h _ => absurd (show (75 : Nat) = 121 from h) (by decide)) (callOf_skip (fun h _ => absurd (show (75 : Nat) = 121 from h) (by decide)) (callOf_at (by kernel_rfl)))) <| .mu 2 <| .done <| .n1 [1, 18] (mkS 27 0 [(1, .hp 0 0), (18, aB (decide (v7 ≤ 0)))]) [.own (api_Rat.c x')] ?_
   refine .cond (t := decide (v7 ≤ 0)) (by kernel_rfl) (fun hb9 => ?_) (fun hb9 => ?_)
   ·replace hr := cd_t hb9 hr
    refine .seq <| .ru fine <| .ret ?_
    obtain rfl := Option.some.inj hr
    exact FinQ.r1 [aB false]
   ·replace hr := cd_f hb9 hr
    refine .skip <| .seq ?_
    obtain ⟨v10, hc11, hr⟩ := bd hr
    obtain ⟨v12, hc13, hr⟩ := bd hr
    obtain ⟨v14, hc15, hr⟩ := bd hr
    refine .region fine (callOf_cons (callOk_ref (H := [.own (api_Rat.c x')]) (l := []) (SnL.cons (Sn.pure rfl) (SnL.cons (Sn.pure rfl) SnL.nil)) (fiducialref01_Gcd_ok n x'.Num x'.Den v10 hc11)) (callOf_cons (callOk_ref (H := [.own (api_Rat.c x')]) (l := []) (SnL.cons (Sn.pure rfl) SnL.nil) (fiducialref02_whole_ok n 1 v12 hc13)) (callOf_cons (callOk_val (H := [.own (api_Rat.c x')]) (l := []) rfl (SnL.cons (Sn.pure rfl) (SnL.cons (Sn.pure rfl) SnL.nil)) (fiducialref01_Compare_ok n v10 v12 v14 hc15)) callOf_nil))) <| .mu 4 <| .c0 (by kernel_rfl) (callOf_at (by kernel_rfl)) <| .c0 (by kernel_rfl) (callOf_skip (fun h _ => absurd (show (55 : Nat) = 123 from h) (by decide)) (callOf_at (by kernel_rfl))) <| .c0 (by kernel_rfl) (callOf_skip (fun h _ => absurd (show (122 : Nat) = 123 from h) (by decide)) (callOf_skip (fun h _ => absurd (show (122 : Nat) = 55 from h) (by decide)) (callOf_at (by kernel_rfl)))) <| .mu 2 <| .done <| .ret ?_
    obtain rfl := Option.some.inj hr
    exact FinQ.r1 [aB ((v14 : Int) == 0)]

theorem fiducialref02_Value_ok (n : Nat) (x' : api_Rat) (r : api_Rat) (hr : fiducialref02_Value n x' = some r) : FnOk Tryz.prog 127 [.agg [.at (.bool x'.Num.Negative), slT (iC .u32) x'.Num.Groups, .at (.bool x'.Den.Negative), slT (iC .u32) x'.Den.Groups]] (.agg [.at (.bool r.Num.Negative), slT (iC .u32) r.Num.Groups, .at (.bool r.Den.Negative), slT (iC .u32) r.Den.Groups]) := by
 unfold fiducialref02_Value at hr
 refine FnOk.body fine Tryz.func127 (c := (Tryz.f127.body).getD .skip) rfl (s := mkS 7 0 [(0, .agg (api_Rat.c x'))]) (by kernel_rfl) (rs := [.cell 2 37]) rfl ?_
 unfold Tryz.f127
 simp only [Option.getD_some]
 refine .seq <| .rn fine [1, 2] (mkS 7 0 [(1, .hp 0 0), (2, .hp 1 0)]) [.own (api_Rat.c x'), .own [aB false, .at (.slice none 0 0), aB false, .at (.slice none 0 0)]] <| .seq <| .seq ?_
 obtain ⟨v1, hc2, hr⟩ := bd hr
 refine .g1 fine (callOk_val (l := []) rfl (SnL.cons (Sn.pure rfl) SnL.nil) (fiducialref02_Valid_ok n x' v1 hc2)) <| .mu 1 <| .c0 (by kernel_rfl) (callOf_at (by kernel_rfl)) <| .done <| .n1 [1, 2, 4] (mkS 7 0 [(1, .hp 0 0), (2, .hp 1 0), (4, aB v1)]) [.own (api_Rat.c x'), .own [aB false, .at (.slice none 0 0), aB false, .at (.slice none 0 0)]] ?_
 refine .cond (t := v1) (by kernel_rfl) (fun hb3 => ?_) (fun hb3 => ?_)
 ·replace hr := cd_t hb3 hr
  refine .seq <| .rn fine [2] (mkS 7 0 [(2, .hp 1 0)]) [.own (api_Rat.c x'), .own (api_Rat.c x')] <| .ret ?_
  obtain rfl := Option.some.inj hr
  exact FinQ.r1 [.agg (api_Rat.c x')]
 ·replace hr := cd_f hb3 hr
  refine .skip <| .seq ?_
  obtain ⟨v4, hc5, hr⟩ := bd hr
  refine .g1 fine (callOk_ref (l := []) (SnL.cons (Sn.pure rfl) SnL.nil) (fiducialref02_Whole_ok n 0 v4 hc5)) <| .c0 (by kernel_rfl) (callOf_at (by kernel_rfl)) <| .mu 1 <| .done <| .n1 [2] (mkS 7 0 [(2, .hp 1 0)]) [.own (api_Rat.c x'), .own (api_Rat.c v4)] <| .ret ?_
  obtain rfl := Option.some.inj hr
  exact FinQ.r1 [.agg (api_Rat.c v4)]

theorem fiducialref02_Neg_ok (n : Nat) (x' : api_Rat) (r : api_Rat) (hr : fiducialref02_Neg n x' = some r) : FnOk Tryz.prog 128 [.agg [.at (.bool x'.Num.Negative), slT (iC .u32) x'.Num.Groups, .at (.bool x'.Den.Negative), slT (iC .u32) x'.Den.Groups]] (.agg [.at (.bool r.Num.Negative), slT (iC .u32) r.Num.Groups, .at (.bool r.Den.Negative), slT (iC .u32) r.Den.Groups]) := by
 unfold fiducialref02_Neg at hr
 refine FnOk.body fine Tryz.func128 (c := (Tryz.f128.body).getD .skip) rfl (s := mkS 12 0 [(0, .agg (api_Rat.c x'))]) (by kernel_rfl) (rs := [.cell 2 37]) rfl ?_
 unfold Tryz.f128
 simp only [Option.getD_some]
 refine .seq <| .rn fine [1, 2] (mkS 12 0 [(1, .hp 0 0), (2, .hp 1 0)]) [.own (api_Rat.c x'), .own [aB false, .at (.slice none 0 0), aB false, .at (.slice none 0 0)]] <| .seq ?_
 obtain ⟨v1, hc2, hr⟩ := bd hr
 refine .g1 fine (callOk_ref (l := []) (SnL.cons (Sn.pure rfl) SnL.nil) (fiducialref02_Value_ok n x' v1 hc2)) <| .mu 1 <| .c0 (by kernel_rfl) (callOf_at (by kernel_rfl)) <| .mu 2 <| .done <| .n1 [2, 3] (mkS 12 0 [(2, .hp 1 0), (3, .hp 2 0)]) [.own (api_Rat.c x'), .own [aB false, .at (.slice none 0 0), aB false, .at (.slice none 0 0)], .own (api_Rat.c v1)] <| .seq ?_
 obtain ⟨v3, hc4, hr⟩ := bd hr
 refine .t1 fine (callOk_ref (l := []) (SnL.cons (Sn.pure rfl) SnL.nil) (fiducialref01_Neg_ok n v1.Num v3 hc4)) <| .mu 2 <| .cal (by kernel_rfl) (by kernel_rfl) (callOf_at (by kernel_rfl)) (by kernel_rfl) <| .mu 4 ?_
 refine .done ⟨by kernel_rfl, ?_⟩
 refine .n1 [2] (mkS 12 0 [(2, .hp 1 0)]) [.own (api_Rat.c x'), .own [aB v3.Negative, sU32 v3.Groups, aB v1.Den.Negative, sU32 v1.Den.Groups], .own (api_Rat.c v1)] <| .ret ?_
 obtain rfl := Option.some.inj hr
 exact FinQ.r1 [.agg [aB v3.Negative, sU32 v3.Groups, aB v1.Den.Negative, sU32 v1.Den.Groups]]

theorem fiducialref01_Mul_inj {x' : api_Int} {y : api_Int} {x'_ : api_Int} {y_ : api_Int} (h : ([.agg [.at (.bool x'.Negative), slT (iC .u32) x'.Groups], .agg [.at (.bool y.Negative), slT (iC .u32) y.Groups]] : List AV) = [.agg [.at (.bool x'_.Negative), slT (iC .u32) x'_.Groups], .agg [.at (.bool y_.Negative), slT (iC .u32) y_.Groups]]) : x' = x'_ ∧ y = y_ := by
 obtain ⟨_, _⟩ := x'
 obtain ⟨_, _⟩ := x'_
 obtain ⟨_, _⟩ := y
 obtain ⟨_, _⟩ := y_
 simp only [List.cons.injEq, AV.agg.injEq, AV.at.injEq, Value.int.injEq, Value.bool.injEq, AV.fn.injEq, AV.pp.injEq, true_and, and_true, slT_inj_int] at h
 simp_all
theorem fiducialref01_Mul_ok (n : Nat) (x' : api_Int) (y : api_Int) (r : api_Int) (hr : fiducialref01_Mul n x' y = some r) : FnOk Tryz.prog 71 [.agg [.at (.bool x'.Negative), slT (iC .u32) x'.Groups], .agg [.at (.bool y.Negative), slT (iC .u32) y.Groups]] (.agg [.at (.bool r.Negative), slT (iC .u32) r.Groups]) := by
 unfold fiducialref01_Mul at hr
 refine FnOk.body fine Tryz.func71 (c := (Tryz.f71.body).getD .skip) rfl (s := mkS 85 0 [(0, .agg (api_Int.c x')), (1, .agg (api_Int.c y))]) (by kernel_rfl) (rs := [.cell 4 35]) rfl ?_
 unfold Tryz.f71
 simp only [Option.getD_some]
 refine .seq <| .rn fine [2, 3, 4] (mkS 85 0 [(2, .hp 0 0), (3, .hp 1 0), (4, .hp 2 0)]) [.own (api_Int.c x'), .own (api_Int.c y), .own [aB false, .at (.slice none 0 0)]] <| .seq ?_
 obtain ⟨v1, hc2, hr⟩ := bd hr
 obtain ⟨v3, hc4, hr⟩ := bd hr
 refine .regionT fine (callOf_cons (callOk_ref (H := [.own (api_Int.c x'), .own (api_Int.c y), .own [aB false, .at (.slice none 0 0)]]) (l := []) (SnL.cons (Sn.pure rfl) SnL.nil) (fiducialref01_Value_ok n x' v1 hc2)) (callOf_cons (callOk_ref (H := [.own (api_Int.c x'), .own (api_Int.c y), .own [aB false, .at (.slice none 0 0)]]) (l := []) (SnL.cons (Sn.pure rfl) SnL.nil) (fiducialref01_Value_ok n y v3 hc4)) callOf_nil)) <| .mu 1 <| .cal (by kernel_rfl) (by kernel_rfl) (callOf_at (by kernel_rfl)) (by kernel_rfl) <| .mu 1 <| .cal (by kernel_rfl) (by kernel_rfl) (callOf_skip (fun _ h => by obtain e0 := fiducialref01_Value_inj h; rw [show v3 = v1 from Option.some.inj (hc4.symm.trans ((show fiducialref01_Value n y = fiducialref01_Value n x' from (congr rfl e0)).trans hc2))]) (callOf_at (by kernel_rfl))) (by kernel_rfl) <| .mu 2 ?_
 refine .done ⟨by kernel_rfl, ?_⟩
 refine .n1 [2, 3, 4] (mkS 85 0 [(2, .hp 0 0), (3, .hp 1 0), (4, .hp 2 0)]) [.own (api_Int.c v1), .own (api_Int.c v3), .own [aB false, .at (.slice none 0 0)]] <| .seq ?_
 obtain ⟨hg5, hr⟩ := gd hr
 obtain ⟨hg6, hr⟩ := gd hr
 obtain ⟨hg7, hr⟩ := gd hr
 refine .r0 fine <| .mu 7 <| .e0 (v := .hs 3 0 (List.replicate (wrapF .i64 ((v1.Groups.length : Int) + (v3.Groups.length : Int))).toNat (0 : Int)).length 1) (ws := [(3, .own ((List.replicate (wrapF .i64 ((v1.Groups.length : Int) + (v3.Groups.length : Int))).toNat (0 : Int)).flatMap (iC .u32)))]) (Eq.trans (b := guardO (decide (0 ≤ (wrapF .i64 ((v1.Groups.length : Int) + (v3.Groups.length : Int)))) && decide ((wrapF .i64 ((v1.Groups.length : Int) + (v3.Groups.length : Int))) ≤ (wrapF .i64 ((v1.Groups.length : Int) + (v3.Groups.length : Int)))) && decide ((4 : Int) * (wrapF .i64 ((v1.Groups.length : Int) + (v3.Groups.length : Int))) ≤ 281474976710656) && decide ((wrapF .i64 ((v1.Groups.length : Int) + (v3.Groups.length : Int))) ≤ 9223372036854775807) && true && true && true) (some (.eff (.hs 3 0 (wrapF .i64 ((v1.Groups.length : Int) + (v3.Groups.length : Int))).toNat 1) [(3, .own (zerosA [aU32 0] (wrapF .i64 ((v1.Groups.length : Int) + (v3.Groups.length : Int))).toNat))]))) (by kernel_rfl) (make_own (c := (iC .u32)) (z := 0) rfl hg5 hg6 hg7)) <| .mu 1 <| .done <| .n1 [2, 3, 4, 5] (mkS 85 0 [(2, .hp 0 0), (3, .hp 1 0), (4, .hp 2 0), (5, .hs 3 0 (List.replicate (wrapF .i64 ((v1.Groups.length : Int) + (v3.Groups.length : Int))).toNat (0 : Int)).length 1)]) [.own (api_Int.c v1), .own (api_Int.c v3), .own [aB false, .at (.slice none 0 0)], .own ((List.replicate (wrapF .i64 ((v1.Groups.length : Int) + (v3.Groups.length : Int))).toNat (0 : Int)).flatMap (iC .u32))] <| .seq <| .seq <| .rn fine [2, 3, 4, 5, 6] (mkS 85 0 [(2, .hp 0 0), (3, .hp 1 0), (4, .hp 2 0), (5, .hs 3 0 (List.replicate (wrapF .i64 ((v1.Groups.length : Int) + (v3.Groups.length : Int))).toNat (0 : Int)).length 1), (6, aI64 0)]) [.own (api_Int.c v1), .own (api_Int.c v3), .own [aB false, .at (.slice none 0 0)], .own ((List.replicate (wrapF .i64 ((v1.Groups.length : Int) + (v3.Groups.length : Int))).toNat (0 : Int)).flatMap (iC .u32))] <| .block ?_
 replace hr := bd hr; obtain ⟨out_29, hL51, hr⟩ := hr
 refine .loopO (σ := fun z0 => match z0 with | (out_8, i_9) => ⟨mkS 85 0 [(2, .hp 0 0), (3, .hp 1 0), (4, .hp 2 0), (5, .hs 3 0 out_8.length 1), (6, aI64 i_9)], [.own (api_Int.c v1), .own (api_Int.c v3), .own [aB false, .at (.slice none 0 0)], .own (out_8.flatMap (iC .u32))]⟩) (Q := fun x st' => x = .exit 0 ∧ Wk 0 st' ⟨mkS 85 0 [(2, .hp 0 0), (3, .hp 1 0), (4, .hp 2 0), (5, .hs 3 0 out_29.length 1)], [.own (api_Int.c v1), .own (api_Int.c v3), .own [aB false, .at (.slice none 0 0)], .own (out_29.flatMap (iC .u32))]⟩) hL51 ((Wk.gc [2, 3, 4, 5, 6] [(0, true), (1, true), (2, true), (3, false)] rfl (pKt (pKt (pKt (pKo (iC .u32) (iC_pure _) (List.replicate (wrapF .i64 ((v1.Groups.length : Int) + (v3.Groups.length : Int))).toNat (0 : Int)) trivial))))).to (by kernel_rfl)) ?_ ?_
 ·clear hr
  rintro m ⟨out_8, i_9⟩ hr
  show CQ _ _ _ _ _ ⟨_, _⟩
  refine .seq <| .seq <| .rn fine [2, 3, 4, 5, 6, 26] (mkS 85 0 [(2, .hp 0 0), (3, .hp 1 0), (4, .hp 2 0), (5, .hs 3 0 out_8.length 1), (6, aI64 i_9), (26, aB (decide (i_9 < (v1.Groups.length : Int))))]) [.own (api_Int.c v1), .own (api_Int.c v3), .own [aB false, .at (.slice none 0 0)], .own (out_8.flatMap (iC .u32))] ?_
  refine .cond (t := decide (i_9 < (v1.Groups.length : Int))) (by kernel_rfl) (fun hb31 => ?_) (fun hb31 => ?_)
  ·replace hr := cd_t hb31 hr
   refine .skip <| .seq <| .block <| .seq <| .rn fine [2, 3, 4, 5, 6, 7] (mkS 85 0 [(2, .hp 0 0), (3, .hp 1 0), (4, .hp 2 0), (5, .hs 3 0 out_8.length 1), (6, aI64 i_9), (7, aU64 0)]) [.own (api_Int.c v1), .own (api_Int.c v3), .own [aB false, .at (.slice none 0 0)], .own (out_8.flatMap (iC .u32))] <| .seq <| .seq <| .rn fine [2, 3, 4, 5, 6, 7, 8] (mkS 85 0 [(2, .hp 0 0), (3, .hp 1 0), (4, .hp 2 0), (5, .hs 3 0 out_8.length 1), (6, aI64 i_9), (7, aU64 0), (8, aI64 0)]) [.own (api_Int.c v1), .own (api_Int.c v3), .own [aB false, .at (.slice none 0 0)], .own (out_8.flatMap (iC .u32))] <| .block ?_
   replace hr := bd hr; obtain ⟨o46, hL47, hr⟩ := hr
   refine .loopO (σ := fun z0 => match z0 with | (out_32, carry_33, j_34) => ⟨mkS 85 0 [(2, .hp 0 0), (3, .hp 1 0), (4, .hp 2 0), (5, .hs 3 0 out_32.length 1), (6, aI64 i_9), (7, aU64 carry_33), (8, aI64 j_34)], [.own (api_Int.c v1), .own (api_Int.c v3), .own [aB false, .at (.slice none 0 0)], .own (out_32.flatMap (iC .u32))]⟩) (Q := fun x st' => match (generalizing := false) o46 with | (out_39, carry_40) => x = .exit 2 ∧ Wk 0 st' ⟨mkS 85 0 [(2, .hp 0 0), (3, .hp 1 0), (4, .hp 2 0), (5, .hs 3 0 out_39.length 1), (6, aI64 i_9), (7, aU64 carry_40)], [.own (api_Int.c v1), .own (api_Int.c v3), .own [aB false, .at (.slice none 0 0)], .own (out_39.flatMap (iC .u32))]⟩) hL47 ((Wk.gc [2, 3, 4, 5, 6, 7, 8] [(0, true), (1, true), (2, true), (3, false)] rfl (pKt (pKt (pKt (pKo (iC .u32) (iC_pure _) out_8 trivial))))).to (by kernel_rfl)) ?_ ?_
   ·clear hr
    rintro m ⟨out_32, carry_33, j_34⟩ hr
    show CQ _ _ _ _ _ ⟨_, _⟩
    refine .seq <| .seq <| .rn fine [2, 3, 4, 5, 6, 7, 8, 33] (mkS 85 0 [(2, .hp 0 0), (3, .hp 1 0), (4, .hp 2 0), (5, .hs 3 0 out_32.length 1), (6, aI64 i_9), (7, aU64 carry_33), (8, aI64 j_34), (33, aB (decide (j_34 < (v3.Groups.length : Int))))]) [.own (api_Int.c v1), .own (api_Int.c v3), .own [aB false, .at (.slice none 0 0)], .own (out_32.flatMap (iC .u32))] ?_
    refine .cond (t := decide (j_34 < (v3.Groups.length : Int))) (by kernel_rfl) (fun hb42 => ?_) (fun hb42 => ?_)
    ·replace hr := cd_t hb42 hr
     refine .skip <| .seq <| .block <| .seq ?_
     obtain ⟨hg43, hr⟩ := gd hr
     obtain ⟨hg44, hr⟩ := gd hr
     obtain ⟨hg45, hr⟩ := gd hr
     refine .regionT fine callOf_nil <| .mu 4 <| .pure (v := .hp 3 (0 + (wrapF .i64 (i_9 + j_34)).toNat * 1)) (by kernel_rfl) (Eq.trans (b := ORes.ofP (guardV (inR (wrapF .i64 (i_9 + j_34)) out_32.length) (.hp 3 (0 + (wrapF .i64 (i_9 + j_34)).toNat * 1)))) (by kernel_rfl) (ofP_guard hg43)) (by kernel_rfl) <| .pure (v := aU32 (gt out_32 (wrapF .i64 (i_9 + j_34)))) (by kernel_rfl) (Eq.trans (b := ORes.ofP ((out_32.flatMap (iC .u32))[0 + (wrapF .i64 (i_9 + j_34)).toNat * 1]?)) (by kernel_rfl) (ofP_some (flat_get (iC_len _) (inR_lt hg43) (by decide : 0 < 1) (by omega : 0 + (wrapF .i64 (i_9 + j_34)).toNat * 1 = (wrapF .i64 (i_9 + j_34)).toNat * 1 + 0) (by kernel_rfl)))) (by kernel_rfl) <| .mu 4 <| .pure (v := .pp (v1.Groups.flatMap (iC .u32)) (i_9.toNat * 1)) (by kernel_rfl) (Eq.trans (b := ORes.ofP (guardV (inR i_9 v1.Groups.length) (.pp (v1.Groups.flatMap (iC .u32)) (i_9.toNat * 1)))) (by kernel_rfl) (ofP_guard hg44)) (by kernel_rfl) <| .pure (v := aU32 (gt v1.Groups i_9)) (by kernel_rfl) (Eq.trans (b := ORes.ofP ((v1.Groups.flatMap (iC .u32))[i_9.toNat * 1]?)) (by kernel_rfl) (ofP_some (flat_get (iC_len _) (inR_lt hg44) (by decide : 0 < 1) (by omega : i_9.toNat * 1 = i_9.toNat * 1 + 0) (by kernel_rfl)))) (by kernel_rfl) <| .mu 4 <| .pure (v := .pp (v3.Groups.flatMap (iC .u32)) (j_34.toNat * 1)) (by kernel_rfl) (Eq.trans (b := ORes.ofP (guardV (inR j_34 v3.Groups.length) (.pp (v3.Groups.flatMap (iC .u32)) (j_34.toNat * 1)))) (by kernel_rfl) (ofP_guard hg45)) (by kernel_rfl) <| .pure (v := aU32 (gt v3.Groups j_34)) (by kernel_rfl) (Eq.trans (b := ORes.ofP ((v3.Groups.flatMap (iC .u32))[j_34.toNat * 1]?)) (by kernel_rfl) (ofP_some (flat_get (iC_len _) (inR_lt hg45) (by decide : 0 < 1) (by omega : j_34.toNat * 1 = j_34.toNat * 1 + 0) (by kernel_rfl)))) (by kernel_rfl) <| .mu 6 ?_
     refine .done ⟨by kernel_rfl, ?_⟩
     refine .n1 [2, 3, 4, 5, 6, 8, 9] (mkS 85 0 [(2, .hp 0 0), (3, .hp 1 0), (4, .hp 2 0), (5, .hs 3 0 out_32.length 1), (6, aI64 i_9), (8, aI64 j_34), (9, aU64 (wrapF .u64 ((wrapF .u64 ((wrapF .u64 (gt out_32 (wrapF .i64 (i_9 + j_34)))) + (wrapF .u64 ((wrapF .u64 (gt v1.Groups i_9)) * (wrapF .u64 (gt v3.Groups j_34)))))) + carry_33)))]) [.own (api_Int.c v1), .own (api_Int.c v3), .own [aB false, .at (.slice none 0 0)], .own (out_32.flatMap (iC .u32))] <| .seq <| .r0 fine <| .mu 7 <| .p0 (v := .hp 3 (0 + (wrapF .i64 (i_9 + j_34)).toNat * 1)) (Eq.trans (b := ORes.ofP (guardV (inR (wrapF .i64 (i_9 + j_34)) out_32.length) (.hp 3 (0 + (wrapF .i64 (i_9 + j_34)).toNat * 1)))) (by kernel_rfl) (ofP_guard hg43)) <| .e0 (v := .unk) (ws := [(3, .own ((out_32.set (wrapF .i64 (i_9 + j_34)).toNat (wrapF .u32 ((wrapF .u64 ((wrapF .u64 ((wrapF .u64 (gt out_32 (wrapF .i64 (i_9 + j_34)))) + (wrapF .u64 ((wrapF .u64 (gt v1.Groups i_9)) * (wrapF .u64 (gt v3.Groups j_34)))))) + carry_33)).tmod 1000000000))).flatMap (iC .u32)))]) (Eq.trans (b := stO (decide ((0 + (wrapF .i64 (i_9 + j_34)).toNat * 1) + 1 ≤ (out_32.flatMap (iC .u32)).length) && true) [(3, .own (setCells (out_32.flatMap (iC .u32)) (0 + (wrapF .i64 (i_9 + j_34)).toNat * 1) [aU32 (wrapF .u32 ((wrapF .u64 ((wrapF .u64 ((wrapF .u64 (gt out_32 (wrapF .i64 (i_9 + j_34)))) + (wrapF .u64 ((wrapF .u64 (gt v1.Groups i_9)) * (wrapF .u64 (gt v3.Groups j_34)))))) + carry_33)).tmod 1000000000))]))]) (by kernel_rfl) (stO_t (and_t (flat_fits (iC_len _) (inR_lt hg43) (Nat.le_of_ble_eq_true rfl) (by omega : 0 + (wrapF .i64 (i_9 + j_34)).toNat * 1 = (wrapF .i64 (i_9 + j_34)).toNat * 1 + 0))) (congrArg Blk.own (flat_set (iC_len _) (inR_lt hg43) (Nat.le_of_ble_eq_true rfl) (by omega : 0 + (wrapF .i64 (i_9 + j_34)).toNat * 1 = (wrapF .i64 (i_9 + j_34)).toNat * 1 + 0) (by kernel_rfl))))) <| .done <| .n1 [2, 3, 4, 5, 6, 8, 9] (mkS 85 0 [(2, .hp 0 0), (3, .hp 1 0), (4, .hp 2 0), (5, .hs 3 0 out_32.length 1), (6, aI64 i_9), (8, aI64 j_34), (9, aU64 (wrapF .u64 ((wrapF .u64 ((wrapF .u64 (gt out_32 (wrapF .i64 (i_9 + j_34)))) + (wrapF .u64 ((wrapF .u64 (gt v1.Groups i_9)) * (wrapF .u64 (gt v3.Groups j_34)))))) + carry_33)))]) [.own (api_Int.c v1), .own (api_Int.c v3), .own [aB false, .at (.slice none 0 0)], .own ((out_32.set (wrapF .i64 (i_9 + j_34)).toNat (wrapF .u32 ((wrapF .u64 ((wrapF .u64 ((wrapF .u64 (gt out_32 (wrapF .i64 (i_9 + j_34)))) + (wrapF .u64 ((wrapF .u64 (gt v1.Groups i_9)) * (wrapF .u64 (gt v3.Groups j_34)))))) + carry_33)).tmod 1000000000))).flatMap (iC .u32))] <| .ru fine <| .pop <| .ru fine ?_
     exact loopF_back (out_32.set (wrapF .i64 (i_9 + j_34)).toNat (wrapF .u32 ((wrapF .u64 ((wrapF .u64 ((wrapF .u64 (gt out_32 (wrapF .i64 (i_9 + j_34)))) + (wrapF .u64 ((wrapF .u64 (gt v1.Groups i_9)) * (wrapF .u64 (gt v3.Groups j_34)))))) + carry_33)).tmod 1000000000)), wrapF .u64 ((wrapF .u64 ((wrapF .u64 ((wrapF .u64 (gt out_32 (wrapF .i64 (i_9 + j_34)))) + (wrapF .u64 ((wrapF .u64 (gt v1.Groups i_9)) * (wrapF .u64 (gt v3.Groups j_34)))))) + carry_33)).tdiv 1000000000), wrapF .i64 (j_34 + 1)) hr ((Wk.relen 5 (b := 3) (es := 1) (len := out_32.length) (out_32.set (wrapF .i64 (i_9 + j_34)).toNat (wrapF .u32 ((wrapF .u64 ((wrapF .u64 ((wrapF .u64 (gt out_32 (wrapF .i64 (i_9 + j_34)))) + (wrapF .u64 ((wrapF .u64 (gt v1.Groups i_9)) * (wrapF .u64 (gt v3.Groups j_34)))))) + carry_33)).tmod 1000000000))).length (by kernel_rfl) (by simp)).trans ((Wk.gc [2, 3, 4, 5, 6, 7, 8] [(0, true), (1, true), (2, true), (3, false)] rfl (pKt (pKt (pKt (pKo (iC .u32) (iC_pure _) (out_32.set (wrapF .i64 (i_9 + j_34)).toNat (wrapF .u32 ((wrapF .u64 ((wrapF .u64 ((wrapF .u64 (gt out_32 (wrapF .i64 (i_9 + j_34)))) + (wrapF .u64 ((wrapF .u64 (gt v1.Groups i_9)) * (wrapF .u64 (gt v3.Groups j_34)))))) + carry_33)).tmod 1000000000))) trivial))))).to (by kernel_rfl)))
    ·replace hr := cd_f hb42 hr
     refine .leave rfl ?_
     obtain rfl := Option.some.inj hr
     exact ⟨rfl, ((Wk.gc [2, 3, 4, 5, 6, 7] [(0, true), (1, true), (2, true), (3, false)] rfl (pKt (pKt (pKt (pKo (iC .u32) (iC_pure _) out_32 trivial))))).to (by kernel_rfl))⟩
   ·rcases o46 with ⟨out_39, carry_40⟩
    rintro x st' hq48
    clear hL47
    obtain ⟨rfl, hq48⟩ := hq48
    refine CQ_exit _ rfl <| .wk hq48 ?_
    obtain ⟨hg49, hr⟩ := gd hr
    refine .r0 fine <| .mu 8 <| .p0 (v := .hp 3 (0 + (wrapF .i64 (i_9 + (v3.Groups.length : Int))).toNat * 1)) (Eq.trans (b := ORes.ofP (guardV (inR (wrapF .i64 (i_9 + (v3.Groups.length : Int))) out_39.length) (.hp 3 (0 + (wrapF .i64 (i_9 + (v3.Groups.length : Int))).toNat * 1)))) (by kernel_rfl) (ofP_guard hg49)) <| .e0 (v := .unk) (ws := [(3, .own ((out_39.set (wrapF .i64 (i_9 + (v3.Groups.length : Int))).toNat (wrapF .u32 carry_40)).flatMap (iC .u32)))]) (Eq.trans (b := stO (decide ((0 + (wrapF .i64 (i_9 + (v3.Groups.length : Int))).toNat * 1) + 1 ≤ (out_39.flatMap (iC .u32)).length) && true) [(3, .own (setCells (out_39.flatMap (iC .u32)) (0 + (wrapF .i64 (i_9 + (v3.Groups.length : Int))).toNat * 1) [aU32 (wrapF .u32 carry_40)]))]) (by kernel_rfl) (stO_t (and_t (flat_fits (iC_len _) (inR_lt hg49) (Nat.le_of_ble_eq_true rfl) (by omega : 0 + (wrapF .i64 (i_9 + (v3.Groups.length : Int))).toNat * 1 = (wrapF .i64 (i_9 + (v3.Groups.length : Int))).toNat * 1 + 0))) (congrArg Blk.own (flat_set (iC_len _) (inR_lt hg49) (Nat.le_of_ble_eq_true rfl) (by omega : 0 + (wrapF .i64 (i_9 + (v3.Groups.length : Int))).toNat * 1 = (wrapF .i64 (i_9 + (v3.Groups.length : Int))).toNat * 1 + 0) (by kernel_rfl))))) <| .done <| .pop <| .ru fine ?_
    exact loopF_back (out_39.set (wrapF .i64 (i_9 + (v3.Groups.length : Int))).toNat (wrapF .u32 carry_40), wrapF .i64 (i_9 + 1)) hr ((Wk.relen 5 (b := 3) (es := 1) (len := out_39.length) (out_39.set (wrapF .i64 (i_9 + (v3.Groups.length : Int))).toNat (wrapF .u32 carry_40)).length (by kernel_rfl) (by simp)).trans ((Wk.gc [2, 3, 4, 5, 6] [(0, true), (1, true), (2, true), (3, false)] rfl (pKt (pKt (pKt (pKo (iC .u32) (iC_pure _) (out_39.set (wrapF .i64 (i_9 + (v3.Groups.length : Int))).toNat (wrapF .u32 carry_40)) trivial))))).to (by kernel_rfl)))
  ·replace hr := cd_f hb31 hr
   refine .leave rfl ?_
   obtain rfl := Option.some.inj hr
   exact ⟨rfl, ((Wk.gc [2, 3, 4, 5] [(0, true), (1, true), (2, true), (3, false)] rfl (pKt (pKt (pKt (pKo (iC .u32) (iC_pure _) out_8 trivial))))).to (by kernel_rfl))⟩
 ·rintro x st' hq52
  clear hL51
  obtain ⟨rfl, hq52⟩ := hq52
  refine CQ_exit _ rfl <| .wk hq52 <| .seq ?_
  obtain ⟨v53, hc54, hr⟩ := bd hr
  refine .g1 fine (callOk_ref (args := [aB (v1.Negative != v3.Negative), .hs 3 0 out_29.length 1]) (l := [3]) (SnL.cons (Sn.pure rfl) (SnL.cons (Sn.hs rfl (.inl rfl) (SnC.pure (ids_flat (iC_pure _) _)) (fun h => flat_nil0 h)) SnL.nil)) (fiducialref01_made_ok n (v1.Negative != v3.Negative) out_29 v53 hc54)) <| .mu 6 <| .c0 (by kernel_rfl) (callOf_at (by kernel_rfl)) <| .mu 1 <| .done <| .n1 [4] (mkS 85 0 [(4, .hp 2 0)]) [.own (api_Int.c v1), .own (api_Int.c v3), .own (api_Int.c v53), .fix (out_29.flatMap (iC .u32))] <| .ret ?_
  obtain rfl := Option.some.inj hr
  exact FinQ.r1 [.agg (api_Int.c v53)]
end Go.L
