/- The program's functions compute what the plain Lean programs compute, part 4; printed by a program. -/
import Derived.Test.YtlmndpmjbgnmbaaGreatIntLP3
import Derived.Test.YtlmndpmjbgnmbaaGreatL0mmlkdoca
import Derived.Test.YtlmndpmjbgnmbaaGreatSmallfiaajajl
import Derived.Test.YtlmndpmjbgnmbaaGreatChecked
import Derived.KernelRfl
set_option linter.unusedVariables false
set_option linter.unusedSimpArgs false
set_option maxRecDepth 100000
set_option maxHeartbeats 4000000
namespace Go.L
open Go Go.Eng Go.Proofs
theorem fiduciallaw46_DepthIntervals_1_ok (n : Nat) (p : Int) (p' : Int) (p'' : List Int) (p''' : Int) (p'''' : Int) (r : api_Field) (hr : fiduciallaw46_DepthIntervals_1 n p p' p'' p''' p'''' = some r) : FnOk Tryz.prog 25 [.pp [aI64 p, aI64 p', sI64 p''] 0, .pp [aI64 p''', aI64 p''''] 0] (.agg (api_Field.c r)) := by
 unfold fiduciallaw46_DepthIntervals_1 at hr
 refine FnOk.bd fine Tryz.func25 [.cell 2 24] ?_
 unfold Tryz.f25
 simp only [Option.getD_some]
 refine .seq <| .r2 fine 9 [(0, .pp [aI64 p, aI64 p', sI64 p''] 0), (1, .pp [aI64 p''', aI64 p''''] 0), (2, .hp 0 0)] [.own [aI64 0, aI64 0, nS]] <| .seq ?_
 obtain ⟨v1, hc2, hr⟩ := bd hr
 refine .g1 fine (ok0 (fiduciallaw46_Depths_ok n (api_Field.mk p p' p'') p''' p'''' v1 hc2)) <| .mu 5 <| .ca cf0 <| .mu 1 <| .done <| .n2 9 [(2, .hp 0 0)] [.own (api_Field.c v1)] <| .ret ?_
 obtain rfl := Option.some.inj hr
 exact FinQ.r1 [.agg (api_Field.c v1)]

theorem fiduciallaw46_is_of_fiduciallaw46_DepthIntervals_1_ok (n : Nat) (f : api_Field) (c : Int) (want : Int) (c' : Int) (c'' : Int) (c''' : List Int) (c'''' : Int) (c''''' : Int) (r : Bool) (hr : fiduciallaw46_is_of_fiduciallaw46_DepthIntervals_1 n f c want c' c'' c''' c'''' c''''' = some r) : FnOk Tryz.prog 16 [.agg (api_Field.c f), aI64 c, aI64 want, .fn 25 [] [.pp [aI64 c', aI64 c'', sI64 c'''] 0, .pp [aI64 c'''', aI64 c'''''] 0]] (aB r) := by
 unfold fiduciallaw46_is_of_fiduciallaw46_DepthIntervals_1 at hr
 refine FnOk.bd fine Tryz.func16 [.tmp 8] ?_
 unfold Tryz.f16
 simp only [Option.getD_some]
 refine .seq <| .r2 fine 26 [(1, aI64 c), (2, aI64 want), (3, .fn 25 [] [.pp [aI64 c', aI64 c'', sI64 c'''] 0, .pp [aI64 c'''', aI64 c'''''] 0]), (4, .hp 0 0)] [.own (api_Field.c f)] <| .seq <| .seq <| .r3 fine 26 [(1, aI64 c), (2, aI64 want), (3, .fn 25 [] [.pp [aI64 c', aI64 c'', sI64 c'''] 0, .pp [aI64 c'''', aI64 c'''''] 0]), (4, .hp 0 0), (10, aB ((want : Int) != 0))] ?_
 refine .cd hr (fun hb1 hr => ?_) (fun hb1 hr => ?_)
 ·refine .seq ?_
  rcases Bool.eq_false_or_eq_true ((c : Int) == want) with hb2 | hb2
  ·replace hr := cd_t hb2 hr
   obtain ⟨v3, hc4, hr⟩ := bd hr
   refine .g1 fine (ok0 (fiduciallaw46_empty_ok n f v3 hc4)) <| .mu 2 <| .p0 (v := aB true) (Eq.trans (b := some (.pure (aB ((c : Int) == want)))) (by kernel_rfl) (by rw [hb2])) <| .mu 2 <| .ca cf0 <| .mu 2 <| .done <| .ret ?_
   obtain rfl := Option.some.inj hr
   exact FinQ.r1 [aB v3]
  ·replace hr := cd_f hb2 hr
   refine .r0 fine <| .mu 2 <| .p0 (v := aB false) (Eq.trans (b := some (.pure (aB ((c : Int) == want)))) (by kernel_rfl) (by rw [hb2])) <| .mu 5 <| .done <| .ret ?_
   obtain rfl := Option.some.inj hr
   exact FinQ.r1 [aB false]
 ·refine .skip <| .seq ?_
  rcases Bool.eq_false_or_eq_true ((c : Int) == 0) with hb5 | hb5
  ·replace hr := cd_t hb5 hr
   obtain ⟨v6, hc7, v8, hc9, hr⟩ := bd2 hr
   refine .tn fine (ca1 (ok0 (fiduciallaw46_DepthIntervals_1_ok n c' c'' c''' c'''' c''''' v6 hc7)) (ca3 (ok0 (fiduciallaw46_Same_ok n f v6 v8 hc9)))) <| .mu 1 <| .pure (v := aB true) (by kernel_rfl) (Eq.trans (b := some (.pure (aB ((c : Int) == 0)))) (by kernel_rfl) (by rw [hb5])) (by kernel_rfl) <| .mu 3 <| .ca cf0 <| .ca (cfF cf0) <| .mu 2 ?_
   refine .done ⟨by kernel_rfl, ?_⟩
   refine .ret ?_
   obtain rfl := Option.some.inj hr
   exact FinQ.r1 [aB v8]
  ·replace hr := cd_f hb5 hr
   refine .regionT fine callOf_nil <| .mu 1 <| .pure (v := aB false) (by kernel_rfl) (Eq.trans (b := some (.pure (aB ((c : Int) == 0)))) (by kernel_rfl) (by rw [hb5])) (by kernel_rfl) <| .mu 7 ?_
   refine .done ⟨by kernel_rfl, ?_⟩
   refine .ret ?_
   obtain rfl := Option.some.inj hr
   exact FinQ.r1 [aB false]

theorem fiducialref02_Zero_inj {x' : api_Rat} {x'_ : api_Rat} (h : ([.agg [.at (.bool x'.Num.Negative), slT (iC .u32) x'.Num.Groups, .at (.bool x'.Den.Negative), slT (iC .u32) x'.Den.Groups]] : List AV) = [.agg [.at (.bool x'_.Num.Negative), slT (iC .u32) x'_.Num.Groups, .at (.bool x'_.Den.Negative), slT (iC .u32) x'_.Den.Groups]]) : x' = x'_ := by
 obtain ⟨⟨_, _⟩, ⟨_, _⟩⟩ := x'
 obtain ⟨⟨_, _⟩, ⟨_, _⟩⟩ := x'_
 simp only [List.cons.injEq, AV.agg.injEq, AV.at.injEq, Value.int.injEq, Value.bool.injEq, AV.fn.injEq, AV.pp.injEq, true_and, and_true, slT_inj_int] at h
 simp_all
theorem fiducialref02_Zero_cg (n : Nat) {x' : api_Rat} {x'_ : api_Rat} (h : ([.agg [.at (.bool x'.Num.Negative), slT (iC .u32) x'.Num.Groups, .at (.bool x'.Den.Negative), slT (iC .u32) x'.Den.Groups]] : List AV) = [.agg [.at (.bool x'_.Num.Negative), slT (iC .u32) x'_.Num.Groups, .at (.bool x'_.Den.Negative), slT (iC .u32) x'_.Den.Groups]]) : fiducialref02_Zero n x' = fiducialref02_Zero n x'_ := by
 obtain rfl := fiducialref02_Zero_inj h
 rfl
theorem fiducialref02_Zero_ok (n : Nat) (x' : api_Rat) (r : Bool) (hr : fiducialref02_Zero n x' = some r) : FnOk Tryz.prog 27 [.agg (api_Rat.c x')] (aB r) := by
 unfold fiducialref02_Zero at hr
 refine FnOk.bd fine Tryz.func27 [.tmp 2] ?_
 unfold Tryz.f27
 simp only [Option.getD_some]
 refine .seq <| .r2 fine 27 [(1, .hp 0 0)] [.own (api_Rat.c x')] <| .seq ?_
 rcases Bool.eq_false_or_eq_true (!x'.Num.Negative) with hb1 | hb1
 ·replace hr := cd_t hb1 hr
  rcases Bool.eq_false_or_eq_true (!x'.Den.Negative) with hb2 | hb2
  ·replace hr := cd_t hb2 hr
   rcases Bool.eq_false_or_eq_true (((x'.Num.Groups.length : Int) : Int) == 0) with hb3 | hb3
   ·replace hr := cd_t hb3 hr
    refine .r0 fine <| .mu 3 <| .p0 (v := aB true) (Eq.trans (b := some (.pure (aB (!x'.Num.Negative)))) (by kernel_rfl) (by rw [hb1])) <| .mu 4 <| .pure (v := aB true) (by kernel_rfl) (Eq.trans (b := some (.pure (aB (!x'.Den.Negative)))) (by kernel_rfl) (by rw [hb2])) <| .mu 6 <| .pure (v := aB true) (by kernel_rfl) (Eq.trans (b := some (.pure (aB (((x'.Num.Groups.length : Int) : Int) == 0)))) (by kernel_rfl) (by rw [hb3])) <| .mu 9 <| .done <| .ret ?_
    obtain rfl := Option.some.inj hr
    exact FinQ.r1 [aB (((x'.Den.Groups.length : Int) : Int) == 0)]
   ·replace hr := cd_f hb3 hr
    refine .r0 fine <| .mu 3 <| .p0 (v := aB true) (Eq.trans (b := some (.pure (aB (!x'.Num.Negative)))) (by kernel_rfl) (by rw [hb1])) <| .mu 4 <| .pure (v := aB true) (by kernel_rfl) (Eq.trans (b := some (.pure (aB (!x'.Den.Negative)))) (by kernel_rfl) (by rw [hb2])) <| .mu 6 <| .pure (v := aB false) (by kernel_rfl) (Eq.trans (b := some (.pure (aB (((x'.Num.Groups.length : Int) : Int) == 0)))) (by kernel_rfl) (by rw [hb3])) <| .mu 9 <| .done <| .ret ?_
    obtain rfl := Option.some.inj hr
    exact FinQ.r1 [aB false]
  ·replace hr := cd_f hb2 hr
   refine .r0 fine <| .mu 3 <| .p0 (v := aB true) (Eq.trans (b := some (.pure (aB (!x'.Num.Negative)))) (by kernel_rfl) (by rw [hb1])) <| .mu 4 <| .pure (v := aB false) (by kernel_rfl) (Eq.trans (b := some (.pure (aB (!x'.Den.Negative)))) (by kernel_rfl) (by rw [hb2])) <| .mu 16 <| .done <| .ret ?_
   obtain rfl := Option.some.inj hr
   exact FinQ.r1 [aB false]
 ·replace hr := cd_f hb1 hr
  refine .r0 fine <| .mu 3 <| .p0 (v := aB false) (Eq.trans (b := some (.pure (aB (!x'.Num.Negative)))) (by kernel_rfl) (by rw [hb1])) <| .mu 21 <| .done <| .ret ?_
  obtain rfl := Option.some.inj hr
  exact FinQ.r1 [aB false]

theorem fiducialref02_New_ok (n : Nat) (num : api_Int) (den : api_Int) (r : api_Rat × Int) (hr : fiducialref02_New n num den = some r) : FnOk Tryz.prog 98 [.agg (api_Int.c num), .agg (api_Int.c den)] (.tup [.agg (api_Rat.c r.1), aI64 r.2]) := by
 unfold fiducialref02_New at hr
 refine FnOk.bd fine Tryz.func98 [.cell 4 43, .tmp 5] ?_
 unfold Tryz.f98
 simp only [Option.getD_some]
 refine .seq <| .r2 fine 13 [(2, .hp 0 0), (3, .hp 1 0), (4, .hp 2 0)] [.own (api_Int.c num), .own (api_Int.c den), .own [aB false, nS, aB false, nS]] <| .seq <| .seq ?_
 obtain ⟨v1, hc2, hr⟩ := bd hr
 refine .g1 fine (ok0 (fiducialref01_Sign_ok n den v1 hc2)) <| .mu 1 <| .ca cf0 <| .mu 1 <| .done <| .n2 13 [(2, .hp 0 0), (3, .hp 1 0), (4, .hp 2 0), (8, aB ((v1 : Int) == 0))] [.own (api_Int.c num), .own (api_Int.c den), .own [aB false, nS, aB false, nS]] ?_
 refine .cd hr (fun hb3 hr => ?_) (fun hb3 hr => ?_)
 ·refine .seq <| .r3 fine 13 [(4, .hp 2 0), (5, aI64 14)] <| .ret ?_
  obtain rfl := Option.some.inj hr
  exact FinQ.ret (vs := [.agg [aB false, nS, aB false, nS], aI64 14]) (by kernel_rfl) (Sn.tup (SnL.cons (Sn.agg (SnL.cons (Sn.pure rfl) (SnL.cons Sn.nilsl (SnL.cons (Sn.pure rfl) (SnL.cons Sn.nilsl SnL.nil))))) (SnL.cons (Sn.pure rfl) SnL.nil)))
 ·refine .skip <| .seq ?_
  obtain ⟨v4, hc5, hr⟩ := bd hr
  refine .g1 fine (ok0 (fiducialref02_reduced_ok n num den v4 hc5)) <| .mu 2 <| .ca cf0 <| .mu 2 <| .done <| .n2 13 [(4, .hp 2 0), (5, aI64 0)] [.own (api_Int.c num), .own (api_Int.c den), .own (api_Rat.c v4)] <| .ret ?_
  obtain rfl := Option.some.inj hr
  exact FinQ.ret (vs := [.agg (api_Rat.c v4), aI64 0]) (by kernel_rfl) (Sn.tup (SnL.cons (Sn.pure rfl) (SnL.cons (Sn.pure rfl) SnL.nil)))

theorem fiducialref02_Of_ok (n : Nat) (n' : Int) (d : Int) (r : api_Rat × Int) (hr : fiducialref02_Of n n' d = some r) : FnOk Tryz.prog 71 [aI64 n', aI64 d] (.tup [.agg (api_Rat.c r.1), aI64 r.2]) := by
 unfold fiducialref02_Of at hr
 refine FnOk.bd fine Tryz.func71 [.cell 4 43, .tmp 5] ?_
 unfold Tryz.f71
 simp only [Option.getD_some]
 refine .seq <| .r2 fine 13 [(0, aI64 n'), (1, aI64 d), (4, .hp 0 0)] [.own [aB false, nS, aB false, nS]] <| .seq ?_
 obtain ⟨v1, hc2, v3, hc4, v5, hc6, hr⟩ := bd3 hr
 refine .gn fine (ca1 (ok0 (fiducialref02_whole_ok n n' v1 hc2)) (ca1 (ok0 (fiducialref02_whole_ok n d v3 hc4)) (ca3 (ok0 (fiducialref02_New_ok n v1 v3 v5 hc6))))) <| .mu 1 <| .ca cf0 <| .mu 1 <| .ca (cfA (fun h => by rw [sv hc4 hc2 (fiducialref02_whole_cg n h)]) cf0) <| .ca (cfF (cfF cf0)) <| .mu 4 <| .done <| .n2 13 [(4, .hp 0 0), (5, aI64 v5.2)] [.own (api_Rat.c v5.1)] <| .ret ?_
 obtain rfl := Option.some.inj hr
 exact FinQ.ret (vs := [.agg (api_Rat.c v5.1), aI64 v5.2]) (by kernel_rfl) (Sn.tup (SnL.cons (Sn.pure rfl) (SnL.cons (Sn.pure rfl) SnL.nil)))

theorem fiduciallaw46_quotient_inj {focal : Int} {base : Int} {halves : Int} {focal_ : Int} {base_ : Int} {halves_ : Int} (h : ([.at (.int .i64 focal), .at (.int .i64 base), .at (.int .i64 halves)] : List AV) = [.at (.int .i64 focal_), .at (.int .i64 base_), .at (.int .i64 halves_)]) : focal = focal_ ∧ base = base_ ∧ halves = halves_ := by
 simp only [List.cons.injEq, AV.agg.injEq, AV.at.injEq, Value.int.injEq, Value.bool.injEq, AV.fn.injEq, AV.pp.injEq, true_and, and_true] at h
 simp_all
theorem fiduciallaw46_quotient_cg (n : Nat) {focal : Int} {base : Int} {halves : Int} {focal_ : Int} {base_ : Int} {halves_ : Int} (h : ([.at (.int .i64 focal), .at (.int .i64 base), .at (.int .i64 halves)] : List AV) = [.at (.int .i64 focal_), .at (.int .i64 base_), .at (.int .i64 halves_)]) : fiduciallaw46_quotient n focal base halves = fiduciallaw46_quotient n focal_ base_ halves_ := by
 obtain ⟨rfl, rfl, rfl⟩ := fiduciallaw46_quotient_inj h
 rfl
theorem fiduciallaw46_quotient_ok (n : Nat) (focal : Int) (base : Int) (halves : Int) (r : api_Rat) (hr : fiduciallaw46_quotient n focal base halves = some r) : FnOk Tryz.prog 29 [aI64 focal, aI64 base, aI64 halves] (.agg (api_Rat.c r)) := by
 unfold fiduciallaw46_quotient at hr
 refine FnOk.bd fine Tryz.func29 [.cell 6 43] ?_
 unfold Tryz.f29
 simp only [Option.getD_some]
 refine .seq <| .r2 fine 19 [(0, aI64 focal), (1, aI64 base), (2, aI64 halves), (6, .hp 0 0)] [.own [aB false, nS, aB false, nS]] <| .seq ?_
 obtain ⟨v1, hc2, hr⟩ := bd hr
 refine .g1 fine (ok0 (fiducialref02_Of_ok n (wrapF .i64 (focal * base)) (wrapF .i64 (32 * halves)) v1 hc2)) <| .mu 5 <| .ca cf0 <| .mu 6 <| .done <| .n2 19 [(6, .hp 0 0), (7, .hp 1 0)] [.own [aB false, nS, aB false, nS], .own (api_Rat.c v1.1)] <| .seq <| .r2 fine 19 [(6, .hp 0 0)] [.own (api_Rat.c v1.1), .own (api_Rat.c v1.1)] <| .ret ?_
 obtain rfl := Option.some.inj hr
 exact FinQ.r1 [.agg (api_Rat.c v1.1)]

theorem fiducialref02_SameRange_ok (n : Nat) (a : api_Range) (b : api_Range) (r : Bool) (hr : fiducialref02_SameRange n a b = some r) : FnOk Tryz.prog 28 [.agg (api_Range.c a), .agg (api_Range.c b)] (aB r) := by
 unfold fiducialref02_SameRange at hr
 refine FnOk.bd fine Tryz.func28 [.tmp 4] ?_
 unfold Tryz.f28
 simp only [Option.getD_some]
 refine .seq <| .r2 fine 17 [(2, .hp 0 0), (3, .hp 1 0)] [.own (api_Range.c a), .own (api_Range.c b)] <| .seq ?_
 obtain ⟨v1, hc2, hr⟩ := bd hr
 rcases Bool.eq_false_or_eq_true v1 with hb3 | hb3
 ·subst hb3
  replace hr := cd_t rfl hr
  obtain ⟨v4, hc5, hr⟩ := bd hr
  refine .gn fine (ca1 (ok0 (fiducialref02_Same_ok n a.Low b.Low true hc2)) (ca3 (ok0 (fiducialref02_Same_ok n a.High b.High v4 hc5)))) <| .mu 4 <| .ca cf0 <| .mu 5 <| .ca (cfA (fun h => by rw [sv hc5 hc2 (fiducialref02_Same_cg n h)]) cf0) <| .mu 2 <| .done <| .ret ?_
  obtain rfl := Option.some.inj hr
  exact FinQ.r1 [aB v4]
 ·subst hb3
  replace hr := cd_f rfl hr
  refine .g1 fine (ok0 (fiducialref02_Same_ok n a.Low b.Low false hc2)) <| .mu 4 <| .ca cf0 <| .mu 8 <| .done <| .ret ?_
  obtain rfl := Option.some.inj hr
  exact FinQ.r1 [aB false]

theorem fiduciallaw46_DepthIntervals_ok (n : Nat) (camera : A2 Int) (d : Int) (f : api_Field) (r : Bool) (hr : fiduciallaw46_DepthIntervals n camera d f = some r) : FnOk Tryz.prog 5 [.agg [aI64 camera.e0, aI64 camera.e1], aI64 d, .agg (api_Field.c f)] (aB r) := by
 unfold fiduciallaw46_DepthIntervals at hr
 refine FnOk.bd fine Tryz.func5 [.tmp 6] ?_
 unfold Tryz.f5
 simp only [Option.getD_some]
 refine .seq <| .r2 fine 131 [(1, aI64 d), (3, .hp 0 0), (5, .hp 1 0)] [.own [aI64 camera.e0, aI64 camera.e1], .own (api_Field.c f)] <| .seq <| .seq ?_
 obtain ⟨v1, hc2, hr⟩ := bd hr
 refine .g1 fine (ok0 (fiduciallaw46_known_ok n v1 hc2)) <| .ca cf0 <| .mu 1 <| .done <| .n2 131 [(1, aI64 d), (3, .hp 0 0), (5, .hp 1 0), (15, aB (!v1))] [.own [aI64 camera.e0, aI64 camera.e1], .own (api_Field.c f)] ?_
 refine .cd hr (fun hb4 hr => ?_) (fun hb4 hr => ?_)
 ·refine .seq <| .ru fine <| .ret ?_
  obtain rfl := Option.some.inj hr
  exact FinQ.r1 [aB false]
 ·refine .skip <| .seq <| .seq ?_
  obtain ⟨v5, hc6, hr⟩ := bd hr
  refine .g1 fine (ok0 (fiduciallaw46_few_ok n f v5 hc6)) <| .mu 1 <| .ca cf0 <| .mu 1 <| .done <| .n2 131 [(1, aI64 d), (3, .hp 0 0), (5, .hp 1 0), (18, aB (!v5))] [.own [aI64 camera.e0, aI64 camera.e1], .own (api_Field.c f)] ?_
  refine .cd hr (fun hb8 hr => ?_) (fun hb8 hr => ?_)
  ·refine .seq <| .ru fine <| .ret ?_
   obtain rfl := Option.some.inj hr
   exact FinQ.r1 [aB true]
  ·refine .skip <| .seq ?_
   obtain ⟨v9, hc10, hr⟩ := bd hr
   refine .g1 fine (ok0 (depth_Interval_ok n camera.e0 camera.e1 d v9 hc10)) <| .mu 5 <| .ca cf0 <| .mu 6 <| .done <| .n2 131 [(1, aI64 d), (3, .hp 0 0), (5, .hp 1 0), (7, .hp 2 0), (8, aI64 v9.2)] [.own [aI64 camera.e0, aI64 camera.e1], .own (api_Field.c f), .own (api_Range.c v9.1)] <| .seq ?_
   obtain ⟨v11, hc12, hr⟩ := bd hr
   refine .g1 fine (ok0 (depth_Depths_ok n f camera.e0 camera.e1 v11 hc12)) <| .mu 5 <| .ca cf0 <| .mu 6 <| .done <| .n2 131 [(1, aI64 d), (3, .hp 0 0), (5, .hp 1 0), (7, .hp 2 0), (8, aI64 v9.2), (9, .hp 3 0), (10, aI64 v11.2)] [.own [aI64 camera.e0, aI64 camera.e1], .own (api_Field.c f), .own (api_Range.c v9.1), .own (api_Field.c v11.1)] <| .seq ?_
   obtain ⟨v13, hc14, hr⟩ := bd hr
   refine .g1 fine (ok0 (fiduciallaw46_lengths_ok n camera.e0 camera.e1 v13 hc14)) <| .mu 4 <| .ca cf0 <| .mu 1 <| .done <| .n2 131 [(1, aI64 d), (3, .hp 0 0), (5, .hp 1 0), (7, .hp 2 0), (8, aI64 v9.2), (9, .hp 3 0), (10, aI64 v11.2), (11, aI64 v13)] [.own [aI64 camera.e0, aI64 camera.e1], .own (api_Field.c f), .own (api_Range.c v9.1), .own (api_Field.c v11.1)] <| .seq <| .r3 fine 131 [(1, aI64 d), (3, .hp 0 0), (5, .hp 1 0), (7, .hp 2 0), (8, aI64 v9.2), (9, .hp 3 0), (10, aI64 v11.2), (11, aI64 v13), (12, aI64 v13)] <| .seq <| .seq ?_
   obtain ⟨v15, hc16, hr⟩ := bd hr
   refine .g1 fine (ok0 (fiduciallaw46_Valid_ok n f v15 hc16)) <| .mu 1 <| .ca cf0 <| .mu 1 <| .done <| .n2 131 [(1, aI64 d), (3, .hp 0 0), (5, .hp 1 0), (7, .hp 2 0), (8, aI64 v9.2), (9, .hp 3 0), (10, aI64 v11.2), (11, aI64 v13), (12, aI64 v13), (45, aB (!v15))] [.own [aI64 camera.e0, aI64 camera.e1], .own (api_Field.c f), .own (api_Range.c v9.1), .own (api_Field.c v11.1)] ?_
   replace hr := bd hr; obtain ⟨other_17, hL20, hr⟩ := hr
   refine .app1 (Q := fun x st' => x = .normal ∧ Wk 0 st' ⟨mkS 131 0 [(1, aI64 d), (3, .hp 0 0), (5, .hp 1 0), (7, .hp 2 0), (8, aI64 v9.2), (9, .hp 3 0), (10, aI64 v11.2), (11, aI64 v13), (12, aI64 other_17)], [.own [aI64 camera.e0, aI64 camera.e1], .own (api_Field.c f), .own (api_Range.c v9.1), .own (api_Field.c v11.1)]⟩) ?_ ?_
   ·clear hr
    have hr := hL20
    clear hL20
    refine .cd hr (fun hb18 hr => ?_) (fun hb18 hr => ?_)
    ·refine .ru fine ?_
     obtain rfl := Option.some.inj hr
     exact ⟨rfl, ((Wk.gc [1, 3, 5, 7, 8, 9, 10, 11, 12] [(0, true), (1, true), (2, true), (3, true)] rfl trivial).to (by kernel_rfl))⟩
    ·refine .skip ?_
     obtain rfl := Option.some.inj hr
     exact ⟨rfl, ((Wk.gc [1, 3, 5, 7, 8, 9, 10, 11, 12] [(0, true), (1, true), (2, true), (3, true)] rfl trivial).to (by kernel_rfl))⟩
   ·rintro x st' hq21
    clear hL20
    obtain ⟨rfl, hq21⟩ := hq21
    refine .wk hq21 <| .seq <| .seq ?_
    obtain ⟨v22, hc23, hr⟩ := bd hr
    refine .g1 fine (callOk_val (args := [.agg (api_Field.c v11.1), aI64 v11.2, aI64 other_17, .fn 25 [] [.hp 1 0, .hp 0 0]]) (l := [0, 1]) rfl (SnL.cons (Sn.pure rfl) (SnL.cons (Sn.pure rfl) (SnL.cons (Sn.pure rfl) (SnL.cons (Sn.fn SnL.nil (SnL.cons (Sn.hp rfl (.inl rfl) (SnC.cons (Sn.pure rfl) (SnC.cons (Sn.pure rfl) (SnC.cons (Sn.pure rfl) SnC.nil)))) (SnL.cons (Sn.hp rfl (.inl rfl) (SnC.cons (Sn.pure rfl) (SnC.cons (Sn.pure rfl) SnC.nil))) SnL.nil))) SnL.nil)))) (fiduciallaw46_is_of_fiduciallaw46_DepthIntervals_1_ok n v11.1 v11.2 other_17 f.Width f.Height f.V camera.e0 camera.e1 v22 hc23)) <| .mu 4 <| .ca cf0 <| .mu 1 <| .done <| .n2 131 [(1, aI64 d), (3, .hp 0 0), (7, .hp 2 0), (8, aI64 v9.2), (11, aI64 v13), (51, aB (!v22))] [.own [aI64 camera.e0, aI64 camera.e1], .own (api_Field.c f), .own (api_Range.c v9.1), .own (api_Field.c v11.1)] ?_
    refine .cd hr (fun hb25 hr => ?_) (fun hb25 hr => ?_)
    ·refine .seq <| .ru fine <| .ret ?_
     obtain rfl := Option.some.inj hr
     exact FinQ.r1 [aB false]
    ·refine .skip <| .seq <| .seq ?_
     replace hr := bd hr; obtain ⟨want_26, hL31, hr⟩ := hr
     refine .app2 (Q := fun x st' => x = .normal ∧ Wk 0 st' ⟨mkS 131 0 [(1, aI64 d), (3, .hp 0 0), (7, .hp 1 0), (8, aI64 v9.2), (11, aI64 want_26)], [.own [aI64 camera.e0, aI64 camera.e1], .own (api_Range.c v9.1)]⟩) ?_ ?_
     ·clear hr
      have hr := hL31
      clear hL31
      rcases Bool.eq_false_or_eq_true ((v13 : Int) == 0) with hb27 | hb27
      ·replace hr := cd_t hb27 hr
       rcases Bool.eq_false_or_eq_true (decide (d < 1)) with hb28 | hb28
       ·replace hr := cd_t hb28 hr
        refine .r0 fine <| .mu 1 <| .p0 (v := aB true) (Eq.trans (b := some (.pure (aB ((v13 : Int) == 0)))) (by kernel_rfl) (by rw [hb27])) <| .mu 2 <| .pure (v := aB true) (by kernel_rfl) (Eq.trans (b := some (.pure (aB (decide (d < 1))))) (by kernel_rfl) (by rw [hb28])) <| .mu 5 <| .done <| .n2 131 [(1, aI64 d), (3, .hp 0 0), (7, .hp 2 0), (8, aI64 v9.2), (11, aI64 v13), (61, aB true)] [.own [aI64 camera.e0, aI64 camera.e1], .own (api_Field.c f), .own (api_Range.c v9.1), .own (api_Field.c v11.1)] <| .cT (by kernel_rfl) <| .ru fine ?_
        obtain rfl := Option.some.inj hr
        exact ⟨rfl, ((Wk.gc [1, 3, 7, 8, 11] [(0, true), (2, true)] rfl trivial).to (by kernel_rfl))⟩
       ·replace hr := cd_f hb28 hr
        refine .r0 fine <| .mu 1 <| .p0 (v := aB true) (Eq.trans (b := some (.pure (aB ((v13 : Int) == 0)))) (by kernel_rfl) (by rw [hb27])) <| .mu 2 <| .pure (v := aB false) (by kernel_rfl) (Eq.trans (b := some (.pure (aB (decide (d < 1))))) (by kernel_rfl) (by rw [hb28])) <| .mu 5 <| .done <| .n2 131 [(1, aI64 d), (3, .hp 0 0), (7, .hp 2 0), (8, aI64 v9.2), (11, aI64 v13), (61, aB (decide (d > 1048576)))] [.own [aI64 camera.e0, aI64 camera.e1], .own (api_Field.c f), .own (api_Range.c v9.1), .own (api_Field.c v11.1)] ?_
        refine .cd hr (fun hb29 hr => ?_) (fun hb29 hr => ?_)
        ·refine .ru fine ?_
         obtain rfl := Option.some.inj hr
         exact ⟨rfl, ((Wk.gc [1, 3, 7, 8, 11] [(0, true), (2, true)] rfl trivial).to (by kernel_rfl))⟩
        ·refine .skip ?_
         obtain rfl := Option.some.inj hr
         exact ⟨rfl, ((Wk.gc [1, 3, 7, 8, 11] [(0, true), (2, true)] rfl trivial).to (by kernel_rfl))⟩
      ·replace hr := cd_f hb27 hr
       refine .r0 fine <| .mu 1 <| .p0 (v := aB false) (Eq.trans (b := some (.pure (aB ((v13 : Int) == 0)))) (by kernel_rfl) (by rw [hb27])) <| .mu 8 <| .done <| .n2 131 [(1, aI64 d), (3, .hp 0 0), (7, .hp 2 0), (8, aI64 v9.2), (11, aI64 v13), (61, aB false)] [.own [aI64 camera.e0, aI64 camera.e1], .own (api_Field.c f), .own (api_Range.c v9.1), .own (api_Field.c v11.1)] <| .cF (by kernel_rfl) <| .skip ?_
       obtain rfl := Option.some.inj hr
       exact ⟨rfl, ((Wk.gc [1, 3, 7, 8, 11] [(0, true), (2, true)] rfl trivial).to (by kernel_rfl))⟩
     ·rintro x st' hq32
      clear hL31
      obtain ⟨rfl, hq32⟩ := hq32
      refine .wk hq32 <| .seq <| .seq <| .r3 fine 131 [(1, aI64 d), (3, .hp 0 0), (7, .hp 1 0), (8, aI64 v9.2), (11, aI64 want_26), (63, aB ((want_26 : Int) != 0))] ?_
      refine .cd hr (fun hb40 hr => ?_) (fun hb40 hr => ?_)
      ·refine .seq ?_
       replace hr := bd hr; obtain ⟨x_41, hL49, hr⟩ := hr
       refine .app1 (Q := fun x st' => x = .normal ∧ Wk 0 st' ⟨mkS 131 0 [(6, aB x_41)], []⟩) ?_ ?_
       ·clear hr
        have hr := hL49
        clear hL49
        rcases Bool.eq_false_or_eq_true ((v9.2 : Int) == want_26) with hb42 | hb42
        ·replace hr := cd_t hb42 hr
         obtain ⟨v43, hc44, hr⟩ := bd hr
         rcases Bool.eq_false_or_eq_true v43 with hb45 | hb45
         ·subst hb45
          replace hr := cd_t rfl hr
          obtain ⟨v46, hc47, hr⟩ := bd hr
          refine .gn fine (ca1 (ok0 (fiducialref02_Zero_ok n v9.1.Low true hc44)) (ca3 (ok0 (fiducialref02_Zero_ok n v9.1.High v46 hc47)))) <| .mu 2 <| .p0 (v := aB true) (Eq.trans (b := some (.pure (aB ((v9.2 : Int) == want_26)))) (by kernel_rfl) (by rw [hb42])) <| .mu 3 <| .ca cf0 <| .mu 4 <| .ca (cfA (fun h => by rw [sv hc47 hc44 (fiducialref02_Zero_cg n h)]) cf0) <| .mu 2 <| .done ?_
          obtain rfl := Option.some.inj hr
          exact ⟨rfl, ((Wk.gc [6] [] rfl pK0).to (by kernel_rfl))⟩
         ·subst hb45
          replace hr := cd_f rfl hr
          refine .g1 fine (ok0 (fiducialref02_Zero_ok n v9.1.Low false hc44)) <| .mu 2 <| .p0 (v := aB true) (Eq.trans (b := some (.pure (aB ((v9.2 : Int) == want_26)))) (by kernel_rfl) (by rw [hb42])) <| .mu 3 <| .ca cf0 <| .mu 7 <| .done ?_
          obtain rfl := Option.some.inj hr
          exact ⟨rfl, ((Wk.gc [6] [] rfl pK0).to (by kernel_rfl))⟩
        ·replace hr := cd_f hb42 hr
         refine .r0 fine <| .mu 2 <| .p0 (v := aB false) (Eq.trans (b := some (.pure (aB ((v9.2 : Int) == want_26)))) (by kernel_rfl) (by rw [hb42])) <| .mu 11 <| .done ?_
         obtain rfl := Option.some.inj hr
         exact ⟨rfl, ((Wk.gc [6] [] rfl pK0).to (by kernel_rfl))⟩
       ·rintro x st' hq50
        clear hL49
        obtain ⟨rfl, hq50⟩ := hq50
        refine .wk hq50 <| .ret ?_
        obtain rfl := Option.some.inj hr
        exact FinQ.r1 [aB x_41]
      ·refine .skip <| .seq <| .seq ?_
       rcases Bool.eq_false_or_eq_true ((v9.2 : Int) != 0) with hb51 | hb51
       ·replace hr := cd_t hb51 hr
        refine .regionT fine callOf_nil <| .mu 1 <| .pure (v := aB true) (by kernel_rfl) (Eq.trans (b := some (.pure (aB ((v9.2 : Int) != 0)))) (by kernel_rfl) (by rw [hb51])) (by kernel_rfl) <| .mu 22 ?_
        refine .done ⟨by kernel_rfl, ?_⟩
        refine .n2 131 [(1, aI64 d), (3, .hp 0 0), (7, .hp 1 0), (100, aB true)] [.own [aI64 camera.e0, aI64 camera.e1], .own (api_Range.c v9.1)] <| .cT (by kernel_rfl) <| .seq <| .ru fine <| .ret ?_
        obtain rfl := Option.some.inj hr
        exact FinQ.r1 [aB false]
       ·replace hr := cd_f hb51 hr
        obtain ⟨v52, hc53, v54, hc55, v56, hc57, hr⟩ := bd3 hr
        refine .tn fine (ca1 (ok0 (fiduciallaw46_quotient_ok n camera.e0 camera.e1 (wrapF .i64 ((wrapF .i64 (2 * d)) + 1)) v52 hc53)) (ca1 (ok0 (fiduciallaw46_quotient_ok n camera.e0 camera.e1 (wrapF .i64 ((wrapF .i64 (2 * d)) - 1)) v54 hc55)) (ca3 (ok0 (fiducialref02_SameRange_ok n v9.1 (api_Range.mk v52 v54) v56 hc57))))) <| .mu 1 <| .pure (v := aB false) (by kernel_rfl) (Eq.trans (b := some (.pure (aB ((v9.2 : Int) != 0)))) (by kernel_rfl) (by rw [hb51])) (by kernel_rfl) <| .mu 9 <| .ca cf0 <| .mu 7 <| .ca (cfA (fun h => by rw [sv hc55 hc53 (fiduciallaw46_quotient_cg n h)]) cf0) <| .mu 1 <| .ca (cfF (cfF cf0)) <| .mu 2 ?_
        refine .done ⟨by kernel_rfl, ?_⟩
        refine .n2 131 [(1, aI64 d), (3, .hp 0 0), (7, .hp 1 0), (100, aB (!v56))] [.own [aI64 camera.e0, aI64 camera.e1], .own (api_Range.c v9.1)] ?_
        refine .cd hr (fun hb59 hr => ?_) (fun hb59 hr => ?_)
        ·refine .seq <| .ru fine <| .ret ?_
         obtain rfl := Option.some.inj hr
         exact FinQ.r1 [aB false]
        ·refine .skip <| .seq <| .seq <| .r3 fine 131 [(1, aI64 d), (3, .hp 0 0), (7, .hp 1 0), (102, aB ((d : Int) == 1048576))] ?_
         refine .cd hr (fun hb61 hr => ?_) (fun hb61 hr => ?_)
         ·refine .seq <| .ru fine <| .ret ?_
          obtain rfl := Option.some.inj hr
          exact FinQ.r1 [aB true]
         ·refine .skip <| .seq ?_
          obtain ⟨v62, hc63, hr⟩ := bd hr
          refine .g1 fine (ok0 (depth_Interval_ok n camera.e0 camera.e1 (wrapF .i64 (d + 1)) v62 hc63)) <| .mu 6 <| .ca cf0 <| .mu 6 <| .done <| .n2 131 [(7, .hp 1 0), (8, aI64 v62.2), (13, .hp 2 0)] [.own [aI64 camera.e0, aI64 camera.e1], .own (api_Range.c v9.1), .own (api_Range.c v62.1)] <| .seq ?_
          rcases Bool.eq_false_or_eq_true ((v62.2 : Int) == 0) with hb64 | hb64
          ·replace hr := cd_t hb64 hr
           obtain ⟨v65, hc66, hr⟩ := bd hr
           rcases Bool.eq_false_or_eq_true (decide (v65 ≤ 0)) with hb67 | hb67
           ·replace hr := cd_t hb67 hr
            obtain ⟨v68, hc69, hr⟩ := bd hr
            refine .gn fine (ca1 (ok0 (fiducialref02_Compare_ok n v62.1.High v9.1.Low v65 hc66)) (ca3 (ok0 (fiducialref02_Compare_ok n v62.1.Low v9.1.Low v68 hc69)))) <| .mu 1 <| .p0 (v := aB true) (Eq.trans (b := some (.pure (aB ((v62.2 : Int) == 0)))) (by kernel_rfl) (by rw [hb64])) <| .mu 5 <| .ca cf0 <| .pure (v := aB true) (by kernel_rfl) (Eq.trans (b := some (.pure (aB (decide (v65 ≤ 0))))) (by kernel_rfl) (by rw [hb67])) <| .mu 6 <| .ca (cfA (fun h => by rw [sv hc69 hc66 (fiducialref02_Compare_cg n h)]) cf0) <| .mu 3 <| .done <| .ret ?_
            obtain rfl := Option.some.inj hr
            exact FinQ.r1 [aB (decide (v68 < 0))]
           ·replace hr := cd_f hb67 hr
            refine .g1 fine (ok0 (fiducialref02_Compare_ok n v62.1.High v9.1.Low v65 hc66)) <| .mu 1 <| .p0 (v := aB true) (Eq.trans (b := some (.pure (aB ((v62.2 : Int) == 0)))) (by kernel_rfl) (by rw [hb64])) <| .mu 5 <| .ca cf0 <| .pure (v := aB false) (by kernel_rfl) (Eq.trans (b := some (.pure (aB (decide (v65 ≤ 0))))) (by kernel_rfl) (by rw [hb67])) <| .mu 10 <| .done <| .ret ?_
            obtain rfl := Option.some.inj hr
            exact FinQ.r1 [aB false]
          ·replace hr := cd_f hb64 hr
           refine .r0 fine <| .mu 1 <| .p0 (v := aB false) (Eq.trans (b := some (.pure (aB ((v62.2 : Int) == 0)))) (by kernel_rfl) (by rw [hb64])) <| .mu 17 <| .done <| .ret ?_
           obtain rfl := Option.some.inj hr
           exact FinQ.r1 [aB false]
end Go.L
