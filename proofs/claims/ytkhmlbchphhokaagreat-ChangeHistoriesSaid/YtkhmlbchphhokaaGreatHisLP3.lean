/- The program's functions compute what the plain Lean programs compute, part 3; printed by a program. -/
import Derived.Test.YtkhmlbchphhokaaGreatHisLP2
import Derived.Test.YtkhmlbchphhokaaGreatL0kcdjoajj
import Derived.Test.YtkhmlbchphhokaaGreatChecked
import Derived.KernelRfl
set_option linter.unusedVariables false
set_option linter.unusedSimpArgs false
set_option maxRecDepth 100000
set_option maxHeartbeats 4000000
namespace Go.L
open Go Go.Eng Go.Proofs
theorem fiducialref03_Valid_inj {a : api_Range} {a_ : api_Range} (h : ([.agg [.at (.bool a.Low.Num.Negative), slT (iC .u32) a.Low.Num.Groups, .at (.bool a.Low.Den.Negative), slT (iC .u32) a.Low.Den.Groups, .at (.bool a.High.Num.Negative), slT (iC .u32) a.High.Num.Groups, .at (.bool a.High.Den.Negative), slT (iC .u32) a.High.Den.Groups]] : List AV) = [.agg [.at (.bool a_.Low.Num.Negative), slT (iC .u32) a_.Low.Num.Groups, .at (.bool a_.Low.Den.Negative), slT (iC .u32) a_.Low.Den.Groups, .at (.bool a_.High.Num.Negative), slT (iC .u32) a_.High.Num.Groups, .at (.bool a_.High.Den.Negative), slT (iC .u32) a_.High.Den.Groups]]) : a = a_ := by
 obtain ⟨⟨⟨_, _⟩, ⟨_, _⟩⟩, ⟨⟨_, _⟩, ⟨_, _⟩⟩⟩ := a
 obtain ⟨⟨⟨_, _⟩, ⟨_, _⟩⟩, ⟨⟨_, _⟩, ⟨_, _⟩⟩⟩ := a_
 simp only [List.cons.injEq, AV.agg.injEq, AV.at.injEq, Value.int.injEq, Value.bool.injEq, AV.fn.injEq, AV.pp.injEq, true_and, and_true, slT_inj_int] at h
 simp_all
theorem fiducialref03_Valid_cg (n : Nat) {a : api_Range} {a_ : api_Range} (h : ([.agg [.at (.bool a.Low.Num.Negative), slT (iC .u32) a.Low.Num.Groups, .at (.bool a.Low.Den.Negative), slT (iC .u32) a.Low.Den.Groups, .at (.bool a.High.Num.Negative), slT (iC .u32) a.High.Num.Groups, .at (.bool a.High.Den.Negative), slT (iC .u32) a.High.Den.Groups]] : List AV) = [.agg [.at (.bool a_.Low.Num.Negative), slT (iC .u32) a_.Low.Num.Groups, .at (.bool a_.Low.Den.Negative), slT (iC .u32) a_.Low.Den.Groups, .at (.bool a_.High.Num.Negative), slT (iC .u32) a_.High.Num.Groups, .at (.bool a_.High.Den.Negative), slT (iC .u32) a_.High.Den.Groups]]) : fiducialref03_Valid n a = fiducialref03_Valid n a_ := by
 obtain rfl := fiducialref03_Valid_inj h
 rfl
theorem fiducialref03_Valid_ok (n : Nat) (a : api_Range) (r : Bool) (hr : fiducialref03_Valid n a = some r) : FnOk Tryz.prog 94 [.agg (api_Range.c a)] (aB r) := by
 unfold fiducialref03_Valid at hr
 refine FnOk.bd fine Tryz.func94 [.tmp 2] ?_
 unfold Tryz.f94
 simp only [Option.getD_some]
 refine .seq <| .r2 fine 19 [(1, .hp 0 0)] [.own (api_Range.c a)] <| .seq ?_
 obtain ⟨v1, hc2, hr⟩ := bd hr
 rcases Bool.eq_false_or_eq_true v1 with hb3 | hb3
 ·subst hb3
  replace hr := cd_t rfl hr
  obtain ⟨v4, hc5, hr⟩ := bd hr
  rcases Bool.eq_false_or_eq_true v4 with hb6 | hb6
  ·subst hb6
   replace hr := cd_t rfl hr
   obtain ⟨v7, hc8, hr⟩ := bd hr
   refine .gn fine (ca1 (ok0 (fiducialref02_Valid_ok n a.Low true hc2)) (ca1 (ok0 (fiducialref02_Valid_ok n a.High true hc5)) (ca3 (ok0 (fiducialref02_Compare_ok n a.Low a.High v7 hc8))))) <| .mu 2 <| .ca cf0 <| .mu 3 <| .ca (cfA (fun h => by rw [sv hc5 hc2 (fiducialref02_Valid_cg n h)]) cf0) <| .mu 6 <| .ca (cfF (cfF cf0)) <| .mu 3 <| .done <| .ret ?_
   obtain rfl := Option.some.inj hr
   exact FinQ.r1 [aB (decide (v7 ≤ 0))]
  ·subst hb6
   replace hr := cd_f rfl hr
   refine .gn fine (ca1 (ok0 (fiducialref02_Valid_ok n a.Low true hc2)) (ca3 (ok0 (fiducialref02_Valid_ok n a.High false hc5)))) <| .mu 2 <| .ca cf0 <| .mu 3 <| .ca (cfA (fun h => by rw [sv hc5 hc2 (fiducialref02_Valid_cg n h)]) cf0) <| .mu 10 <| .done <| .ret ?_
   obtain rfl := Option.some.inj hr
   exact FinQ.r1 [aB false]
 ·subst hb3
  replace hr := cd_f rfl hr
  refine .g1 fine (ok0 (fiducialref02_Valid_ok n a.Low false hc2)) <| .mu 2 <| .ca cf0 <| .mu 14 <| .done <| .ret ?_
  obtain rfl := Option.some.inj hr
  exact FinQ.r1 [aB false]

theorem fiducialref02_Same_inj {x' : api_Rat} {y : api_Rat} {x'_ : api_Rat} {y_ : api_Rat} (h : ([.agg [.at (.bool x'.Num.Negative), slT (iC .u32) x'.Num.Groups, .at (.bool x'.Den.Negative), slT (iC .u32) x'.Den.Groups], .agg [.at (.bool y.Num.Negative), slT (iC .u32) y.Num.Groups, .at (.bool y.Den.Negative), slT (iC .u32) y.Den.Groups]] : List AV) = [.agg [.at (.bool x'_.Num.Negative), slT (iC .u32) x'_.Num.Groups, .at (.bool x'_.Den.Negative), slT (iC .u32) x'_.Den.Groups], .agg [.at (.bool y_.Num.Negative), slT (iC .u32) y_.Num.Groups, .at (.bool y_.Den.Negative), slT (iC .u32) y_.Den.Groups]]) : x' = x'_ ∧ y = y_ := by
 obtain ⟨⟨_, _⟩, ⟨_, _⟩⟩ := x'
 obtain ⟨⟨_, _⟩, ⟨_, _⟩⟩ := x'_
 obtain ⟨⟨_, _⟩, ⟨_, _⟩⟩ := y
 obtain ⟨⟨_, _⟩, ⟨_, _⟩⟩ := y_
 simp only [List.cons.injEq, AV.agg.injEq, AV.at.injEq, Value.int.injEq, Value.bool.injEq, AV.fn.injEq, AV.pp.injEq, true_and, and_true, slT_inj_int] at h
 simp_all
theorem fiducialref02_Same_cg (n : Nat) {x' : api_Rat} {y : api_Rat} {x'_ : api_Rat} {y_ : api_Rat} (h : ([.agg [.at (.bool x'.Num.Negative), slT (iC .u32) x'.Num.Groups, .at (.bool x'.Den.Negative), slT (iC .u32) x'.Den.Groups], .agg [.at (.bool y.Num.Negative), slT (iC .u32) y.Num.Groups, .at (.bool y.Den.Negative), slT (iC .u32) y.Den.Groups]] : List AV) = [.agg [.at (.bool x'_.Num.Negative), slT (iC .u32) x'_.Num.Groups, .at (.bool x'_.Den.Negative), slT (iC .u32) x'_.Den.Groups], .agg [.at (.bool y_.Num.Negative), slT (iC .u32) y_.Num.Groups, .at (.bool y_.Den.Negative), slT (iC .u32) y_.Den.Groups]]) : fiducialref02_Same n x' y = fiducialref02_Same n x'_ y_ := by
 obtain ⟨rfl, rfl⟩ := fiducialref02_Same_inj h
 rfl
theorem fiducialref02_Same_ok (n : Nat) (x' : api_Rat) (y : api_Rat) (r : Bool) (hr : fiducialref02_Same n x' y = some r) : FnOk Tryz.prog 53 [.agg (api_Rat.c x'), .agg (api_Rat.c y)] (aB r) := by
 unfold fiducialref02_Same at hr
 refine FnOk.bd fine Tryz.func53 [.tmp 4] ?_
 unfold Tryz.f53
 simp only [Option.getD_some]
 refine .seq <| .r2 fine 17 [(2, .hp 0 0), (3, .hp 1 0)] [.own (api_Rat.c x'), .own (api_Rat.c y)] <| .seq ?_
 obtain ⟨v1, hc2, hr⟩ := bd hr
 rcases Bool.eq_false_or_eq_true v1 with hb3 | hb3
 ·subst hb3
  replace hr := cd_t rfl hr
  obtain ⟨v4, hc5, hr⟩ := bd hr
  rcases Bool.eq_false_or_eq_true v4 with hb6 | hb6
  ·subst hb6
   replace hr := cd_t rfl hr
   obtain ⟨v7, hc8, hr⟩ := bd hr
   refine .gn fine (ca1 (ok0 (fiducialref02_Valid_ok n x' true hc2)) (ca1 (ok0 (fiducialref02_Valid_ok n y true hc5)) (ca3 (ok0 (fiducialref02_Compare_ok n x' y v7 hc8))))) <| .mu 1 <| .ca cf0 <| .mu 2 <| .ca (cfA (fun h => by rw [sv hc5 hc2 (fiducialref02_Valid_cg n h)]) cf0) <| .mu 4 <| .ca (cfF (cfF cf0)) <| .mu 3 <| .done <| .ret ?_
   obtain rfl := Option.some.inj hr
   exact FinQ.r1 [aB ((v7 : Int) == 0)]
  ·subst hb6
   replace hr := cd_f rfl hr
   refine .gn fine (ca1 (ok0 (fiducialref02_Valid_ok n x' true hc2)) (ca3 (ok0 (fiducialref02_Valid_ok n y false hc5)))) <| .mu 1 <| .ca cf0 <| .mu 2 <| .ca (cfA (fun h => by rw [sv hc5 hc2 (fiducialref02_Valid_cg n h)]) cf0) <| .mu 8 <| .done <| .ret ?_
   obtain rfl := Option.some.inj hr
   exact FinQ.r1 [aB false]
 ·subst hb3
  replace hr := cd_f rfl hr
  refine .g1 fine (ok0 (fiducialref02_Valid_ok n x' false hc2)) <| .mu 1 <| .ca cf0 <| .mu 11 <| .done <| .ret ?_
  obtain rfl := Option.some.inj hr
  exact FinQ.r1 [aB false]

theorem fiducialref02_SameRange_ok (n : Nat) (a : api_Range) (b : api_Range) (r : Bool) (hr : fiducialref02_SameRange n a b = some r) : FnOk Tryz.prog 95 [.agg (api_Range.c a), .agg (api_Range.c b)] (aB r) := by
 unfold fiducialref02_SameRange at hr
 refine FnOk.bd fine Tryz.func95 [.tmp 4] ?_
 unfold Tryz.f95
 simp only [Option.getD_some]
 refine .seq <| .r2 fine 17 [(2, .hp 0 0), (3, .hp 1 0)] [.own (api_Range.c a), .own (api_Range.c b)] <| .seq ?_
 obtain ⟨v1, hc2, hr⟩ := bd hr
 rcases Bool.eq_false_or_eq_true v1 with hb3 | hb3
 ·subst hb3
  replace hr := cd_t rfl hr
  obtain ⟨v4, hc5, hr⟩ := bd hr
  refine .gn fine (ca1 (ok0 (fiducialref02_Same_ok n a.Low b.Low true hc2)) (ca3 (ok0 (fiducialref02_Same_ok n a.High b.High v4 hc5)))) <| .mu 4 <| .ca cf0 <| .mu 5 <| .ca (cfA (fun h => by rw [sv hc5 hc2 (fiducialref02_Same_cg n h)]) cf0) <| .mu 2 <| .done <| .ret ?_
  obtain rfl := Option.some.inj hr
  exact FinQ.r1 [aB v4]
 ·subst hb3
  replace hr := cd_f rfl hr
  refine .g1 fine (ok0 (fiducialref02_Same_ok n a.Low b.Low false hc2)) <| .mu 4 <| .ca cf0 <| .mu 8 <| .done <| .ret ?_
  obtain rfl := Option.some.inj hr
  exact FinQ.r1 [aB false]

theorem fiducialref03_Same_inj {a : api_Range} {b : api_Range} {a_ : api_Range} {b_ : api_Range} (h : ([.agg [.at (.bool a.Low.Num.Negative), slT (iC .u32) a.Low.Num.Groups, .at (.bool a.Low.Den.Negative), slT (iC .u32) a.Low.Den.Groups, .at (.bool a.High.Num.Negative), slT (iC .u32) a.High.Num.Groups, .at (.bool a.High.Den.Negative), slT (iC .u32) a.High.Den.Groups], .agg [.at (.bool b.Low.Num.Negative), slT (iC .u32) b.Low.Num.Groups, .at (.bool b.Low.Den.Negative), slT (iC .u32) b.Low.Den.Groups, .at (.bool b.High.Num.Negative), slT (iC .u32) b.High.Num.Groups, .at (.bool b.High.Den.Negative), slT (iC .u32) b.High.Den.Groups]] : List AV) = [.agg [.at (.bool a_.Low.Num.Negative), slT (iC .u32) a_.Low.Num.Groups, .at (.bool a_.Low.Den.Negative), slT (iC .u32) a_.Low.Den.Groups, .at (.bool a_.High.Num.Negative), slT (iC .u32) a_.High.Num.Groups, .at (.bool a_.High.Den.Negative), slT (iC .u32) a_.High.Den.Groups], .agg [.at (.bool b_.Low.Num.Negative), slT (iC .u32) b_.Low.Num.Groups, .at (.bool b_.Low.Den.Negative), slT (iC .u32) b_.Low.Den.Groups, .at (.bool b_.High.Num.Negative), slT (iC .u32) b_.High.Num.Groups, .at (.bool b_.High.Den.Negative), slT (iC .u32) b_.High.Den.Groups]]) : a = a_ ∧ b = b_ := by
 obtain ⟨⟨⟨_, _⟩, ⟨_, _⟩⟩, ⟨⟨_, _⟩, ⟨_, _⟩⟩⟩ := a
 obtain ⟨⟨⟨_, _⟩, ⟨_, _⟩⟩, ⟨⟨_, _⟩, ⟨_, _⟩⟩⟩ := a_
 obtain ⟨⟨⟨_, _⟩, ⟨_, _⟩⟩, ⟨⟨_, _⟩, ⟨_, _⟩⟩⟩ := b
 obtain ⟨⟨⟨_, _⟩, ⟨_, _⟩⟩, ⟨⟨_, _⟩, ⟨_, _⟩⟩⟩ := b_
 simp only [List.cons.injEq, AV.agg.injEq, AV.at.injEq, Value.int.injEq, Value.bool.injEq, AV.fn.injEq, AV.pp.injEq, true_and, and_true, slT_inj_int] at h
 simp_all
theorem fiducialref03_Same_cg (n : Nat) {a : api_Range} {b : api_Range} {a_ : api_Range} {b_ : api_Range} (h : ([.agg [.at (.bool a.Low.Num.Negative), slT (iC .u32) a.Low.Num.Groups, .at (.bool a.Low.Den.Negative), slT (iC .u32) a.Low.Den.Groups, .at (.bool a.High.Num.Negative), slT (iC .u32) a.High.Num.Groups, .at (.bool a.High.Den.Negative), slT (iC .u32) a.High.Den.Groups], .agg [.at (.bool b.Low.Num.Negative), slT (iC .u32) b.Low.Num.Groups, .at (.bool b.Low.Den.Negative), slT (iC .u32) b.Low.Den.Groups, .at (.bool b.High.Num.Negative), slT (iC .u32) b.High.Num.Groups, .at (.bool b.High.Den.Negative), slT (iC .u32) b.High.Den.Groups]] : List AV) = [.agg [.at (.bool a_.Low.Num.Negative), slT (iC .u32) a_.Low.Num.Groups, .at (.bool a_.Low.Den.Negative), slT (iC .u32) a_.Low.Den.Groups, .at (.bool a_.High.Num.Negative), slT (iC .u32) a_.High.Num.Groups, .at (.bool a_.High.Den.Negative), slT (iC .u32) a_.High.Den.Groups], .agg [.at (.bool b_.Low.Num.Negative), slT (iC .u32) b_.Low.Num.Groups, .at (.bool b_.Low.Den.Negative), slT (iC .u32) b_.Low.Den.Groups, .at (.bool b_.High.Num.Negative), slT (iC .u32) b_.High.Num.Groups, .at (.bool b_.High.Den.Negative), slT (iC .u32) b_.High.Den.Groups]]) : fiducialref03_Same n a b = fiducialref03_Same n a_ b_ := by
 obtain ⟨rfl, rfl⟩ := fiducialref03_Same_inj h
 rfl
theorem fiducialref03_Same_ok (n : Nat) (a : api_Range) (b : api_Range) (r : Bool) (hr : fiducialref03_Same n a b = some r) : FnOk Tryz.prog 43 [.agg (api_Range.c a), .agg (api_Range.c b)] (aB r) := by
 unfold fiducialref03_Same at hr
 refine FnOk.bd fine Tryz.func43 [.tmp 4] ?_
 unfold Tryz.f43
 simp only [Option.getD_some]
 refine .seq <| .r2 fine 16 [(2, .hp 0 0), (3, .hp 1 0)] [.own (api_Range.c a), .own (api_Range.c b)] <| .seq ?_
 obtain ⟨v1, hc2, hr⟩ := bd hr
 rcases Bool.eq_false_or_eq_true v1 with hb3 | hb3
 ·subst hb3
  replace hr := cd_t rfl hr
  obtain ⟨v4, hc5, hr⟩ := bd hr
  rcases Bool.eq_false_or_eq_true v4 with hb6 | hb6
  ·subst hb6
   replace hr := cd_t rfl hr
   obtain ⟨v7, hc8, hr⟩ := bd hr
   refine .gn fine (ca1 (ok0 (fiducialref03_Valid_ok n a true hc2)) (ca1 (ok0 (fiducialref03_Valid_ok n b true hc5)) (ca3 (ok0 (fiducialref02_SameRange_ok n a b v7 hc8))))) <| .mu 1 <| .ca cf0 <| .mu 2 <| .ca (cfA (fun h => by rw [sv hc5 hc2 (fiducialref03_Valid_cg n h)]) cf0) <| .mu 4 <| .ca (cfF (cfF cf0)) <| .mu 2 <| .done <| .ret ?_
   obtain rfl := Option.some.inj hr
   exact FinQ.r1 [aB v7]
  ·subst hb6
   replace hr := cd_f rfl hr
   refine .gn fine (ca1 (ok0 (fiducialref03_Valid_ok n a true hc2)) (ca3 (ok0 (fiducialref03_Valid_ok n b false hc5)))) <| .mu 1 <| .ca cf0 <| .mu 2 <| .ca (cfA (fun h => by rw [sv hc5 hc2 (fiducialref03_Valid_cg n h)]) cf0) <| .mu 7 <| .done <| .ret ?_
   obtain rfl := Option.some.inj hr
   exact FinQ.r1 [aB false]
 ·subst hb3
  replace hr := cd_f rfl hr
  refine .g1 fine (ok0 (fiducialref03_Valid_ok n a false hc2)) <| .mu 1 <| .ca cf0 <| .mu 10 <| .done <| .ret ?_
  obtain rfl := Option.some.inj hr
  exact FinQ.r1 [aB false]

theorem fiduciallaw59_known_ok (n : Nat) (r : Bool) (hr : fiduciallaw59_known n = some r) : FnOk Tryz.prog 7 [] (aB r) := by
 unfold fiduciallaw59_known at hr
 refine FnOk.bd fine Tryz.func7 [.tmp 0] ?_
 unfold Tryz.f7
 simp only [Option.getD_some]
 refine .seq <| .r3 fine 64 [] <| .seq ?_
 obtain ⟨v1, hc2, v3, hc4, hr⟩ := bd2 hr
 refine .gn fine (ca2 [.own [aI64 0, aI64 0, aI64 0, aI64 0]] (callOk_ref (args := [aI64 1, .hs 0 0 4 1]) (l := [0]) (SnL.cons (Sn.pure rfl) (SnL.cons (Sn.hs rfl (.inl rfl) (SnC.cons (Sn.pure rfl) (SnC.cons (Sn.pure rfl) (SnC.cons (Sn.pure rfl) (SnC.cons (Sn.pure rfl) SnC.nil)))) (fun h => nomatch h)) SnL.nil)) (fiduciallaw59_banded_ok n 1 [(0 : Int), (0 : Int), (0 : Int), (0 : Int)] v1 hc2)) (ca4 [.fix [aI64 0, aI64 0, aI64 0, aI64 0], .own [aI64 0, aI64 5, aI64 (-3), aI64 2]] (callOk_ref (args := [aI64 1, .hs 1 0 4 1]) (l := [1]) (SnL.cons (Sn.pure rfl) (SnL.cons (Sn.hs rfl (.inl rfl) (SnC.cons (Sn.pure rfl) (SnC.cons (Sn.pure rfl) (SnC.cons (Sn.pure rfl) (SnC.cons (Sn.pure rfl) SnC.nil)))) (fun h => nomatch h)) SnL.nil)) (fiduciallaw59_banded_ok n 1 [(0 : Int), (5 : Int), ((-3) : Int), (2 : Int)] v3 hc4)))) <| .mu 1 <| .ca cf0 <| .mu 1 <| .ca (cfH 0 2 1 cf0) <| .mu 4 <| .done <| .n2 64 [(1, .hp 2 0), (2, .hp 3 0)] [.fix [aI64 0, aI64 0, aI64 0, aI64 0], .fix [aI64 0, aI64 5, aI64 (-3), aI64 2], .own (api_Banded.c v1), .own (api_Banded.c v3)] <| .seq ?_
 obtain ⟨v5, hc6, hr⟩ := bd hr
 refine .g1 fine (ok0 (change_Compare_ok n v1 v3 v5 hc6)) <| .mu 2 <| .ca cf0 <| .mu 5 <| .done <| .n2 64 [(1, .hp 2 0), (2, .hp 3 0), (3, sI64 v5.1), (4, aI64 v5.2)] [.fix [aI64 0, aI64 0, aI64 0, aI64 0], .fix [aI64 0, aI64 5, aI64 (-3), aI64 2], .own (api_Banded.c v1), .own (api_Banded.c v3)] <| .seq ?_
 obtain ⟨v7, hc8, hr⟩ := bd hr
 refine .gn fine (ca4 [.fix [aI64 0, aI64 0, aI64 0, aI64 0], .fix [aI64 0, aI64 5, aI64 (-3), aI64 2], .own (api_Banded.c v1), .own (api_Banded.c v3), .own [aB true, aB true, aB true, aB true]] (callOk_ref (args := [.agg (api_Banded.c v1), .agg (api_Banded.c v3), .hs 4 0 4 1]) (l := [4]) (SnL.cons (Sn.pure rfl) (SnL.cons (Sn.pure rfl) (SnL.cons (Sn.hs rfl (.inl rfl) (SnC.cons (Sn.pure rfl) (SnC.cons (Sn.pure rfl) (SnC.cons (Sn.pure rfl) (SnC.cons (Sn.pure rfl) SnC.nil)))) (fun h => nomatch h)) SnL.nil))) (change_Volume_ok n v1 v3 [true, true, true, true] v7 hc8))) <| .mu 3 <| .ca cf0 <| .mu 6 <| .done <| .n2 64 [(1, .hp 2 0), (2, .hp 3 0), (3, sI64 v5.1), (4, aI64 v5.2), (5, .hp 5 0), (6, aI64 v7.2)] [.fix [aI64 0, aI64 0, aI64 0, aI64 0], .fix [aI64 0, aI64 5, aI64 (-3), aI64 2], .own (api_Banded.c v1), .own (api_Banded.c v3), .fix [aB true, aB true, aB true, aB true], .own (api_Range.c v7.1)] <| .seq ?_
 obtain ⟨v9, hc10, hr⟩ := bd hr
 refine .g1 fine (ok0 (change_Total_ok n v1 v3 v9 hc10)) <| .mu 2 <| .ca cf0 <| .mu 9 <| .done <| .n2 64 [(3, sI64 v5.1), (4, aI64 v5.2), (5, .hp 5 0), (6, aI64 v7.2), (7, .hp 6 0), (8, .hp 7 0), (9, aI64 v9.2.2)] [.fix [aI64 0, aI64 0, aI64 0, aI64 0], .fix [aI64 0, aI64 5, aI64 (-3), aI64 2], .own (api_Banded.c v1), .own (api_Banded.c v3), .fix [aB true, aB true, aB true, aB true], .own (api_Range.c v7.1), .own (api_Range.c v9.1), .own (api_Range.c v9.2.1)] <| .seq ?_
 rcases Bool.eq_false_or_eq_true ((v5.2 : Int) == 0) with hb11 | hb11
 ·replace hr := cd_t hb11 hr
  rcases Bool.eq_false_or_eq_true ((v7.2 : Int) == 0) with hb12 | hb12
  ·replace hr := cd_t hb12 hr
   rcases Bool.eq_false_or_eq_true ((v9.2.2 : Int) == 0) with hb13 | hb13
   ·replace hr := cd_t hb13 hr
    obtain ⟨v14, hc15, hr⟩ := bd hr
    rcases Bool.eq_false_or_eq_true v14 with hb16 | hb16
    ·subst hb16
     replace hr := cd_t rfl hr
     obtain ⟨v17, hc18, v19, hc20, hr⟩ := bd2 hr
     rcases Bool.eq_false_or_eq_true v19 with hb21 | hb21
     ·subst hb21
      replace hr := cd_t rfl hr
      obtain ⟨v22, hc23, v24, hc25, hr⟩ := bd2 hr
      rcases Bool.eq_false_or_eq_true v24 with hb26 | hb26
      ·subst hb26
       replace hr := cd_t rfl hr
       obtain ⟨v27, hc28, v29, hc30, hr⟩ := bd2 hr
       refine .tn fine (ca2 [.fix [aI64 0, aI64 0, aI64 0, aI64 0], .fix [aI64 0, aI64 5, aI64 (-3), aI64 2], .own (api_Banded.c v1), .own (api_Banded.c v3), .fix [aB true, aB true, aB true, aB true], .own (api_Range.c v7.1), .own (api_Range.c v9.1), .own (api_Range.c v9.2.1), .own [aI64 0, aI64 1, aI64 2, aI64 0]] (callOk_val (args := [sI64 v5.1, .hs 8 0 4 1]) (l := [8]) rfl (SnL.cons (Sn.pure rfl) (SnL.cons (Sn.hs rfl (.inl rfl) (SnC.cons (Sn.pure rfl) (SnC.cons (Sn.pure rfl) (SnC.cons (Sn.pure rfl) (SnC.cons (Sn.pure rfl) SnC.nil)))) (fun h => nomatch h)) SnL.nil)) (slices_Equal_fiducial_api_Verdict_fiducial_api_Verdict_ok n v5.1 [(0 : Int), (1 : Int), (2 : Int), (0 : Int)] true hc15)) (ca2 [.fix [aI64 0, aI64 0, aI64 0, aI64 0], .fix [aI64 0, aI64 5, aI64 (-3), aI64 2], .own (api_Banded.c v1), .own (api_Banded.c v3), .fix [aB true, aB true, aB true, aB true], .own (api_Range.c v7.1), .own (api_Range.c v9.1), .own (api_Range.c v9.2.1), .own [aI64 0, aI64 1, aI64 2, aI64 0]] (ok0 (fiducialref03_Whole_ok n (-16) 48 v17 hc18)) (ca2 [.fix [aI64 0, aI64 0, aI64 0, aI64 0], .fix [aI64 0, aI64 5, aI64 (-3), aI64 2], .own (api_Banded.c v1), .own (api_Banded.c v3), .fix [aB true, aB true, aB true, aB true], .own (api_Range.c v7.1), .own (api_Range.c v9.1), .own (api_Range.c v9.2.1), .own [aI64 0, aI64 1, aI64 2, aI64 0]] (ok0 (fiducialref03_Same_ok n v7.1 v17 true hc20)) (ca2 [.fix [aI64 0, aI64 0, aI64 0, aI64 0], .fix [aI64 0, aI64 5, aI64 (-3), aI64 2], .own (api_Banded.c v1), .own (api_Banded.c v3), .fix [aB true, aB true, aB true, aB true], .own (api_Range.c v7.1), .own (api_Range.c v9.1), .own (api_Range.c v9.2.1), .own [aI64 0, aI64 1, aI64 2, aI64 0]] (ok0 (fiducialref03_Whole_ok n 12 52 v22 hc23)) (ca2 [.fix [aI64 0, aI64 0, aI64 0, aI64 0], .fix [aI64 0, aI64 5, aI64 (-3), aI64 2], .own (api_Banded.c v1), .own (api_Banded.c v3), .fix [aB true, aB true, aB true, aB true], .own (api_Range.c v7.1), .own (api_Range.c v9.1), .own (api_Range.c v9.2.1), .own [aI64 0, aI64 1, aI64 2, aI64 0]] (ok0 (fiducialref03_Same_ok n v9.1 v22 true hc25)) (ca2 [.fix [aI64 0, aI64 0, aI64 0, aI64 0], .fix [aI64 0, aI64 5, aI64 (-3), aI64 2], .own (api_Banded.c v1), .own (api_Banded.c v3), .fix [aB true, aB true, aB true, aB true], .own (api_Range.c v7.1), .own (api_Range.c v9.1), .own (api_Range.c v9.2.1), .own [aI64 0, aI64 1, aI64 2, aI64 0]] (ok0 (fiducialref03_Whole_ok n 4 28 v27 hc28)) (ca4 [.fix [aI64 0, aI64 0, aI64 0, aI64 0], .fix [aI64 0, aI64 5, aI64 (-3), aI64 2], .own (api_Banded.c v1), .own (api_Banded.c v3), .fix [aB true, aB true, aB true, aB true], .own (api_Range.c v7.1), .own (api_Range.c v9.1), .own (api_Range.c v9.2.1), .own [aI64 0, aI64 1, aI64 2, aI64 0]] (ok0 (fiducialref03_Same_ok n v9.2.1 v27 v29 hc30))))))))) <| .mu 1 <| .pure (v := aB true) (by kernel_rfl) (Eq.trans (b := some (.pure (aB ((v5.2 : Int) == 0)))) (by kernel_rfl) (by rw [hb11])) (by kernel_rfl) <| .mu 2 <| .pure (v := aB true) (by kernel_rfl) (Eq.trans (b := some (.pure (aB ((v7.2 : Int) == 0)))) (by kernel_rfl) (by rw [hb12])) (by kernel_rfl) <| .mu 3 <| .pure (v := aB true) (by kernel_rfl) (Eq.trans (b := some (.pure (aB ((v9.2.2 : Int) == 0)))) (by kernel_rfl) (by rw [hb13])) (by kernel_rfl) <| .mu 4 <| .ca cf0 <| .mu 3 <| .ca (cfF cf0) <| .ca (cfF (cfF cf0)) <| .mu 3 <| .ca (cfF (cfA (fun h => by rw [sv hc23 hc18 (fiducialref03_Whole_cg n h)]) (cfF cf0))) <| .ca (cfF (cfF (cfA (fun h => by rw [sv hc25 hc20 (fiducialref03_Same_cg n h)]) (cfF cf0)))) <| .mu 3 <| .ca (cfF (cfA (fun h => by rw [sv hc28 hc18 (fiducialref03_Whole_cg n h)]) (cfF (cfA (fun h => by rw [sv hc28 hc23 (fiducialref03_Whole_cg n h)]) (cfF cf0))))) <| .ca (cfF (cfF (cfA (fun h => by rw [sv hc30 hc20 (fiducialref03_Same_cg n h)]) (cfF (cfA (fun h => by rw [sv hc30 hc25 (fiducialref03_Same_cg n h)]) (cfF cf0)))))) <| .mu 2 ?_
       refine .done ⟨by kernel_rfl, ?_⟩
       refine .ret ?_
       obtain rfl := Option.some.inj hr
       exact FinQ.r1 [aB v29]
      ·subst hb26
       replace hr := cd_f rfl hr
       refine .tn fine (ca2 [.fix [aI64 0, aI64 0, aI64 0, aI64 0], .fix [aI64 0, aI64 5, aI64 (-3), aI64 2], .own (api_Banded.c v1), .own (api_Banded.c v3), .fix [aB true, aB true, aB true, aB true], .own (api_Range.c v7.1), .own (api_Range.c v9.1), .own (api_Range.c v9.2.1), .own [aI64 0, aI64 1, aI64 2, aI64 0]] (callOk_val (args := [sI64 v5.1, .hs 8 0 4 1]) (l := [8]) rfl (SnL.cons (Sn.pure rfl) (SnL.cons (Sn.hs rfl (.inl rfl) (SnC.cons (Sn.pure rfl) (SnC.cons (Sn.pure rfl) (SnC.cons (Sn.pure rfl) (SnC.cons (Sn.pure rfl) SnC.nil)))) (fun h => nomatch h)) SnL.nil)) (slices_Equal_fiducial_api_Verdict_fiducial_api_Verdict_ok n v5.1 [(0 : Int), (1 : Int), (2 : Int), (0 : Int)] true hc15)) (ca2 [.fix [aI64 0, aI64 0, aI64 0, aI64 0], .fix [aI64 0, aI64 5, aI64 (-3), aI64 2], .own (api_Banded.c v1), .own (api_Banded.c v3), .fix [aB true, aB true, aB true, aB true], .own (api_Range.c v7.1), .own (api_Range.c v9.1), .own (api_Range.c v9.2.1), .own [aI64 0, aI64 1, aI64 2, aI64 0]] (ok0 (fiducialref03_Whole_ok n (-16) 48 v17 hc18)) (ca2 [.fix [aI64 0, aI64 0, aI64 0, aI64 0], .fix [aI64 0, aI64 5, aI64 (-3), aI64 2], .own (api_Banded.c v1), .own (api_Banded.c v3), .fix [aB true, aB true, aB true, aB true], .own (api_Range.c v7.1), .own (api_Range.c v9.1), .own (api_Range.c v9.2.1), .own [aI64 0, aI64 1, aI64 2, aI64 0]] (ok0 (fiducialref03_Same_ok n v7.1 v17 true hc20)) (ca2 [.fix [aI64 0, aI64 0, aI64 0, aI64 0], .fix [aI64 0, aI64 5, aI64 (-3), aI64 2], .own (api_Banded.c v1), .own (api_Banded.c v3), .fix [aB true, aB true, aB true, aB true], .own (api_Range.c v7.1), .own (api_Range.c v9.1), .own (api_Range.c v9.2.1), .own [aI64 0, aI64 1, aI64 2, aI64 0]] (ok0 (fiducialref03_Whole_ok n 12 52 v22 hc23)) (ca4 [.fix [aI64 0, aI64 0, aI64 0, aI64 0], .fix [aI64 0, aI64 5, aI64 (-3), aI64 2], .own (api_Banded.c v1), .own (api_Banded.c v3), .fix [aB true, aB true, aB true, aB true], .own (api_Range.c v7.1), .own (api_Range.c v9.1), .own (api_Range.c v9.2.1), .own [aI64 0, aI64 1, aI64 2, aI64 0]] (ok0 (fiducialref03_Same_ok n v9.1 v22 false hc25))))))) <| .mu 1 <| .pure (v := aB true) (by kernel_rfl) (Eq.trans (b := some (.pure (aB ((v5.2 : Int) == 0)))) (by kernel_rfl) (by rw [hb11])) (by kernel_rfl) <| .mu 2 <| .pure (v := aB true) (by kernel_rfl) (Eq.trans (b := some (.pure (aB ((v7.2 : Int) == 0)))) (by kernel_rfl) (by rw [hb12])) (by kernel_rfl) <| .mu 3 <| .pure (v := aB true) (by kernel_rfl) (Eq.trans (b := some (.pure (aB ((v9.2.2 : Int) == 0)))) (by kernel_rfl) (by rw [hb13])) (by kernel_rfl) <| .mu 4 <| .ca cf0 <| .mu 3 <| .ca (cfF cf0) <| .ca (cfF (cfF cf0)) <| .mu 3 <| .ca (cfF (cfA (fun h => by rw [sv hc23 hc18 (fiducialref03_Whole_cg n h)]) (cfF cf0))) <| .ca (cfF (cfF (cfA (fun h => by rw [sv hc25 hc20 (fiducialref03_Same_cg n h)]) (cfF cf0)))) <| .mu 7 ?_
       refine .done ⟨by kernel_rfl, ?_⟩
       refine .ret ?_
       obtain rfl := Option.some.inj hr
       exact FinQ.r1 [aB false]
     ·subst hb21
      replace hr := cd_f rfl hr
      refine .tn fine (ca2 [.fix [aI64 0, aI64 0, aI64 0, aI64 0], .fix [aI64 0, aI64 5, aI64 (-3), aI64 2], .own (api_Banded.c v1), .own (api_Banded.c v3), .fix [aB true, aB true, aB true, aB true], .own (api_Range.c v7.1), .own (api_Range.c v9.1), .own (api_Range.c v9.2.1), .own [aI64 0, aI64 1, aI64 2, aI64 0]] (callOk_val (args := [sI64 v5.1, .hs 8 0 4 1]) (l := [8]) rfl (SnL.cons (Sn.pure rfl) (SnL.cons (Sn.hs rfl (.inl rfl) (SnC.cons (Sn.pure rfl) (SnC.cons (Sn.pure rfl) (SnC.cons (Sn.pure rfl) (SnC.cons (Sn.pure rfl) SnC.nil)))) (fun h => nomatch h)) SnL.nil)) (slices_Equal_fiducial_api_Verdict_fiducial_api_Verdict_ok n v5.1 [(0 : Int), (1 : Int), (2 : Int), (0 : Int)] true hc15)) (ca2 [.fix [aI64 0, aI64 0, aI64 0, aI64 0], .fix [aI64 0, aI64 5, aI64 (-3), aI64 2], .own (api_Banded.c v1), .own (api_Banded.c v3), .fix [aB true, aB true, aB true, aB true], .own (api_Range.c v7.1), .own (api_Range.c v9.1), .own (api_Range.c v9.2.1), .own [aI64 0, aI64 1, aI64 2, aI64 0]] (ok0 (fiducialref03_Whole_ok n (-16) 48 v17 hc18)) (ca4 [.fix [aI64 0, aI64 0, aI64 0, aI64 0], .fix [aI64 0, aI64 5, aI64 (-3), aI64 2], .own (api_Banded.c v1), .own (api_Banded.c v3), .fix [aB true, aB true, aB true, aB true], .own (api_Range.c v7.1), .own (api_Range.c v9.1), .own (api_Range.c v9.2.1), .own [aI64 0, aI64 1, aI64 2, aI64 0]] (ok0 (fiducialref03_Same_ok n v7.1 v17 false hc20))))) <| .mu 1 <| .pure (v := aB true) (by kernel_rfl) (Eq.trans (b := some (.pure (aB ((v5.2 : Int) == 0)))) (by kernel_rfl) (by rw [hb11])) (by kernel_rfl) <| .mu 2 <| .pure (v := aB true) (by kernel_rfl) (Eq.trans (b := some (.pure (aB ((v7.2 : Int) == 0)))) (by kernel_rfl) (by rw [hb12])) (by kernel_rfl) <| .mu 3 <| .pure (v := aB true) (by kernel_rfl) (Eq.trans (b := some (.pure (aB ((v9.2.2 : Int) == 0)))) (by kernel_rfl) (by rw [hb13])) (by kernel_rfl) <| .mu 4 <| .ca cf0 <| .mu 3 <| .ca (cfF cf0) <| .ca (cfF (cfF cf0)) <| .mu 12 ?_
      refine .done ⟨by kernel_rfl, ?_⟩
      refine .ret ?_
      obtain rfl := Option.some.inj hr
      exact FinQ.r1 [aB false]
    ·subst hb16
     replace hr := cd_f rfl hr
     refine .tn fine (ca4 [.fix [aI64 0, aI64 0, aI64 0, aI64 0], .fix [aI64 0, aI64 5, aI64 (-3), aI64 2], .own (api_Banded.c v1), .own (api_Banded.c v3), .fix [aB true, aB true, aB true, aB true], .own (api_Range.c v7.1), .own (api_Range.c v9.1), .own (api_Range.c v9.2.1), .own [aI64 0, aI64 1, aI64 2, aI64 0]] (callOk_val (args := [sI64 v5.1, .hs 8 0 4 1]) (l := [8]) rfl (SnL.cons (Sn.pure rfl) (SnL.cons (Sn.hs rfl (.inl rfl) (SnC.cons (Sn.pure rfl) (SnC.cons (Sn.pure rfl) (SnC.cons (Sn.pure rfl) (SnC.cons (Sn.pure rfl) SnC.nil)))) (fun h => nomatch h)) SnL.nil)) (slices_Equal_fiducial_api_Verdict_fiducial_api_Verdict_ok n v5.1 [(0 : Int), (1 : Int), (2 : Int), (0 : Int)] false hc15))) <| .mu 1 <| .pure (v := aB true) (by kernel_rfl) (Eq.trans (b := some (.pure (aB ((v5.2 : Int) == 0)))) (by kernel_rfl) (by rw [hb11])) (by kernel_rfl) <| .mu 2 <| .pure (v := aB true) (by kernel_rfl) (Eq.trans (b := some (.pure (aB ((v7.2 : Int) == 0)))) (by kernel_rfl) (by rw [hb12])) (by kernel_rfl) <| .mu 3 <| .pure (v := aB true) (by kernel_rfl) (Eq.trans (b := some (.pure (aB ((v9.2.2 : Int) == 0)))) (by kernel_rfl) (by rw [hb13])) (by kernel_rfl) <| .mu 4 <| .ca cf0 <| .mu 17 ?_
     refine .done ⟨by kernel_rfl, ?_⟩
     refine .ret ?_
     obtain rfl := Option.some.inj hr
     exact FinQ.r1 [aB false]
   ·replace hr := cd_f hb13 hr
    refine .regionT fine callOf_nil <| .mu 1 <| .pure (v := aB true) (by kernel_rfl) (Eq.trans (b := some (.pure (aB ((v5.2 : Int) == 0)))) (by kernel_rfl) (by rw [hb11])) (by kernel_rfl) <| .mu 2 <| .pure (v := aB true) (by kernel_rfl) (Eq.trans (b := some (.pure (aB ((v7.2 : Int) == 0)))) (by kernel_rfl) (by rw [hb12])) (by kernel_rfl) <| .mu 3 <| .pure (v := aB false) (by kernel_rfl) (Eq.trans (b := some (.pure (aB ((v9.2.2 : Int) == 0)))) (by kernel_rfl) (by rw [hb13])) (by kernel_rfl) <| .mu 22 ?_
    refine .done ⟨by kernel_rfl, ?_⟩
    refine .ret ?_
    obtain rfl := Option.some.inj hr
    exact FinQ.r1 [aB false]
  ·replace hr := cd_f hb12 hr
   refine .regionT fine callOf_nil <| .mu 1 <| .pure (v := aB true) (by kernel_rfl) (Eq.trans (b := some (.pure (aB ((v5.2 : Int) == 0)))) (by kernel_rfl) (by rw [hb11])) (by kernel_rfl) <| .mu 2 <| .pure (v := aB false) (by kernel_rfl) (Eq.trans (b := some (.pure (aB ((v7.2 : Int) == 0)))) (by kernel_rfl) (by rw [hb12])) (by kernel_rfl) <| .mu 26 ?_
   refine .done ⟨by kernel_rfl, ?_⟩
   refine .ret ?_
   obtain rfl := Option.some.inj hr
   exact FinQ.r1 [aB false]
 ·replace hr := cd_f hb11 hr
  refine .regionT fine callOf_nil <| .mu 1 <| .pure (v := aB false) (by kernel_rfl) (Eq.trans (b := some (.pure (aB ((v5.2 : Int) == 0)))) (by kernel_rfl) (by rw [hb11])) (by kernel_rfl) <| .mu 29 ?_
  refine .done ⟨by kernel_rfl, ?_⟩
  refine .ret ?_
  obtain rfl := Option.some.inj hr
  exact FinQ.r1 [aB false]

theorem fiduciallaw59_few_ok (n : Nat) (l : List api_Banded) (r : Bool) (hr : fiduciallaw59_few n l = some r) : FnOk Tryz.prog 8 [slT api_Banded.c l] (aB r) := by
 unfold fiduciallaw59_few at hr
 refine FnOk.bd fine Tryz.func8 [.tmp 2] ?_
 unfold Tryz.f8
 simp only [Option.getD_some]
 refine .seq <| .r3 fine 23 [(0, slT api_Banded.c l)] <| .seq <| .seq <| .r3 fine 23 [(5, slT api_Banded.c l), (6, aI64 (l.length : Int)), (7, aI64 0)] <| .block ?_
 replace hr := bd hr; obtain ⟨o11, hL12, hr⟩ := hr
 refine .loopO (σ := fun z0 => match z0 with | x_1 => ⟨mkS 23 0 [(5, slT api_Banded.c l), (6, aI64 (l.length : Int)), (7, aI64 x_1)], []⟩) (Q := fun x st' => match (generalizing := false) o11 with | .inl _ => x = .exit 0 ∧ Wk 0 st' ⟨mkS 23 0 [], []⟩ | .inr (r0) => x = .ret ∧ FinQ Tryz.prog [.tmp 2] (aB r0) .ret st') hL12 ((Wk.gc [5, 6, 7] [] rfl pK0).to (by kernel_rfl)) ?_ ?_
 ·clear hr
  rintro m x_1 hr
  show CQ _ _ _ _ _ ⟨_, _⟩
  refine .seq <| .r3 fine 23 [(5, slT api_Banded.c l), (6, aI64 (l.length : Int)), (7, aI64 x_1), (8, aB (decide (x_1 < (l.length : Int))))] <| .seq ?_
  refine .cd hr (fun hb7 hr => ?_) (fun hb7 hr => ?_)
  ·refine .skip <| .seq <| .block <| .seq ?_
   obtain ⟨hg8, hr⟩ := gd hr
   refine .r0 fine <| .p0 (v := .pp (l.flatMap api_Banded.c) (x_1.toNat * 7)) (Eq.trans (b := ORes.ofP (guardV (inR x_1 l.length) (.pp (l.flatMap api_Banded.c) (x_1.toNat * 7)))) (by kernel_rfl) (ofP_guard hg8)) <| .p0 (v := .agg (api_Banded.c (gt l x_1))) (Eq.trans (b := ORes.ofP (guardV (decide (7 ≤ ((l.flatMap api_Banded.c).drop (x_1.toNat * 7)).length)) (.agg (((l.flatMap api_Banded.c).drop (x_1.toNat * 7)).take 7)))) (by kernel_rfl) (flat_load api_Banded.len (inR_lt hg8) (by decide) (by omega : x_1.toNat * 7 = x_1.toNat * 7 + 0) (by kernel_rfl))) <| .mu 2 <| .done <| .n2 23 [(4, .hp 0 0), (5, slT api_Banded.c l), (6, aI64 (l.length : Int)), (7, aI64 x_1)] [.own (api_Banded.c (gt l x_1))] <| .seq ?_
   rcases Bool.eq_false_or_eq_true (decide (((gt l x_1).Grid.Z.length : Int) > 64)) with hb9 | hb9
   ·replace hr := cd_t hb9 hr
    refine .r0 fine <| .mu 4 <| .p0 (v := aB true) (Eq.trans (b := some (.pure (aB (decide (((gt l x_1).Grid.Z.length : Int) > 64))))) (by kernel_rfl) (by rw [hb9])) <| .mu 6 <| .done <| .n2 23 [(5, slT api_Banded.c l), (6, aI64 (l.length : Int)), (7, aI64 x_1), (21, aB true)] [.own (api_Banded.c (gt l x_1))] <| .cT (by kernel_rfl) <| .seq <| .ru fine <| .ret ?_
    obtain rfl := Option.some.inj hr
    exact ⟨rfl, FinQ.ret (vs := [aB false]) (by kernel_rfl) (Sn.pure rfl)⟩
   ·replace hr := cd_f hb9 hr
    refine .r0 fine <| .mu 4 <| .p0 (v := aB false) (Eq.trans (b := some (.pure (aB (decide (((gt l x_1).Grid.Z.length : Int) > 64))))) (by kernel_rfl) (by rw [hb9])) <| .mu 6 <| .done <| .n2 23 [(5, slT api_Banded.c l), (6, aI64 (l.length : Int)), (7, aI64 x_1), (21, aB (decide (((gt l x_1).Err.length : Int) > 70)))] [.own (api_Banded.c (gt l x_1))] ?_
    refine .cd hr (fun hb10 hr => ?_) (fun hb10 hr => ?_)
    ·refine .seq <| .ru fine <| .ret ?_
     obtain rfl := Option.some.inj hr
     exact ⟨rfl, FinQ.ret (vs := [aB false]) (by kernel_rfl) (Sn.pure rfl)⟩
    ·refine .skip <| .pop <| .ru fine ?_
     exact loopF_back (wrapF .i64 (x_1 + 1)) hr ((Wk.gc [5, 6, 7] [] rfl pK0).to (by kernel_rfl))
  ·refine .leave rfl ?_
   obtain rfl := Option.some.inj hr
   exact ⟨rfl, ((Wk.gc [] [] rfl pK0).to (by kernel_rfl))⟩
 ·rcases o11 with ⟨⟩ | r0
  ·rintro x st' hq13
   clear hL12
   obtain ⟨rfl, hq13⟩ := hq13
   refine CQ_exit _ rfl <| .wk hq13 <| .seq <| .ru fine <| .ret ?_
   obtain rfl := Option.some.inj hr
   exact FinQ.r1 [aB true]
  ·rintro x st' hq13
   clear hL12
   obtain ⟨rfl, hq13⟩ := hq13
   obtain rfl := Option.some.inj hr
   exact CQ_ret _ hq13

theorem change_History_1_w_ok (n : Nat) (b : api_Banded) (p : List (Int × Bool)) (p' : List api_Banded) (p'' : Int) (r : Bool) (hr : change_History_1_w n b p p' p'' = some r) : FnMut 3 Tryz.prog 47 [.agg (api_Banded.c b), .hp 0 0, .hp 1 0, .hp 2 0] [.own [.mp 3], .own [slT api_Banded.c p'], .own [aI64 p''], .map (p.map (mpc .i64 bA))] (aB r) [.own [.mp 3], .own [slT api_Banded.c p'], .own [aI64 p''], .map (p.map (mpc .i64 bA))] := by
 unfold change_History_1_w at hr
 refine FnMut.bodyW fine Tryz.func47 (c := (Tryz.f47.body).getD .skip) rfl (us := [aB r]) (s := mkS 14 0 [(0, .agg (api_Banded.c b)), (1, .hp 0 0), (2, .hp 1 0), (3, .hp 2 0)]) (by kernel_rfl) (rs := [.tmp 5]) rfl ?_
 unfold Tryz.f47
 simp only [Option.getD_some]
 refine .seq <| .r2 fine 14 [(1, .hp 0 0), (2, .hp 1 0), (3, .hp 2 0), (4, .hp 4 0)] [.own [.mp 3], .own [slT api_Banded.c p'], .own [aI64 p''], .map (p.map (mpc .i64 bA)), .own (api_Banded.c b)] <| .seq ?_
 obtain ⟨hg5, hr⟩ := gd hr
 obtain ⟨v6, hc7, hr⟩ := bd hr
 refine .t1 fine (ok0 (change_verdict_ok n (gt p' 0) b p'' v6 hc7)) <| .mu 2 <| .pure (v := .pp (p'.flatMap api_Banded.c) ((0 : Int).toNat * 7)) (by kernel_rfl) (Eq.trans (b := ORes.ofP (guardV (inR 0 p'.length) (.pp (p'.flatMap api_Banded.c) ((0 : Int).toNat * 7)))) (by kernel_rfl) (ofP_guard hg5)) (by kernel_rfl) <| .pure (v := .agg (api_Banded.c (gt p' 0))) (by kernel_rfl) (Eq.trans (b := ORes.ofP (guardV (decide (7 ≤ ((p'.flatMap api_Banded.c).drop ((0 : Int).toNat * 7)).length)) (.agg (((p'.flatMap api_Banded.c).drop ((0 : Int).toNat * 7)).take 7)))) (by kernel_rfl) (flat_load api_Banded.len (inR_lt hg5) (by decide) (by omega : (0 : Int).toNat * 7 = (0 : Int).toNat * 7 + 0) (by kernel_rfl))) (by kernel_rfl) <| .mu 2 <| .ca cf0 <| .pure (v := aB (getM false p v6)) (by kernel_rfl) (Eq.trans (b := ORes.ofP (lookupA Tryz.prog [.own [.mp 3], .own [slT api_Banded.c p'], .own [aI64 p''], .map (p.map (mpc .i64 bA)), .own (api_Banded.c b)] 85 (.mp 3) (aI64 v6) false)) (by kernel_rfl) (look_m (kt := 34) (e := 4) (l := p) (f := bA) (by kernel_rfl) (by kernel_rfl) (by kernel_rfl) (by kernel_rfl))) (by kernel_rfl) <| .mu 1 ?_
 refine .done ⟨by kernel_rfl, ?_⟩
 refine .n2 14 [(5, aB (getM false p v6))] [.own [.mp 3], .own [slT api_Banded.c p'], .own [aI64 p''], .map (p.map (mpc .i64 bA)), .own (api_Banded.c b)] <| .ret ?_
 obtain rfl := Option.some.inj hr
 exact FinMW.ret [aB (getM false p v6)] ((Wk.gc [0] [(0, true), (1, true), (2, true), (3, false)] rfl (pKt (pKt (pKt (pKm (k := .i64) bA (fun _ => rfl) p trivial))))).to (by kernel_rfl))

theorem slices_IndexFunc_fiducial_api_Banded_fiducial_api_Banded_w_of_change_History_1_ok (n : Nat) (s : List api_Banded) (c : List (Int × Bool)) (c' : List api_Banded) (c'' : Int) (r : Int) (hr : slices_IndexFunc_fiducial_api_Banded_fiducial_api_Banded_w_of_change_History_1 n s c c' c'' = some r) : FnMut 3 Tryz.prog 46 [slT api_Banded.c s, .fn 47 [] [.hp 0 0, .hp 1 0, .hp 2 0]] [.own [.mp 3], .own [slT api_Banded.c c'], .own [aI64 c''], .map (c.map (mpc .i64 bA))] (aI64 r) [.own [.mp 3], .own [slT api_Banded.c c'], .own [aI64 c''], .map (c.map (mpc .i64 bA))] := by
 unfold slices_IndexFunc_fiducial_api_Banded_fiducial_api_Banded_w_of_change_History_1 at hr
 refine FnMut.bodyW fine Tryz.func46 (c := (Tryz.f46.body).getD .skip) rfl (us := [aI64 r]) (s := mkS 19 0 [(0, slT api_Banded.c s), (1, .fn 47 [] [.hp 0 0, .hp 1 0, .hp 2 0])]) (by kernel_rfl) (rs := [.tmp 4]) rfl ?_
 unfold Tryz.f46
 simp only [Option.getD_some]
 refine .seq <| .r3 fine 19 [(0, slT api_Banded.c s), (1, .fn 47 [] [.hp 0 0, .hp 1 0, .hp 2 0])] <| .seq <| .seq <| .r3 fine 19 [(0, slT api_Banded.c s), (1, .fn 47 [] [.hp 0 0, .hp 1 0, .hp 2 0]), (7, aI64 (s.length : Int)), (8, aI64 0)] <| .block ?_
 replace hr := bd hr; obtain ⟨o29, hL30, hr⟩ := hr
 refine .loopO (σ := fun z0 => match z0 with | x_17 => ⟨mkS 19 0 [(0, slT api_Banded.c s), (1, .fn 47 [] [.hp 0 0, .hp 1 0, .hp 2 0]), (7, aI64 (s.length : Int)), (8, aI64 x_17)], [.own [.mp 3], .own [slT api_Banded.c c'], .own [aI64 c''], .map (c.map (mpc .i64 bA))]⟩) (Q := fun x st' => match (generalizing := false) o29 with | .inl _ => x = .exit 0 ∧ Wk 3 st' ⟨mkS 19 0 [], [.own [.mp 3], .own [slT api_Banded.c c'], .own [aI64 c''], .map (c.map (mpc .i64 bA))]⟩ | .inr (r0) => x = .ret ∧ FinMW 3 Tryz.prog [.tmp 4] [aI64 r0] [.own [.mp 3], .own [slT api_Banded.c c'], .own [aI64 c''], .map (c.map (mpc .i64 bA))] .ret st') hL30 ((Wk.gc [0, 1, 7, 8] [(0, true), (1, true), (2, true), (3, false)] rfl (pKt (pKt (pKt (pKm (k := .i64) bA (fun _ => rfl) c trivial))))).to (by kernel_rfl)) ?_ ?_
 ·clear hr
  rintro m x_17 hr
  show CQ _ _ _ _ _ ⟨_, _⟩
  refine .seq <| .r3 fine 19 [(0, slT api_Banded.c s), (1, .fn 47 [] [.hp 0 0, .hp 1 0, .hp 2 0]), (7, aI64 (s.length : Int)), (8, aI64 x_17), (9, aB (decide (x_17 < (s.length : Int))))] <| .seq ?_
  refine .cd hr (fun hb24 hr => ?_) (fun hb24 hr => ?_)
  ·refine .skip <| .seq <| .block <| .seq <| .r3 fine 19 [(0, slT api_Banded.c s), (1, .fn 47 [] [.hp 0 0, .hp 1 0, .hp 2 0]), (5, aI64 x_17), (7, aI64 (s.length : Int)), (8, aI64 x_17)] <| .seq ?_
   obtain ⟨hg25, hr⟩ := gd hr
   obtain ⟨v26, hc27, hr⟩ := bd hr
   refine .g1 fine (callOk_drop 2 (.own [aI64 c'']) [(0, .own [.mp 4])] [(4, .map (c.map (mpc .i64 bA))), (3, .dead)] (callOk_drop 1 (.own [slT api_Banded.c c']) [(0, .own [.mp 4])] [(2, .own [aI64 c'']), (4, .map (c.map (mpc .i64 bA))), (3, .dead)] (callOk_mutU (args := [.agg (api_Banded.c (gt s x_17)), .hp 0 0, .hp 1 0, .hp 2 0]) 3 1 [(0, true), (1, true), (2, true), (3, false)] [true, true, true, false] (change_History_1_w_ok n (gt s x_17) c c' c'' v26 hc27) (by exact ⟨ids_mpc (fun _ => rfl) _, trivial⟩) (by exact ⟨ids_mpc (fun _ => rfl) _, trivial⟩) rfl rfl (by kernel_rfl) (by kernel_rfl)))) <| .mu 3 <| .p0 (v := .pp (s.flatMap api_Banded.c) (x_17.toNat * 7)) (Eq.trans (b := ORes.ofP (guardV (inR x_17 s.length) (.pp (s.flatMap api_Banded.c) (x_17.toNat * 7)))) (by kernel_rfl) (ofP_guard hg25)) <| .p0 (v := .agg (api_Banded.c (gt s x_17))) (Eq.trans (b := ORes.ofP (guardV (decide (7 ≤ ((s.flatMap api_Banded.c).drop (x_17.toNat * 7)).length)) (.agg (((s.flatMap api_Banded.c).drop (x_17.toNat * 7)).take 7)))) (by kernel_rfl) (flat_load api_Banded.len (inR_lt hg25) (by decide) (by omega : x_17.toNat * 7 = x_17.toNat * 7 + 0) (by kernel_rfl))) <| .ca cf0 <| .done <| .n2 19 [(0, slT api_Banded.c s), (1, .fn 47 [] [.hp 0 0, .hp 1 0, .hp 2 0]), (5, aI64 x_17), (7, aI64 (s.length : Int)), (8, aI64 x_17), (16, aB v26)] [.own [.mp 4], .own [slT api_Banded.c c'], .own [aI64 c''], .dead, .map (c.map (mpc .i64 bA))] ?_
   refine .cd hr (fun hb28 hr => ?_) (fun hb28 hr => ?_)
   ·refine .seq <| .r3 fine 19 [(4, aI64 x_17)] <| .ret ?_
    obtain rfl := Option.some.inj hr
    exact ⟨rfl, FinMW.ret [aI64 x_17] ((Wk.gc [0] [(0, true), (1, true), (2, true), (4, false)] rfl (pKt (pKt (pKt (pKm (k := .i64) bA (fun _ => rfl) c trivial))))).to (by kernel_rfl))⟩
   ·refine .skip <| .pop <| .ru fine ?_
    exact loopF_back (wrapF .i64 (x_17 + 1)) hr ((Wk.gc [0, 1, 7, 8] [(0, true), (1, true), (2, true), (4, false)] rfl (pKt (pKt (pKt (pKm (k := .i64) bA (fun _ => rfl) c trivial))))).to (by kernel_rfl))
  ·refine .leave rfl ?_
   obtain rfl := Option.some.inj hr
   exact ⟨rfl, ((Wk.gc [] [(0, true), (1, true), (2, true), (3, false)] rfl (pKt (pKt (pKt (pKm (k := .i64) bA (fun _ => rfl) c trivial))))).to (by kernel_rfl))⟩
 ·rcases o29 with ⟨⟩ | r0
  ·rintro x st' hq31
   clear hL30
   obtain ⟨rfl, hq31⟩ := hq31
   refine CQ_exit _ rfl <| .wk hq31 <| .seq <| .r3 fine 19 [(4, aI64 (-1))] <| .ret ?_
   obtain rfl := Option.some.inj hr
   exact FinMW.ret [aI64 (-1)] ((Wk.gc [0] [(0, true), (1, true), (2, true), (3, false)] rfl (pKt (pKt (pKt (pKm (k := .i64) bA (fun _ => rfl) c trivial))))).to (by kernel_rfl))
  ·rintro x st' hq31
   clear hL30
   obtain ⟨rfl, hq31⟩ := hq31
   obtain rfl := Option.some.inj hr
   exact CQ_ret _ hq31

theorem change_History_ok (n : Nat) (l : List api_Banded) (r : List Int × Int) (hr : change_History n l = some r) : FnOk Tryz.prog 9 [slT api_Banded.c l] (.tup [sI64 r.1, aI64 r.2]) := by
 unfold change_History at hr
 refine FnOk.bd fine Tryz.func9 [.tmp 2, .tmp 3] ?_
 unfold Tryz.f9
 simp only [Option.getD_some]
 refine .seq <| .r2 fine 41 [(1, .hp 0 0)] [.own [slT api_Banded.c l]] <| .seq <| .seq <| .r3 fine 41 [(1, .hp 0 0), (10, aB (((l.length : Int) : Int) == 0))] ?_
 refine .cd hr (fun hb1 hr => ?_) (fun hb1 hr => ?_)
 ·refine .seq <| .r3 fine 41 [(2, nS), (3, aI64 6)] <| .ret ?_
  obtain rfl := Option.some.inj hr
  exact FinQ.ret (vs := [nS, aI64 6]) (by kernel_rfl) (Sn.tup (SnL.cons Sn.nilsl (SnL.cons (Sn.pure rfl) SnL.nil)))
 ·refine .skip <| .seq <| .seq <| .r3 fine 41 [(1, .hp 0 0), (13, aB (decide ((l.length : Int) > 16)))] ?_
  refine .cd hr (fun hb2 hr => ?_) (fun hb2 hr => ?_)
  ·refine .seq <| .r3 fine 41 [(2, nS), (3, aI64 3)] <| .ret ?_
   obtain rfl := Option.some.inj hr
   exact FinQ.ret (vs := [nS, aI64 3]) (by kernel_rfl) (Sn.tup (SnL.cons Sn.nilsl (SnL.cons (Sn.pure rfl) SnL.nil)))
  ·refine .skip <| .seq <| .seq ?_
   obtain ⟨v3, hc4, hr⟩ := bd hr
   refine .g1 fine (ok0 (change_fit_ok n l v3 hc4)) <| .mu 1 <| .ca cf0 <| .mu 1 <| .done <| .n2 41 [(1, .hp 0 0), (4, aI64 v3)] [.own [slT api_Banded.c l]] <| .seq <| .r3 fine 41 [(1, .hp 0 0), (4, aI64 v3), (17, aB ((v3 : Int) != 0))] ?_
   refine .cd hr (fun hb5 hr => ?_) (fun hb5 hr => ?_)
   ·refine .seq <| .r3 fine 41 [(2, nS), (3, aI64 v3)] <| .ret ?_
    obtain rfl := Option.some.inj hr
    exact FinQ.ret (vs := [nS, aI64 v3]) (by kernel_rfl) (Sn.tup (SnL.cons Sn.nilsl (SnL.cons (Sn.pure rfl) SnL.nil)))
   ·refine .skip <| .seq <| .r0 fine <| .mu 1 <| .e0 (v := .unk) (ws := [(1, .map ((putM ([] : List (Int × Bool)) 1 true).map (mpc .i64 bA)))]) (Eq.trans (b := opUpdate Tryz.prog [.own [slT api_Banded.c l], .map (([] : List (Int × Bool)).map (mpc .i64 bA))] 85 (.mp 1) (aI64 1) (aB true)) (by kernel_rfl) (put_m (kt := 34) (e := 4) (l := ([] : List (Int × Bool))) (f := bA) (v := true) (by kernel_rfl) (by kernel_rfl) (by kernel_rfl))) <| .e0 (v := .unk) (ws := [(1, .map ((putM (putM ([] : List (Int × Bool)) 1 true) 2 true).map (mpc .i64 bA)))]) (Eq.trans (b := opUpdate Tryz.prog [.own [slT api_Banded.c l], .map ((putM ([] : List (Int × Bool)) 1 true).map (mpc .i64 bA))] 85 (.mp 1) (aI64 2) (aB true)) (by kernel_rfl) (put_m (kt := 34) (e := 4) (l := putM ([] : List (Int × Bool)) 1 true) (f := bA) (v := true) (by kernel_rfl) (by kernel_rfl) (by kernel_rfl))) <| .mu 3 <| .done <| .n2 41 [(1, .hp 0 0), (5, .hp 2 0)] [.own [slT api_Banded.c l], .map ((putM (putM ([] : List (Int × Bool)) 1 true) 2 true).map (mpc .i64 bA)), .own [.mp 1]] <| .seq ?_
    obtain ⟨hg6, hg7, hg8, hr⟩ := gd3 hr
    obtain ⟨hg9, hr⟩ := gd hr
    refine .r0 fine <| .mu 1 <| .p0 (v := .pp (l.flatMap api_Banded.c) ((0 : Int).toNat * 7)) (Eq.trans (b := ORes.ofP (guardV (inR 0 l.length) (.pp (l.flatMap api_Banded.c) ((0 : Int).toNat * 7)))) (by kernel_rfl) (ofP_guard hg6)) <| .mu 2 <| .p0 (v := sI64 (gt l 0).Grid.Z) (Eq.trans (b := ORes.ofP ((l.flatMap api_Banded.c)[(0 : Int).toNat * 7 + 0 + 5]?)) (by kernel_rfl) (ofP_some (flat_get api_Banded.len (inR_lt hg6) (by decide : 5 < 7) (by omega : (0 : Int).toNat * 7 + 0 + 5 = (0 : Int).toNat * 7 + 5) (by kernel_rfl)))) <| .mu 1 <| .e0 (v := .hs 3 0 (List.replicate ((gt l 0).Grid.Z.length : Int).toNat ((0 : Int) : Int)).length 1) (ws := [(3, .own ((List.replicate ((gt l 0).Grid.Z.length : Int).toNat ((0 : Int) : Int)).flatMap (iC .i64)))]) (Eq.trans (b := guardO (decide (0 ≤ ((gt l 0).Grid.Z.length : Int)) && decide (((gt l 0).Grid.Z.length : Int) ≤ ((gt l 0).Grid.Z.length : Int)) && decide ((8 : Int) * ((gt l 0).Grid.Z.length : Int) ≤ 281474976710656) && decide (((gt l 0).Grid.Z.length : Int) ≤ 9223372036854775807) && true && true && true) (some (.eff (.hs 3 0 ((gt l 0).Grid.Z.length : Int).toNat 1) [(3, .own (zerosA [aI64 0] ((gt l 0).Grid.Z.length : Int).toNat))]))) (by kernel_rfl) (make_own (c := (iC .i64)) (z := (0 : Int)) (n := ((gt l 0).Grid.Z.length : Int)) (by_ := 8) rfl hg7 hg8 hg9)) <| .mu 1 <| .done <| .n2 41 [(1, .hp 0 0), (5, .hp 2 0), (6, .hs 3 0 (List.replicate ((gt l 0).Grid.Z.length : Int).toNat ((0 : Int) : Int)).length 1)] [.own [slT api_Banded.c l], .map ((putM (putM ([] : List (Int × Bool)) 1 true) 2 true).map (mpc .i64 bA)), .own [.mp 1], .own ((List.replicate ((gt l 0).Grid.Z.length : Int).toNat ((0 : Int) : Int)).flatMap (iC .i64))] <| .seq <| .seq <| .r3 fine 41 [(1, .hp 0 0), (5, .hp 2 0), (6, .hs 3 0 (List.replicate ((gt l 0).Grid.Z.length : Int).toNat ((0 : Int) : Int)).length 1), (29, aI64 ((List.replicate ((gt l 0).Grid.Z.length : Int).toNat ((0 : Int) : Int)).length : Int)), (30, aI64 0)] <| .block ?_
    replace hr := bd hr; obtain ⟨out_17, hL24, hr⟩ := hr
    refine .loopO (σ := fun z0 => match z0 with | (changed_10, out_11, x_12) => ⟨mkS 41 0 [(1, .hp 0 0), (5, .hp 1 0), (6, .hs 3 0 out_11.length 1), (29, aI64 ((List.replicate ((gt l 0).Grid.Z.length : Int).toNat ((0 : Int) : Int)).length : Int)), (30, aI64 x_12)], [.own [slT api_Banded.c l], .own [.mp 2], .map (changed_10.map (mpc .i64 bA)), .own (out_11.flatMap (iC .i64))]⟩) (Q := fun x st' => x = .exit 0 ∧ Wk 0 st' ⟨mkS 41 0 [(6, .hs 0 0 out_17.length 1)], [.own (out_17.flatMap (iC .i64))]⟩) hL24 ((Wk.gc [1, 5, 6, 29, 30] [(0, true), (2, true), (1, false), (3, false)] rfl (pKt (pKt (pKm (k := .i64) bA (fun _ => rfl) (putM (putM ([] : List (Int × Bool)) 1 true) 2 true) (pKo (iC .i64) (iC_pure _) (List.replicate ((gt l 0).Grid.Z.length : Int).toNat ((0 : Int) : Int)) trivial))))).to (by kernel_rfl)) ?_ ?_
    ·clear hr
     rintro m ⟨changed_10, out_11, x_12⟩ hr
     show CQ _ _ _ _ _ ⟨_, _⟩
     refine .seq <| .r3 fine 41 [(1, .hp 0 0), (5, .hp 1 0), (6, .hs 3 0 out_11.length 1), (29, aI64 ((List.replicate ((gt l 0).Grid.Z.length : Int).toNat ((0 : Int) : Int)).length : Int)), (30, aI64 x_12), (31, aB (decide (x_12 < ((List.replicate ((gt l 0).Grid.Z.length : Int).toNat ((0 : Int) : Int)).length : Int))))] <| .seq ?_
     refine .cd hr (fun hb19 hr => ?_) (fun hb19 hr => ?_)
     ·refine .skip <| .seq <| .block <| .seq <| .r2 fine 41 [(1, .hp 0 0), (5, .hp 1 0), (6, .hs 3 0 out_11.length 1), (7, .hp 4 0), (29, aI64 ((List.replicate ((gt l 0).Grid.Z.length : Int).toNat ((0 : Int) : Int)).length : Int)), (30, aI64 x_12)] [.own [slT api_Banded.c l], .own [.mp 2], .map (changed_10.map (mpc .i64 bA)), .own (out_11.flatMap (iC .i64)), .own [aI64 x_12]] ?_
      obtain ⟨v20, hc21, hr⟩ := bd hr
      obtain ⟨hg22, hr⟩ := gd hr
      refine .t1 fine (callOk_drop 4 (.own [aI64 x_12]) [(1, .own [.mp 5])] [(5, .map (changed_10.map (mpc .i64 bA))), (2, .dead)] (callOk_drop 0 (.own [slT api_Banded.c l]) [(1, .own [.mp 5])] [(4, .own [aI64 x_12]), (5, .map (changed_10.map (mpc .i64 bA))), (2, .dead)] (callOk_mutU (args := [slT api_Banded.c l, .fn 47 [] [.hp 1 0, .hp 0 0, .hp 4 0]]) 3 1 [(1, true), (0, true), (4, true), (2, false)] [true, true, true, false] (slices_IndexFunc_fiducial_api_Banded_fiducial_api_Banded_w_of_change_History_1_ok n l changed_10 l x_12 v20 hc21) (by exact ⟨ids_mpc (fun _ => rfl) _, trivial⟩) (by exact ⟨ids_mpc (fun _ => rfl) _, trivial⟩) rfl rfl (by kernel_rfl) (by kernel_rfl)))) <| .mu 4 <| .ca cf0 <| .pure (v := .hp 3 (0 + x_12.toNat * 1)) (by kernel_rfl) (Eq.trans (b := ORes.ofP (guardV (inR x_12 out_11.length) (.hp 3 (0 + x_12.toNat * 1)))) (by kernel_rfl) (ofP_guard hg22)) (by kernel_rfl) <| .eff (v := .unk) (ws := [(3, .own ((out_11.set x_12.toNat v20).flatMap (iC .i64)))]) (by kernel_rfl) (Eq.trans (b := stO (decide ((0 + x_12.toNat * 1) + 1 ≤ (out_11.flatMap (iC .i64)).length) && true) [(3, .own (setCells (out_11.flatMap (iC .i64)) (0 + x_12.toNat * 1) [aI64 v20]))]) (by kernel_rfl) (stO_t (and_t (flat_fits (iC_len _) (inR_lt hg22) (Nat.le_of_ble_eq_true rfl) (by omega : 0 + x_12.toNat * 1 = x_12.toNat * 1 + 0))) (congrArg Blk.own (flat_set (iC_len _) (inR_lt hg22) (Nat.le_of_ble_eq_true rfl) (by omega : 0 + x_12.toNat * 1 = x_12.toNat * 1 + 0) (by kernel_rfl))))) (by kernel_rfl) ?_
      refine .done ⟨by kernel_rfl, ?_⟩
      refine .pop <| .ru fine ?_
      exact loopF_back (changed_10, out_11.set x_12.toNat v20, wrapF .i64 (x_12 + 1)) hr ((Wk.relen 6 (b := 3) (es := 1) (len := out_11.length) (out_11.set x_12.toNat v20).length (by kernel_rfl) (Eq.symm (List.length_set.trans rfl))).trans ((Wk.gc [1, 5, 6, 29, 30] [(0, true), (1, true), (5, false), (3, false)] rfl (pKt (pKt (pKm (k := .i64) bA (fun _ => rfl) changed_10 (pKo (iC .i64) (iC_pure _) (out_11.set x_12.toNat v20) trivial))))).to (by kernel_rfl)))
     ·refine .leave rfl ?_
      obtain rfl := Option.some.inj hr
      exact ⟨rfl, ((Wk.gc [6] [(3, false)] rfl (pKo (iC .i64) (iC_pure _) out_11 trivial)).to (by kernel_rfl))⟩
    ·rintro x st' hq25
     clear hL24
     obtain ⟨rfl, hq25⟩ := hq25
     refine CQ_exit _ rfl <| .wk hq25 <| .seq <| .r3 fine 41 [(2, .hs 0 0 out_17.length 1), (3, aI64 0)] <| .ret ?_
     obtain rfl := Option.some.inj hr
     exact FinQ.ret (vs := [.hs 0 0 out_17.length 1, aI64 0]) (by kernel_rfl) (Sn.tup (SnL.cons (Sn.hs rfl (.inl rfl) (SnC.pure (ids_flat (iC_pure _) _)) (fun h => flat_nil0 h)) (SnL.cons (Sn.pure rfl) SnL.nil)))

theorem fiduciallaw51_out_inj {n' : Int} {n'_ : Int} (h : ([.at (.int .i64 n')] : List AV) = [.at (.int .i64 n'_)]) : n' = n'_ := by
 simp only [List.cons.injEq, AV.agg.injEq, AV.at.injEq, Value.int.injEq, Value.bool.injEq, AV.fn.injEq, AV.pp.injEq, true_and, and_true] at h
 simp_all
theorem fiduciallaw51_out_cg (n : Nat) {n' : Int} {n'_ : Int} (h : ([.at (.int .i64 n')] : List AV) = [.at (.int .i64 n'_)]) : fiduciallaw51_out n n' = fiduciallaw51_out n n'_ := by
 obtain rfl := fiduciallaw51_out_inj h
 rfl
theorem fiduciallaw51_out_ok (n : Nat) (n' : Int) (r : Bool) (hr : fiduciallaw51_out n n' = some r) : FnOk Tryz.prog 186 [aI64 n'] (aB r) := by
 unfold fiduciallaw51_out at hr
 refine FnOk.bd fine Tryz.func186 [.tmp 2] ?_
 unfold Tryz.f186
 simp only [Option.getD_some]
 refine .seq <| .r3 fine 9 [(0, aI64 n')] <| .seq ?_
 rcases Bool.eq_false_or_eq_true (decide (n' < (-1048576))) with hb1 | hb1
 ·replace hr := cd_t hb1 hr
  refine .r0 fine <| .mu 1 <| .p0 (v := aB true) (Eq.trans (b := some (.pure (aB (decide (n' < (-1048576)))))) (by kernel_rfl) (by rw [hb1])) <| .mu 5 <| .done <| .ret ?_
  obtain rfl := Option.some.inj hr
  exact FinQ.r1 [aB true]
 ·replace hr := cd_f hb1 hr
  refine .r0 fine <| .mu 1 <| .p0 (v := aB false) (Eq.trans (b := some (.pure (aB (decide (n' < (-1048576)))))) (by kernel_rfl) (by rw [hb1])) <| .mu 5 <| .done <| .ret ?_
  obtain rfl := Option.some.inj hr
  exact FinQ.r1 [aB (decide (n' > 1048576))]

theorem fiduciallaw51_check_ok (n : Nat) (g : api_Grid) (r : Int) (hr : fiduciallaw51_check n g = some r) : FnOk Tryz.prog 135 [.agg (api_Grid.c g)] (aI64 r) := by
 unfold fiduciallaw51_check at hr
 refine FnOk.bd fine Tryz.func135 [.tmp 2] ?_
 unfold Tryz.f135
 simp only [Option.getD_some]
 refine .seq <| .r2 fine 72 [(1, .hp 0 0)] [.own (api_Grid.c g)] <| .seq <| .seq ?_
 rcases Bool.eq_false_or_eq_true (decide (g.Width < 2)) with hb1 | hb1
 ·replace hr := cd_t hb1 hr
  refine .r0 fine <| .mu 2 <| .p0 (v := aB true) (Eq.trans (b := some (.pure (aB (decide (g.Width < 2))))) (by kernel_rfl) (by rw [hb1])) <| .mu 41 <| .done <| .n2 72 [(1, .hp 0 0), (48, aB true)] [.own (api_Grid.c g)] <| .cT (by kernel_rfl) <| .seq <| .ru fine <| .ret ?_
  obtain rfl := Option.some.inj hr
  exact FinQ.r1 [aI64 2]
 ·replace hr := cd_f hb1 hr
  rcases Bool.eq_false_or_eq_true (decide (g.Width > 64)) with hb2 | hb2
  ·replace hr := cd_t hb2 hr
   refine .r0 fine <| .mu 2 <| .p0 (v := aB false) (Eq.trans (b := some (.pure (aB (decide (g.Width < 2))))) (by kernel_rfl) (by rw [hb1])) <| .mu 3 <| .pure (v := aB true) (by kernel_rfl) (Eq.trans (b := some (.pure (aB (decide (g.Width > 64))))) (by kernel_rfl) (by rw [hb2])) <| .mu 37 <| .done <| .n2 72 [(1, .hp 0 0), (48, aB true)] [.own (api_Grid.c g)] <| .cT (by kernel_rfl) <| .seq <| .ru fine <| .ret ?_
   obtain rfl := Option.some.inj hr
   exact FinQ.r1 [aI64 2]
  ·replace hr := cd_f hb2 hr
   rcases Bool.eq_false_or_eq_true (decide (g.Height < 2)) with hb3 | hb3
   ·replace hr := cd_t hb3 hr
    refine .r0 fine <| .mu 2 <| .p0 (v := aB false) (Eq.trans (b := some (.pure (aB (decide (g.Width < 2))))) (by kernel_rfl) (by rw [hb1])) <| .mu 3 <| .pure (v := aB false) (by kernel_rfl) (Eq.trans (b := some (.pure (aB (decide (g.Width > 64))))) (by kernel_rfl) (by rw [hb2])) <| .mu 4 <| .pure (v := aB true) (by kernel_rfl) (Eq.trans (b := some (.pure (aB (decide (g.Height < 2))))) (by kernel_rfl) (by rw [hb3])) <| .mu 32 <| .done <| .n2 72 [(1, .hp 0 0), (48, aB true)] [.own (api_Grid.c g)] <| .cT (by kernel_rfl) <| .seq <| .ru fine <| .ret ?_
    obtain rfl := Option.some.inj hr
    exact FinQ.r1 [aI64 2]
   ·replace hr := cd_f hb3 hr
    rcases Bool.eq_false_or_eq_true (decide (g.Height > 64)) with hb4 | hb4
    ·replace hr := cd_t hb4 hr
     refine .r0 fine <| .mu 2 <| .p0 (v := aB false) (Eq.trans (b := some (.pure (aB (decide (g.Width < 2))))) (by kernel_rfl) (by rw [hb1])) <| .mu 3 <| .pure (v := aB false) (by kernel_rfl) (Eq.trans (b := some (.pure (aB (decide (g.Width > 64))))) (by kernel_rfl) (by rw [hb2])) <| .mu 4 <| .pure (v := aB false) (by kernel_rfl) (Eq.trans (b := some (.pure (aB (decide (g.Height < 2))))) (by kernel_rfl) (by rw [hb3])) <| .mu 4 <| .pure (v := aB true) (by kernel_rfl) (Eq.trans (b := some (.pure (aB (decide (g.Height > 64))))) (by kernel_rfl) (by rw [hb4])) <| .mu 27 <| .done <| .n2 72 [(1, .hp 0 0), (48, aB true)] [.own (api_Grid.c g)] <| .cT (by kernel_rfl) <| .seq <| .ru fine <| .ret ?_
     obtain rfl := Option.some.inj hr
     exact FinQ.r1 [aI64 2]
    ·replace hr := cd_f hb4 hr
     rcases Bool.eq_false_or_eq_true (decide (g.Step < 2)) with hb5 | hb5
     ·replace hr := cd_t hb5 hr
      refine .r0 fine <| .mu 2 <| .p0 (v := aB false) (Eq.trans (b := some (.pure (aB (decide (g.Width < 2))))) (by kernel_rfl) (by rw [hb1])) <| .mu 3 <| .pure (v := aB false) (by kernel_rfl) (Eq.trans (b := some (.pure (aB (decide (g.Width > 64))))) (by kernel_rfl) (by rw [hb2])) <| .mu 4 <| .pure (v := aB false) (by kernel_rfl) (Eq.trans (b := some (.pure (aB (decide (g.Height < 2))))) (by kernel_rfl) (by rw [hb3])) <| .mu 4 <| .pure (v := aB false) (by kernel_rfl) (Eq.trans (b := some (.pure (aB (decide (g.Height > 64))))) (by kernel_rfl) (by rw [hb4])) <| .mu 4 <| .pure (v := aB true) (by kernel_rfl) (Eq.trans (b := some (.pure (aB (decide (g.Step < 2))))) (by kernel_rfl) (by rw [hb5])) <| .mu 22 <| .done <| .n2 72 [(1, .hp 0 0), (48, aB true)] [.own (api_Grid.c g)] <| .cT (by kernel_rfl) <| .seq <| .ru fine <| .ret ?_
      obtain rfl := Option.some.inj hr
      exact FinQ.r1 [aI64 2]
     ·replace hr := cd_f hb5 hr
      rcases Bool.eq_false_or_eq_true (decide (g.Step > 65536)) with hb6 | hb6
      ·replace hr := cd_t hb6 hr
       refine .r0 fine <| .mu 2 <| .p0 (v := aB false) (Eq.trans (b := some (.pure (aB (decide (g.Width < 2))))) (by kernel_rfl) (by rw [hb1])) <| .mu 3 <| .pure (v := aB false) (by kernel_rfl) (Eq.trans (b := some (.pure (aB (decide (g.Width > 64))))) (by kernel_rfl) (by rw [hb2])) <| .mu 4 <| .pure (v := aB false) (by kernel_rfl) (Eq.trans (b := some (.pure (aB (decide (g.Height < 2))))) (by kernel_rfl) (by rw [hb3])) <| .mu 4 <| .pure (v := aB false) (by kernel_rfl) (Eq.trans (b := some (.pure (aB (decide (g.Height > 64))))) (by kernel_rfl) (by rw [hb4])) <| .mu 4 <| .pure (v := aB false) (by kernel_rfl) (Eq.trans (b := some (.pure (aB (decide (g.Step < 2))))) (by kernel_rfl) (by rw [hb5])) <| .mu 4 <| .pure (v := aB true) (by kernel_rfl) (Eq.trans (b := some (.pure (aB (decide (g.Step > 65536))))) (by kernel_rfl) (by rw [hb6])) <| .mu 17 <| .done <| .n2 72 [(1, .hp 0 0), (48, aB true)] [.own (api_Grid.c g)] <| .cT (by kernel_rfl) <| .seq <| .ru fine <| .ret ?_
       obtain rfl := Option.some.inj hr
       exact FinQ.r1 [aI64 2]
      ·replace hr := cd_f hb6 hr
       rcases Bool.eq_false_or_eq_true (((g.Step.tmod 2) : Int) != 0) with hb7 | hb7
       ·replace hr := cd_t hb7 hr
        refine .r0 fine <| .mu 2 <| .p0 (v := aB false) (Eq.trans (b := some (.pure (aB (decide (g.Width < 2))))) (by kernel_rfl) (by rw [hb1])) <| .mu 3 <| .pure (v := aB false) (by kernel_rfl) (Eq.trans (b := some (.pure (aB (decide (g.Width > 64))))) (by kernel_rfl) (by rw [hb2])) <| .mu 4 <| .pure (v := aB false) (by kernel_rfl) (Eq.trans (b := some (.pure (aB (decide (g.Height < 2))))) (by kernel_rfl) (by rw [hb3])) <| .mu 4 <| .pure (v := aB false) (by kernel_rfl) (Eq.trans (b := some (.pure (aB (decide (g.Height > 64))))) (by kernel_rfl) (by rw [hb4])) <| .mu 4 <| .pure (v := aB false) (by kernel_rfl) (Eq.trans (b := some (.pure (aB (decide (g.Step < 2))))) (by kernel_rfl) (by rw [hb5])) <| .mu 4 <| .pure (v := aB false) (by kernel_rfl) (Eq.trans (b := some (.pure (aB (decide (g.Step > 65536))))) (by kernel_rfl) (by rw [hb6])) <| .mu 5 <| .pure (v := aB true) (by kernel_rfl) (Eq.trans (b := some (.pure (aB (((g.Step.tmod 2) : Int) != 0)))) (by kernel_rfl) (by rw [hb7])) <| .mu 11 <| .done <| .n2 72 [(1, .hp 0 0), (48, aB true)] [.own (api_Grid.c g)] <| .cT (by kernel_rfl) <| .seq <| .ru fine <| .ret ?_
        obtain rfl := Option.some.inj hr
        exact FinQ.r1 [aI64 2]
       ·replace hr := cd_f hb7 hr
        obtain ⟨v8, hc9, hr⟩ := bd hr
        rcases Bool.eq_false_or_eq_true v8 with hb10 | hb10
        ·subst hb10
         replace hr := cd_t rfl hr
         refine .g1 fine (ok0 (fiduciallaw51_out_ok n g.X0 true hc9)) <| .mu 2 <| .p0 (v := aB false) (Eq.trans (b := some (.pure (aB (decide (g.Width < 2))))) (by kernel_rfl) (by rw [hb1])) <| .mu 3 <| .pure (v := aB false) (by kernel_rfl) (Eq.trans (b := some (.pure (aB (decide (g.Width > 64))))) (by kernel_rfl) (by rw [hb2])) <| .mu 4 <| .pure (v := aB false) (by kernel_rfl) (Eq.trans (b := some (.pure (aB (decide (g.Height < 2))))) (by kernel_rfl) (by rw [hb3])) <| .mu 4 <| .pure (v := aB false) (by kernel_rfl) (Eq.trans (b := some (.pure (aB (decide (g.Height > 64))))) (by kernel_rfl) (by rw [hb4])) <| .mu 4 <| .pure (v := aB false) (by kernel_rfl) (Eq.trans (b := some (.pure (aB (decide (g.Step < 2))))) (by kernel_rfl) (by rw [hb5])) <| .mu 4 <| .pure (v := aB false) (by kernel_rfl) (Eq.trans (b := some (.pure (aB (decide (g.Step > 65536))))) (by kernel_rfl) (by rw [hb6])) <| .mu 5 <| .pure (v := aB false) (by kernel_rfl) (Eq.trans (b := some (.pure (aB (((g.Step.tmod 2) : Int) != 0)))) (by kernel_rfl) (by rw [hb7])) <| .mu 4 <| .ca cf0 <| .mu 6 <| .done <| .n2 72 [(1, .hp 0 0), (48, aB true)] [.own (api_Grid.c g)] <| .cT (by kernel_rfl) <| .seq <| .ru fine <| .ret ?_
         obtain rfl := Option.some.inj hr
         exact FinQ.r1 [aI64 2]
        ·subst hb10
         replace hr := cd_f rfl hr
         obtain ⟨v11, hc12, hr⟩ := bd hr
         refine .gn fine (ca1 (ok0 (fiduciallaw51_out_ok n g.X0 false hc9)) (ca3 (ok0 (fiduciallaw51_out_ok n g.Y0 v11 hc12)))) <| .mu 2 <| .p0 (v := aB false) (Eq.trans (b := some (.pure (aB (decide (g.Width < 2))))) (by kernel_rfl) (by rw [hb1])) <| .mu 3 <| .pure (v := aB false) (by kernel_rfl) (Eq.trans (b := some (.pure (aB (decide (g.Width > 64))))) (by kernel_rfl) (by rw [hb2])) <| .mu 4 <| .pure (v := aB false) (by kernel_rfl) (Eq.trans (b := some (.pure (aB (decide (g.Height < 2))))) (by kernel_rfl) (by rw [hb3])) <| .mu 4 <| .pure (v := aB false) (by kernel_rfl) (Eq.trans (b := some (.pure (aB (decide (g.Height > 64))))) (by kernel_rfl) (by rw [hb4])) <| .mu 4 <| .pure (v := aB false) (by kernel_rfl) (Eq.trans (b := some (.pure (aB (decide (g.Step < 2))))) (by kernel_rfl) (by rw [hb5])) <| .mu 4 <| .pure (v := aB false) (by kernel_rfl) (Eq.trans (b := some (.pure (aB (decide (g.Step > 65536))))) (by kernel_rfl) (by rw [hb6])) <| .mu 5 <| .pure (v := aB false) (by kernel_rfl) (Eq.trans (b := some (.pure (aB (((g.Step.tmod 2) : Int) != 0)))) (by kernel_rfl) (by rw [hb7])) <| .mu 4 <| .ca cf0 <| .mu 4 <| .ca (cfA (fun h => by rw [sv hc12 hc9 (fiduciallaw51_out_cg n h)]) cf0) <| .mu 1 <| .done <| .n2 72 [(1, .hp 0 0), (48, aB v11)] [.own (api_Grid.c g)] ?_
         refine .cd hr (fun hb13 hr => ?_) (fun hb13 hr => ?_)
         ·refine .seq <| .ru fine <| .ret ?_
          obtain rfl := Option.some.inj hr
          exact FinQ.r1 [aI64 2]
         ·refine .skip <| .seq <| .seq <| .r3 fine 72 [(1, .hp 0 0), (57, aB (((g.Z.length : Int) : Int) != (wrapF .i64 (g.Width * g.Height))))] ?_
          refine .cd hr (fun hb14 hr => ?_) (fun hb14 hr => ?_)
          ·refine .seq <| .ru fine <| .ret ?_
           obtain rfl := Option.some.inj hr
           exact FinQ.r1 [aI64 4]
          ·refine .skip <| .seq <| .seq <| .r3 fine 72 [(59, sI64 g.Z), (60, aI64 (g.Z.length : Int)), (61, aI64 0)] <| .block ?_
           replace hr := bd hr; obtain ⟨o29, hL30, hr⟩ := hr
           refine .loopO (σ := fun z0 => match z0 with | x_15 => ⟨mkS 72 0 [(59, sI64 g.Z), (60, aI64 (g.Z.length : Int)), (61, aI64 x_15)], []⟩) (Q := fun x st' => match (generalizing := false) o29 with | .inl _ => x = .exit 0 ∧ Wk 0 st' ⟨mkS 72 0 [], []⟩ | .inr (r0) => x = .ret ∧ FinQ Tryz.prog [.tmp 2] (aI64 r0) .ret st') hL30 ((Wk.gc [59, 60, 61] [] rfl pK0).to (by kernel_rfl)) ?_ ?_
           ·clear hr
            rintro m x_15 hr
            show CQ _ _ _ _ _ ⟨_, _⟩
            refine .seq <| .r3 fine 72 [(59, sI64 g.Z), (60, aI64 (g.Z.length : Int)), (61, aI64 x_15), (62, aB (decide (x_15 < (g.Z.length : Int))))] <| .seq ?_
            refine .cd hr (fun hb23 hr => ?_) (fun hb23 hr => ?_)
            ·refine .skip <| .seq <| .block <| .seq ?_
             obtain ⟨hg24, hr⟩ := gd hr
             refine .r0 fine <| .p0 (v := .pp (g.Z.flatMap (iC .i64)) (x_15.toNat * 1)) (Eq.trans (b := ORes.ofP (guardV (inR x_15 g.Z.length) (.pp (g.Z.flatMap (iC .i64)) (x_15.toNat * 1)))) (by kernel_rfl) (ofP_guard hg24)) <| .p0 (v := aI64 (gt g.Z x_15)) (Eq.trans (b := ORes.ofP ((g.Z.flatMap (iC .i64))[x_15.toNat * 1]?)) (by kernel_rfl) (ofP_some (flat_get (iC_len _) (inR_lt hg24) (by decide : 0 < 1) (by omega : x_15.toNat * 1 = x_15.toNat * 1 + 0) (by kernel_rfl)))) <| .mu 1 <| .done <| .n2 72 [(4, aI64 (gt g.Z x_15)), (59, sI64 g.Z), (60, aI64 (g.Z.length : Int)), (61, aI64 x_15)] [] <| .seq ?_
             rcases Bool.eq_false_or_eq_true (((gt g.Z x_15) : Int) != (-2147483648)) with hb25 | hb25
             ·replace hr := cd_t hb25 hr
              obtain ⟨v26, hc27, hr⟩ := bd hr
              refine .g1 fine (ok0 (fiduciallaw51_out_ok n (gt g.Z x_15) v26 hc27)) <| .mu 1 <| .p0 (v := aB true) (Eq.trans (b := some (.pure (aB (((gt g.Z x_15) : Int) != (-2147483648))))) (by kernel_rfl) (by rw [hb25])) <| .mu 2 <| .ca cf0 <| .mu 1 <| .done <| .n2 72 [(59, sI64 g.Z), (60, aI64 (g.Z.length : Int)), (61, aI64 x_15), (70, aB v26)] [] ?_
              refine .cd hr (fun hb28 hr => ?_) (fun hb28 hr => ?_)
              ·refine .seq <| .ru fine <| .ret ?_
               obtain rfl := Option.some.inj hr
               exact ⟨rfl, FinQ.ret (vs := [aI64 2]) (by kernel_rfl) (Sn.pure rfl)⟩
              ·refine .skip <| .pop <| .ru fine ?_
               exact loopF_back (wrapF .i64 (x_15 + 1)) hr ((Wk.gc [59, 60, 61] [] rfl pK0).to (by kernel_rfl))
             ·replace hr := cd_f hb25 hr
              refine .r0 fine <| .mu 1 <| .p0 (v := aB false) (Eq.trans (b := some (.pure (aB (((gt g.Z x_15) : Int) != (-2147483648))))) (by kernel_rfl) (by rw [hb25])) <| .mu 4 <| .done <| .n2 72 [(59, sI64 g.Z), (60, aI64 (g.Z.length : Int)), (61, aI64 x_15), (70, aB false)] [] <| .cF (by kernel_rfl) <| .skip <| .pop <| .ru fine ?_
              exact loopF_back (wrapF .i64 (x_15 + 1)) hr ((Wk.gc [59, 60, 61] [] rfl pK0).to (by kernel_rfl))
            ·refine .leave rfl ?_
             obtain rfl := Option.some.inj hr
             exact ⟨rfl, ((Wk.gc [] [] rfl pK0).to (by kernel_rfl))⟩
           ·rcases o29 with ⟨⟩ | r0
            ·rintro x st' hq31
             clear hL30
             obtain ⟨rfl, hq31⟩ := hq31
             refine CQ_exit _ rfl <| .wk hq31 <| .seq <| .ru fine <| .ret ?_
             obtain rfl := Option.some.inj hr
             exact FinQ.r1 [aI64 0]
            ·rintro x st' hq31
             clear hL30
             obtain ⟨rfl, hq31⟩ := hq31
             obtain rfl := Option.some.inj hr
             exact CQ_ret _ hq31

theorem fiduciallaw51_Checked_ok (n : Nat) (g : api_Grid) (r : Int) (hr : fiduciallaw51_Checked n g = some r) : FnOk Tryz.prog 97 [.agg (api_Grid.c g)] (aI64 r) := by
 unfold fiduciallaw51_Checked at hr
 refine FnOk.bd fine Tryz.func97 [.tmp 2] ?_
 unfold Tryz.f97
 simp only [Option.getD_some]
 refine .seq <| .r2 fine 5 [(1, .hp 0 0)] [.own (api_Grid.c g)] <| .seq ?_
 obtain ⟨v1, hc2, hr⟩ := bd hr
 refine .g1 fine (ok0 (fiduciallaw51_check_ok n g v1 hc2)) <| .mu 1 <| .ca cf0 <| .mu 1 <| .done <| .ret ?_
 obtain rfl := Option.some.inj hr
 exact FinQ.r1 [aI64 v1]

theorem fiduciallaw59_check_ok (n : Nat) (b : api_Banded) (r : Int) (hr : fiduciallaw59_check n b = some r) : FnOk Tryz.prog 49 [.agg (api_Banded.c b)] (aI64 r) := by
 unfold fiduciallaw59_check at hr
 refine FnOk.bd fine Tryz.func49 [.tmp 2] ?_
 unfold Tryz.f49
 simp only [Option.getD_some]
 refine .seq <| .r2 fine 34 [(1, .hp 0 0)] [.own (api_Banded.c b)] <| .seq <| .seq ?_
 obtain ⟨v1, hc2, hr⟩ := bd hr
 refine .g1 fine (ok0 (fiduciallaw51_Checked_ok n b.Grid v1 hc2)) <| .mu 2 <| .ca cf0 <| .mu 1 <| .done <| .n2 34 [(1, .hp 0 0), (3, aI64 v1)] [.own (api_Banded.c b)] <| .seq <| .r3 fine 34 [(1, .hp 0 0), (3, aI64 v1), (10, aB ((v1 : Int) != 0))] ?_
 refine .cd hr (fun hb3 hr => ?_) (fun hb3 hr => ?_)
 ·refine .seq <| .ru fine <| .ret ?_
  obtain rfl := Option.some.inj hr
  exact FinQ.r1 [aI64 v1]
 ·refine .skip <| .seq <| .seq <| .r3 fine 34 [(1, .hp 0 0), (19, aB (((b.Err.length : Int) : Int) != (b.Grid.Z.length : Int)))] ?_
  refine .cd hr (fun hb4 hr => ?_) (fun hb4 hr => ?_)
  ·refine .seq <| .ru fine <| .ret ?_
   obtain rfl := Option.some.inj hr
   exact FinQ.r1 [aI64 4]
  ·refine .skip <| .seq <| .seq <| .r3 fine 34 [(21, sI64 b.Err), (22, aI64 (b.Err.length : Int)), (23, aI64 0)] <| .block ?_
   replace hr := bd hr; obtain ⟨o15, hL16, hr⟩ := hr
   refine .loopO (σ := fun z0 => match z0 with | x_5 => ⟨mkS 34 0 [(21, sI64 b.Err), (22, aI64 (b.Err.length : Int)), (23, aI64 x_5)], []⟩) (Q := fun x st' => match (generalizing := false) o15 with | .inl _ => x = .exit 0 ∧ Wk 0 st' ⟨mkS 34 0 [], []⟩ | .inr (r0) => x = .ret ∧ FinQ Tryz.prog [.tmp 2] (aI64 r0) .ret st') hL16 ((Wk.gc [21, 22, 23] [] rfl pK0).to (by kernel_rfl)) ?_ ?_
   ·clear hr
    rintro m x_5 hr
    show CQ _ _ _ _ _ ⟨_, _⟩
    refine .seq <| .r3 fine 34 [(21, sI64 b.Err), (22, aI64 (b.Err.length : Int)), (23, aI64 x_5), (24, aB (decide (x_5 < (b.Err.length : Int))))] <| .seq ?_
    refine .cd hr (fun hb11 hr => ?_) (fun hb11 hr => ?_)
    ·refine .skip <| .seq <| .block <| .seq ?_
     obtain ⟨hg12, hr⟩ := gd hr
     refine .r0 fine <| .p0 (v := .pp (b.Err.flatMap (iC .i64)) (x_5.toNat * 1)) (Eq.trans (b := ORes.ofP (guardV (inR x_5 b.Err.length) (.pp (b.Err.flatMap (iC .i64)) (x_5.toNat * 1)))) (by kernel_rfl) (ofP_guard hg12)) <| .p0 (v := aI64 (gt b.Err x_5)) (Eq.trans (b := ORes.ofP ((b.Err.flatMap (iC .i64))[x_5.toNat * 1]?)) (by kernel_rfl) (ofP_some (flat_get (iC_len _) (inR_lt hg12) (by decide : 0 < 1) (by omega : x_5.toNat * 1 = x_5.toNat * 1 + 0) (by kernel_rfl)))) <| .mu 1 <| .done <| .n2 34 [(5, aI64 (gt b.Err x_5)), (21, sI64 b.Err), (22, aI64 (b.Err.length : Int)), (23, aI64 x_5)] [] <| .seq ?_
     rcases Bool.eq_false_or_eq_true (decide ((gt b.Err x_5) < 0)) with hb13 | hb13
     ·replace hr := cd_t hb13 hr
      refine .r0 fine <| .mu 1 <| .p0 (v := aB true) (Eq.trans (b := some (.pure (aB (decide ((gt b.Err x_5) < 0))))) (by kernel_rfl) (by rw [hb13])) <| .mu 4 <| .done <| .n2 34 [(21, sI64 b.Err), (22, aI64 (b.Err.length : Int)), (23, aI64 x_5), (32, aB true)] [] <| .cT (by kernel_rfl) <| .seq <| .ru fine <| .ret ?_
      obtain rfl := Option.some.inj hr
      exact ⟨rfl, FinQ.ret (vs := [aI64 2]) (by kernel_rfl) (Sn.pure rfl)⟩
     ·replace hr := cd_f hb13 hr
      refine .r0 fine <| .mu 1 <| .p0 (v := aB false) (Eq.trans (b := some (.pure (aB (decide ((gt b.Err x_5) < 0))))) (by kernel_rfl) (by rw [hb13])) <| .mu 4 <| .done <| .n2 34 [(21, sI64 b.Err), (22, aI64 (b.Err.length : Int)), (23, aI64 x_5), (32, aB (decide ((gt b.Err x_5) > 1048576)))] [] ?_
      refine .cd hr (fun hb14 hr => ?_) (fun hb14 hr => ?_)
      ·refine .seq <| .ru fine <| .ret ?_
       obtain rfl := Option.some.inj hr
       exact ⟨rfl, FinQ.ret (vs := [aI64 2]) (by kernel_rfl) (Sn.pure rfl)⟩
      ·refine .skip <| .pop <| .ru fine ?_
       exact loopF_back (wrapF .i64 (x_5 + 1)) hr ((Wk.gc [21, 22, 23] [] rfl pK0).to (by kernel_rfl))
    ·refine .leave rfl ?_
     obtain rfl := Option.some.inj hr
     exact ⟨rfl, ((Wk.gc [] [] rfl pK0).to (by kernel_rfl))⟩
   ·rcases o15 with ⟨⟩ | r0
    ·rintro x st' hq17
     clear hL16
     obtain ⟨rfl, hq17⟩ := hq17
     refine CQ_exit _ rfl <| .wk hq17 <| .seq <| .ru fine <| .ret ?_
     obtain rfl := Option.some.inj hr
     exact FinQ.r1 [aI64 0]
    ·rintro x st' hq17
     clear hL16
     obtain ⟨rfl, hq17⟩ := hq17
     obtain rfl := Option.some.inj hr
     exact CQ_ret _ hq17

theorem fiduciallaw59_fits_ok (n : Nat) (l : List api_Banded) (r : Int) (hr : fiduciallaw59_fits n l = some r) : FnOk Tryz.prog 10 [slT api_Banded.c l] (aI64 r) := by
 unfold fiduciallaw59_fits at hr
 refine FnOk.bd fine Tryz.func10 [.tmp 2] ?_
 unfold Tryz.f10
 simp only [Option.getD_some]
 refine .seq <| .r3 fine 68 [(0, slT api_Banded.c l)] <| .seq <| .seq <| .r3 fine 68 [(0, slT api_Banded.c l), (10, slT api_Banded.c l), (11, aI64 (l.length : Int)), (12, aI64 0)] <| .block ?_
 replace hr := bd hr; obtain ⟨o13, hL14, hr⟩ := hr
 refine .loopO (σ := fun z0 => match z0 with | x_1 => ⟨mkS 68 0 [(0, slT api_Banded.c l), (10, slT api_Banded.c l), (11, aI64 (l.length : Int)), (12, aI64 x_1)], []⟩) (Q := fun x st' => match (generalizing := false) o13 with | .inl _ => x = .exit 0 ∧ Wk 0 st' ⟨mkS 68 0 [(0, slT api_Banded.c l)], []⟩ | .inr (r0) => x = .ret ∧ FinQ Tryz.prog [.tmp 2] (aI64 r0) .ret st') hL14 ((Wk.gc [0, 10, 11, 12] [] rfl pK0).to (by kernel_rfl)) ?_ ?_
 ·clear hr
  rintro m x_1 hr
  show CQ _ _ _ _ _ ⟨_, _⟩
  refine .seq <| .r3 fine 68 [(0, slT api_Banded.c l), (10, slT api_Banded.c l), (11, aI64 (l.length : Int)), (12, aI64 x_1), (13, aB (decide (x_1 < (l.length : Int))))] <| .seq ?_
  refine .cd hr (fun hb8 hr => ?_) (fun hb8 hr => ?_)
  ·refine .skip <| .seq <| .block <| .seq ?_
   obtain ⟨hg9, hr⟩ := gd hr
   refine .r0 fine <| .p0 (v := .pp (l.flatMap api_Banded.c) (x_1.toNat * 7)) (Eq.trans (b := ORes.ofP (guardV (inR x_1 l.length) (.pp (l.flatMap api_Banded.c) (x_1.toNat * 7)))) (by kernel_rfl) (ofP_guard hg9)) <| .p0 (v := .agg (api_Banded.c (gt l x_1))) (Eq.trans (b := ORes.ofP (guardV (decide (7 ≤ ((l.flatMap api_Banded.c).drop (x_1.toNat * 7)).length)) (.agg (((l.flatMap api_Banded.c).drop (x_1.toNat * 7)).take 7)))) (by kernel_rfl) (flat_load api_Banded.len (inR_lt hg9) (by decide) (by omega : x_1.toNat * 7 = x_1.toNat * 7 + 0) (by kernel_rfl))) <| .mu 2 <| .done <| .n2 68 [(0, slT api_Banded.c l), (4, .hp 0 0), (10, slT api_Banded.c l), (11, aI64 (l.length : Int)), (12, aI64 x_1)] [.own (api_Banded.c (gt l x_1))] <| .seq ?_
   obtain ⟨v10, hc11, hr⟩ := bd hr
   refine .g1 fine (ok0 (fiduciallaw59_check_ok n (gt l x_1) v10 hc11)) <| .mu 1 <| .ca cf0 <| .mu 1 <| .done <| .n2 68 [(0, slT api_Banded.c l), (5, aI64 v10), (10, slT api_Banded.c l), (11, aI64 (l.length : Int)), (12, aI64 x_1)] [.own (api_Banded.c (gt l x_1))] <| .seq <| .r3 fine 68 [(0, slT api_Banded.c l), (5, aI64 v10), (10, slT api_Banded.c l), (11, aI64 (l.length : Int)), (12, aI64 x_1), (19, aB ((v10 : Int) != 0))] ?_
   refine .cd hr (fun hb12 hr => ?_) (fun hb12 hr => ?_)
   ·refine .seq <| .ru fine <| .ret ?_
    obtain rfl := Option.some.inj hr
    exact ⟨rfl, FinQ.ret (vs := [aI64 v10]) (by kernel_rfl) (Sn.pure rfl)⟩
   ·refine .skip <| .pop <| .ru fine ?_
    exact loopF_back (wrapF .i64 (x_1 + 1)) hr ((Wk.gc [0, 10, 11, 12] [] rfl pK0).to (by kernel_rfl))
  ·refine .leave rfl ?_
   obtain rfl := Option.some.inj hr
   exact ⟨rfl, ((Wk.gc [0] [] rfl pK0).to (by kernel_rfl))⟩
 ·rcases o13 with ⟨⟩ | r0
  ·rintro x st' hq15
   clear hL14
   obtain ⟨rfl, hq15⟩ := hq15
   refine CQ_exit _ rfl <| .wk hq15 <| .seq <| .seq <| .r3 fine 68 [(0, slT api_Banded.c l), (22, slT api_Banded.c l), (23, aI64 (l.length : Int)), (24, aI64 0)] <| .block ?_
   replace hr := bd hr; obtain ⟨o34, hL35, hr⟩ := hr
   refine .loopO (σ := fun z0 => match z0 with | x_16 => ⟨mkS 68 0 [(0, slT api_Banded.c l), (22, slT api_Banded.c l), (23, aI64 (l.length : Int)), (24, aI64 x_16)], []⟩) (Q := fun x st' => match (generalizing := false) o34 with | .inl _ => x = .exit 2 ∧ Wk 0 st' ⟨mkS 68 0 [], []⟩ | .inr (r0) => x = .ret ∧ FinQ Tryz.prog [.tmp 2] (aI64 r0) .ret st') hL35 ((Wk.gc [0, 22, 23, 24] [] rfl pK0).to (by kernel_rfl)) ?_ ?_
   ·clear hr
    rintro m x_16 hr
    show CQ _ _ _ _ _ ⟨_, _⟩
    refine .seq <| .r3 fine 68 [(0, slT api_Banded.c l), (22, slT api_Banded.c l), (23, aI64 (l.length : Int)), (24, aI64 x_16), (25, aB (decide (x_16 < (l.length : Int))))] <| .seq ?_
    refine .cd hr (fun hb26 hr => ?_) (fun hb26 hr => ?_)
    ·refine .skip <| .seq <| .block <| .seq ?_
     obtain ⟨hg27, hr⟩ := gd hr
     refine .r0 fine <| .p0 (v := .pp (l.flatMap api_Banded.c) (x_16.toNat * 7)) (Eq.trans (b := ORes.ofP (guardV (inR x_16 l.length) (.pp (l.flatMap api_Banded.c) (x_16.toNat * 7)))) (by kernel_rfl) (ofP_guard hg27)) <| .p0 (v := .agg (api_Banded.c (gt l x_16))) (Eq.trans (b := ORes.ofP (guardV (decide (7 ≤ ((l.flatMap api_Banded.c).drop (x_16.toNat * 7)).length)) (.agg (((l.flatMap api_Banded.c).drop (x_16.toNat * 7)).take 7)))) (by kernel_rfl) (flat_load api_Banded.len (inR_lt hg27) (by decide) (by omega : x_16.toNat * 7 = x_16.toNat * 7 + 0) (by kernel_rfl))) <| .mu 2 <| .done <| .n2 68 [(0, slT api_Banded.c l), (7, .hp 0 0), (22, slT api_Banded.c l), (23, aI64 (l.length : Int)), (24, aI64 x_16)] [.own (api_Banded.c (gt l x_16))] <| .seq ?_
     obtain ⟨hg28, hr⟩ := gd hr
     refine .regionT fine callOf_nil <| .mu 1 <| .pure (v := .pp (l.flatMap api_Banded.c) ((0 : Int).toNat * 7)) (by kernel_rfl) (Eq.trans (b := ORes.ofP (guardV (inR 0 l.length) (.pp (l.flatMap api_Banded.c) ((0 : Int).toNat * 7)))) (by kernel_rfl) (ofP_guard hg28)) (by kernel_rfl) <| .mu 1 <| .pure (v := .agg (api_Grid.c (gt l 0).Grid)) (by kernel_rfl) (Eq.trans (b := ORes.ofP (guardV (decide (6 ≤ ((l.flatMap api_Banded.c).drop ((0 : Int).toNat * 7 + 0)).length)) (.agg (((l.flatMap api_Banded.c).drop ((0 : Int).toNat * 7 + 0)).take 6)))) (by kernel_rfl) (flat_load api_Banded.len (inR_lt hg28) (by decide) (by omega : (0 : Int).toNat * 7 + 0 = (0 : Int).toNat * 7 + 0) (by kernel_rfl))) (by kernel_rfl) <| .mu 6 ?_
     refine .done ⟨by kernel_rfl, ?_⟩
     refine .n2 68 [(0, slT api_Banded.c l), (8, .hp 1 0), (9, .hp 2 0), (22, slT api_Banded.c l), (23, aI64 (l.length : Int)), (24, aI64 x_16)] [.own (api_Banded.c (gt l x_16)), .own (api_Grid.c (gt l 0).Grid), .own (api_Grid.c (gt l x_16).Grid)] <| .seq ?_
     rcases Bool.eq_false_or_eq_true (((gt l 0).Grid.X0 : Int) != (gt l x_16).Grid.X0) with hb29 | hb29
     ·replace hr := cd_t hb29 hr
      refine .r0 fine <| .mu 4 <| .p0 (v := aB true) (Eq.trans (b := some (.pure (aB (((gt l 0).Grid.X0 : Int) != (gt l x_16).Grid.X0)))) (by kernel_rfl) (by rw [hb29])) <| .mu 28 <| .done <| .n2 68 [(0, slT api_Banded.c l), (22, slT api_Banded.c l), (23, aI64 (l.length : Int)), (24, aI64 x_16), (66, aB true)] [.own (api_Banded.c (gt l x_16)), .own (api_Grid.c (gt l 0).Grid), .own (api_Grid.c (gt l x_16).Grid)] <| .cT (by kernel_rfl) <| .seq <| .ru fine <| .ret ?_
      obtain rfl := Option.some.inj hr
      exact ⟨rfl, FinQ.ret (vs := [aI64 4]) (by kernel_rfl) (Sn.pure rfl)⟩
     ·replace hr := cd_f hb29 hr
      rcases Bool.eq_false_or_eq_true (((gt l 0).Grid.Y0 : Int) != (gt l x_16).Grid.Y0) with hb30 | hb30
      ·replace hr := cd_t hb30 hr
       refine .r0 fine <| .mu 4 <| .p0 (v := aB false) (Eq.trans (b := some (.pure (aB (((gt l 0).Grid.X0 : Int) != (gt l x_16).Grid.X0)))) (by kernel_rfl) (by rw [hb29])) <| .mu 5 <| .pure (v := aB true) (by kernel_rfl) (Eq.trans (b := some (.pure (aB (((gt l 0).Grid.Y0 : Int) != (gt l x_16).Grid.Y0)))) (by kernel_rfl) (by rw [hb30])) <| .mu 22 <| .done <| .n2 68 [(0, slT api_Banded.c l), (22, slT api_Banded.c l), (23, aI64 (l.length : Int)), (24, aI64 x_16), (66, aB true)] [.own (api_Banded.c (gt l x_16)), .own (api_Grid.c (gt l 0).Grid), .own (api_Grid.c (gt l x_16).Grid)] <| .cT (by kernel_rfl) <| .seq <| .ru fine <| .ret ?_
       obtain rfl := Option.some.inj hr
       exact ⟨rfl, FinQ.ret (vs := [aI64 4]) (by kernel_rfl) (Sn.pure rfl)⟩
      ·replace hr := cd_f hb30 hr
       rcases Bool.eq_false_or_eq_true (((gt l 0).Grid.Step : Int) != (gt l x_16).Grid.Step) with hb31 | hb31
       ·replace hr := cd_t hb31 hr
        refine .r0 fine <| .mu 4 <| .p0 (v := aB false) (Eq.trans (b := some (.pure (aB (((gt l 0).Grid.X0 : Int) != (gt l x_16).Grid.X0)))) (by kernel_rfl) (by rw [hb29])) <| .mu 5 <| .pure (v := aB false) (by kernel_rfl) (Eq.trans (b := some (.pure (aB (((gt l 0).Grid.Y0 : Int) != (gt l x_16).Grid.Y0)))) (by kernel_rfl) (by rw [hb30])) <| .mu 6 <| .pure (v := aB true) (by kernel_rfl) (Eq.trans (b := some (.pure (aB (((gt l 0).Grid.Step : Int) != (gt l x_16).Grid.Step)))) (by kernel_rfl) (by rw [hb31])) <| .mu 15 <| .done <| .n2 68 [(0, slT api_Banded.c l), (22, slT api_Banded.c l), (23, aI64 (l.length : Int)), (24, aI64 x_16), (66, aB true)] [.own (api_Banded.c (gt l x_16)), .own (api_Grid.c (gt l 0).Grid), .own (api_Grid.c (gt l x_16).Grid)] <| .cT (by kernel_rfl) <| .seq <| .ru fine <| .ret ?_
        obtain rfl := Option.some.inj hr
        exact ⟨rfl, FinQ.ret (vs := [aI64 4]) (by kernel_rfl) (Sn.pure rfl)⟩
       ·replace hr := cd_f hb31 hr
        rcases Bool.eq_false_or_eq_true (((gt l 0).Grid.Width : Int) != (gt l x_16).Grid.Width) with hb32 | hb32
        ·replace hr := cd_t hb32 hr
         refine .r0 fine <| .mu 4 <| .p0 (v := aB false) (Eq.trans (b := some (.pure (aB (((gt l 0).Grid.X0 : Int) != (gt l x_16).Grid.X0)))) (by kernel_rfl) (by rw [hb29])) <| .mu 5 <| .pure (v := aB false) (by kernel_rfl) (Eq.trans (b := some (.pure (aB (((gt l 0).Grid.Y0 : Int) != (gt l x_16).Grid.Y0)))) (by kernel_rfl) (by rw [hb30])) <| .mu 6 <| .pure (v := aB false) (by kernel_rfl) (Eq.trans (b := some (.pure (aB (((gt l 0).Grid.Step : Int) != (gt l x_16).Grid.Step)))) (by kernel_rfl) (by rw [hb31])) <| .mu 6 <| .pure (v := aB true) (by kernel_rfl) (Eq.trans (b := some (.pure (aB (((gt l 0).Grid.Width : Int) != (gt l x_16).Grid.Width)))) (by kernel_rfl) (by rw [hb32])) <| .mu 8 <| .done <| .n2 68 [(0, slT api_Banded.c l), (22, slT api_Banded.c l), (23, aI64 (l.length : Int)), (24, aI64 x_16), (66, aB true)] [.own (api_Banded.c (gt l x_16)), .own (api_Grid.c (gt l 0).Grid), .own (api_Grid.c (gt l x_16).Grid)] <| .cT (by kernel_rfl) <| .seq <| .ru fine <| .ret ?_
         obtain rfl := Option.some.inj hr
         exact ⟨rfl, FinQ.ret (vs := [aI64 4]) (by kernel_rfl) (Sn.pure rfl)⟩
        ·replace hr := cd_f hb32 hr
         refine .r0 fine <| .mu 4 <| .p0 (v := aB false) (Eq.trans (b := some (.pure (aB (((gt l 0).Grid.X0 : Int) != (gt l x_16).Grid.X0)))) (by kernel_rfl) (by rw [hb29])) <| .mu 5 <| .pure (v := aB false) (by kernel_rfl) (Eq.trans (b := some (.pure (aB (((gt l 0).Grid.Y0 : Int) != (gt l x_16).Grid.Y0)))) (by kernel_rfl) (by rw [hb30])) <| .mu 6 <| .pure (v := aB false) (by kernel_rfl) (Eq.trans (b := some (.pure (aB (((gt l 0).Grid.Step : Int) != (gt l x_16).Grid.Step)))) (by kernel_rfl) (by rw [hb31])) <| .mu 6 <| .pure (v := aB false) (by kernel_rfl) (Eq.trans (b := some (.pure (aB (((gt l 0).Grid.Width : Int) != (gt l x_16).Grid.Width)))) (by kernel_rfl) (by rw [hb32])) <| .mu 8 <| .done <| .n2 68 [(0, slT api_Banded.c l), (22, slT api_Banded.c l), (23, aI64 (l.length : Int)), (24, aI64 x_16), (66, aB (((gt l 0).Grid.Height : Int) != (gt l x_16).Grid.Height))] [.own (api_Banded.c (gt l x_16)), .own (api_Grid.c (gt l 0).Grid), .own (api_Grid.c (gt l x_16).Grid)] ?_
         refine .cd hr (fun hb33 hr => ?_) (fun hb33 hr => ?_)
         ·refine .seq <| .ru fine <| .ret ?_
          obtain rfl := Option.some.inj hr
          exact ⟨rfl, FinQ.ret (vs := [aI64 4]) (by kernel_rfl) (Sn.pure rfl)⟩
         ·refine .skip <| .pop <| .ru fine ?_
          exact loopF_back (wrapF .i64 (x_16 + 1)) hr ((Wk.gc [0, 22, 23, 24] [] rfl pK0).to (by kernel_rfl))
    ·refine .leave rfl ?_
     obtain rfl := Option.some.inj hr
     exact ⟨rfl, ((Wk.gc [] [] rfl pK0).to (by kernel_rfl))⟩
   ·rcases o34 with ⟨⟩ | r0
    ·rintro x st' hq36
     clear hL35
     obtain ⟨rfl, hq36⟩ := hq36
     refine CQ_exit _ rfl <| .wk hq36 <| .seq <| .ru fine <| .ret ?_
     obtain rfl := Option.some.inj hr
     exact FinQ.r1 [aI64 0]
    ·rintro x st' hq36
     clear hL35
     obtain ⟨rfl, hq36⟩ := hq36
     obtain rfl := Option.some.inj hr
     exact CQ_ret _ hq36
  ·rintro x st' hq15
   clear hL14
   obtain ⟨rfl, hq15⟩ := hq15
   obtain rfl := Option.some.inj hr
   exact CQ_ret _ hq15

theorem fiduciallaw59_both_ok (n : Nat) (a : api_Banded) (b : api_Banded) (k : Int) (r : Int × Int × Bool) (hr : fiduciallaw59_both n a b k = some r) : FnOk Tryz.prog 50 [.agg (api_Banded.c a), .agg (api_Banded.c b), aI64 k] (.tup [aI64 r.1, aI64 r.2.1, aB r.2.2]) := by
 unfold fiduciallaw59_both at hr
 refine FnOk.bd fine Tryz.func50 [.tmp 6, .tmp 7, .tmp 8] ?_
 unfold Tryz.f50
 simp only [Option.getD_some]
 refine .seq <| .r2 fine 43 [(2, aI64 k), (3, .hp 0 0), (4, .hp 1 0)] [.own (api_Banded.c a), .own (api_Banded.c b)] <| .seq ?_
 obtain ⟨hg1, hg2, hr⟩ := gd2 hr
 refine .regionT fine callOf_nil <| .mu 4 <| .pure (v := .pp (a.Grid.Z.flatMap (iC .i64)) (k.toNat * 1)) (by kernel_rfl) (Eq.trans (b := ORes.ofP (guardV (inR k a.Grid.Z.length) (.pp (a.Grid.Z.flatMap (iC .i64)) (k.toNat * 1)))) (by kernel_rfl) (ofP_guard hg1)) (by kernel_rfl) <| .pure (v := aI64 (gt a.Grid.Z k)) (by kernel_rfl) (Eq.trans (b := ORes.ofP ((a.Grid.Z.flatMap (iC .i64))[k.toNat * 1]?)) (by kernel_rfl) (ofP_some (flat_get (iC_len _) (inR_lt hg1) (by decide : 0 < 1) (by omega : k.toNat * 1 = k.toNat * 1 + 0) (by kernel_rfl)))) (by kernel_rfl) <| .mu 4 <| .pure (v := .pp (b.Grid.Z.flatMap (iC .i64)) (k.toNat * 1)) (by kernel_rfl) (Eq.trans (b := ORes.ofP (guardV (inR k b.Grid.Z.length) (.pp (b.Grid.Z.flatMap (iC .i64)) (k.toNat * 1)))) (by kernel_rfl) (ofP_guard hg2)) (by kernel_rfl) <| .pure (v := aI64 (gt b.Grid.Z k)) (by kernel_rfl) (Eq.trans (b := ORes.ofP ((b.Grid.Z.flatMap (iC .i64))[k.toNat * 1]?)) (by kernel_rfl) (ofP_some (flat_get (iC_len _) (inR_lt hg2) (by decide : 0 < 1) (by omega : k.toNat * 1 = k.toNat * 1 + 0) (by kernel_rfl)))) (by kernel_rfl) <| .mu 2 ?_
 refine .done ⟨by kernel_rfl, ?_⟩
 refine .n2 43 [(2, aI64 k), (3, .hp 0 0), (4, .hp 1 0), (9, aI64 (gt a.Grid.Z k)), (10, aI64 (gt b.Grid.Z k))] [.own (api_Banded.c a), .own (api_Banded.c b)] <| .seq ?_
 obtain ⟨hg3, hg4, hr⟩ := gd2 hr
 rcases Bool.eq_false_or_eq_true (((gt a.Grid.Z k) : Int) != (-2147483648)) with hb5 | hb5
 ·replace hr := cd_t hb5 hr
  refine .regionT fine callOf_nil <| .mu 6 <| .pure (v := .pp (a.Err.flatMap (iC .i64)) (k.toNat * 1)) (by kernel_rfl) (Eq.trans (b := ORes.ofP (guardV (inR k a.Err.length) (.pp (a.Err.flatMap (iC .i64)) (k.toNat * 1)))) (by kernel_rfl) (ofP_guard hg3)) (by kernel_rfl) <| .pure (v := aI64 (gt a.Err k)) (by kernel_rfl) (Eq.trans (b := ORes.ofP ((a.Err.flatMap (iC .i64))[k.toNat * 1]?)) (by kernel_rfl) (ofP_some (flat_get (iC_len _) (inR_lt hg3) (by decide : 0 < 1) (by omega : k.toNat * 1 = k.toNat * 1 + 0) (by kernel_rfl)))) (by kernel_rfl) <| .mu 3 <| .pure (v := .pp (b.Err.flatMap (iC .i64)) (k.toNat * 1)) (by kernel_rfl) (Eq.trans (b := ORes.ofP (guardV (inR k b.Err.length) (.pp (b.Err.flatMap (iC .i64)) (k.toNat * 1)))) (by kernel_rfl) (ofP_guard hg4)) (by kernel_rfl) <| .pure (v := aI64 (gt b.Err k)) (by kernel_rfl) (Eq.trans (b := ORes.ofP ((b.Err.flatMap (iC .i64))[k.toNat * 1]?)) (by kernel_rfl) (ofP_some (flat_get (iC_len _) (inR_lt hg4) (by decide : 0 < 1) (by omega : k.toNat * 1 = k.toNat * 1 + 0) (by kernel_rfl)))) (by kernel_rfl) <| .mu 2 <| .pure (v := aB true) (by kernel_rfl) (Eq.trans (b := some (.pure (aB (((gt a.Grid.Z k) : Int) != (-2147483648))))) (by kernel_rfl) (by rw [hb5])) (by kernel_rfl) <| .mu 7 ?_
  refine .done ⟨by kernel_rfl, ?_⟩
  refine .ret ?_
  obtain rfl := Option.some.inj hr
  exact FinQ.ret (vs := [aI64 (wrapF .i64 ((gt b.Grid.Z k) - (gt a.Grid.Z k))), aI64 (wrapF .i64 ((gt a.Err k) + (gt b.Err k))), aB (((gt b.Grid.Z k) : Int) != (-2147483648))]) (by kernel_rfl) (Sn.tup (SnL.cons (Sn.pure rfl) (SnL.cons (Sn.pure rfl) (SnL.cons (Sn.pure rfl) SnL.nil))))
 ·replace hr := cd_f hb5 hr
  refine .regionT fine callOf_nil <| .mu 6 <| .pure (v := .pp (a.Err.flatMap (iC .i64)) (k.toNat * 1)) (by kernel_rfl) (Eq.trans (b := ORes.ofP (guardV (inR k a.Err.length) (.pp (a.Err.flatMap (iC .i64)) (k.toNat * 1)))) (by kernel_rfl) (ofP_guard hg3)) (by kernel_rfl) <| .pure (v := aI64 (gt a.Err k)) (by kernel_rfl) (Eq.trans (b := ORes.ofP ((a.Err.flatMap (iC .i64))[k.toNat * 1]?)) (by kernel_rfl) (ofP_some (flat_get (iC_len _) (inR_lt hg3) (by decide : 0 < 1) (by omega : k.toNat * 1 = k.toNat * 1 + 0) (by kernel_rfl)))) (by kernel_rfl) <| .mu 3 <| .pure (v := .pp (b.Err.flatMap (iC .i64)) (k.toNat * 1)) (by kernel_rfl) (Eq.trans (b := ORes.ofP (guardV (inR k b.Err.length) (.pp (b.Err.flatMap (iC .i64)) (k.toNat * 1)))) (by kernel_rfl) (ofP_guard hg4)) (by kernel_rfl) <| .pure (v := aI64 (gt b.Err k)) (by kernel_rfl) (Eq.trans (b := ORes.ofP ((b.Err.flatMap (iC .i64))[k.toNat * 1]?)) (by kernel_rfl) (ofP_some (flat_get (iC_len _) (inR_lt hg4) (by decide : 0 < 1) (by omega : k.toNat * 1 = k.toNat * 1 + 0) (by kernel_rfl)))) (by kernel_rfl) <| .mu 2 <| .pure (v := aB false) (by kernel_rfl) (Eq.trans (b := some (.pure (aB (((gt a.Grid.Z k) : Int) != (-2147483648))))) (by kernel_rfl) (by rw [hb5])) (by kernel_rfl) <| .mu 7 ?_
  refine .done ⟨by kernel_rfl, ?_⟩
  refine .ret ?_
  obtain rfl := Option.some.inj hr
  exact FinQ.ret (vs := [aI64 (wrapF .i64 ((gt b.Grid.Z k) - (gt a.Grid.Z k))), aI64 (wrapF .i64 ((gt a.Err k) + (gt b.Err k))), aB false]) (by kernel_rfl) (Sn.tup (SnL.cons (Sn.pure rfl) (SnL.cons (Sn.pure rfl) (SnL.cons (Sn.pure rfl) SnL.nil))))

theorem fiduciallaw59_verdict_ok (n : Nat) (a : api_Banded) (b : api_Banded) (k : Int) (r : Int) (hr : fiduciallaw59_verdict n a b k = some r) : FnOk Tryz.prog 11 [.agg (api_Banded.c a), .agg (api_Banded.c b), aI64 k] (aI64 r) := by
 unfold fiduciallaw59_verdict at hr
 refine FnOk.bd fine Tryz.func11 [.tmp 6] ?_
 unfold Tryz.f11
 simp only [Option.getD_some]
 refine .seq <| .r2 fine 30 [(2, aI64 k), (3, .hp 0 0), (4, .hp 1 0)] [.own (api_Banded.c a), .own (api_Banded.c b)] <| .seq ?_
 obtain ⟨v1, hc2, hr⟩ := bd hr
 refine .g1 fine (ok0 (fiduciallaw59_both_ok n a b k v1 hc2)) <| .mu 3 <| .ca cf0 <| .mu 7 <| .done <| .n2 30 [(7, aI64 v1.1), (8, aI64 v1.2.1), (9, aB v1.2.2)] [.own (api_Banded.c a), .own (api_Banded.c b)] <| .seq <| .block <| .seq <| .r3 fine 30 [(7, aI64 v1.1), (8, aI64 v1.2.1), (18, aB (!v1.2.2))] ?_
 refine .cd hr (fun hb3 hr => ?_) (fun hb3 hr => ?_)
 ·refine .seq <| .ru fine <| .ret ?_
  obtain rfl := Option.some.inj hr
  exact FinQ.r1 [aI64 3]
 ·refine .seq <| .r3 fine 30 [(7, aI64 v1.1), (8, aI64 v1.2.1), (21, aB (decide (v1.1 > v1.2.1)))] ?_
  refine .cd hr (fun hb4 hr => ?_) (fun hb4 hr => ?_)
  ·refine .seq <| .ru fine <| .ret ?_
   obtain rfl := Option.some.inj hr
   exact FinQ.r1 [aI64 1]
  ·refine .seq <| .r0 fine <| .mu 2 <| .p0 (v := aI64 (wrapF .i64 (0 - v1.2.1))) (Eq.trans (b := some (.pure (aI64 (IntKind.wrap .i64 (0 - v1.2.1))))) (by kernel_rfl) wrap_at) <| .mu 2 <| .done <| .n2 30 [(25, aB (decide (v1.1 < (wrapF .i64 (0 - v1.2.1)))))] [.own (api_Banded.c a), .own (api_Banded.c b)] ?_
   refine .cd hr (fun hb5 hr => ?_) (fun hb5 hr => ?_)
   ·refine .seq <| .ru fine <| .ret ?_
    obtain rfl := Option.some.inj hr
    exact FinQ.r1 [aI64 2]
   ·refine .skip <| .pop <| .seq <| .ru fine <| .ret ?_
    obtain rfl := Option.some.inj hr
    exact FinQ.r1 [aI64 0]

theorem slices_Equal_int_int_ok (n : Nat) (s1 : List Int) (s2 : List Int) (r : Bool) (hr : slices_Equal_int_int n s1 s2 = some r) : FnOk Tryz.prog 12 [sI64 s1, sI64 s2] (aB r) := by
 unfold slices_Equal_int_int at hr
 refine FnOk.bd fine Tryz.func12 [.tmp 4] ?_
 unfold Tryz.f12
 simp only [Option.getD_some]
 refine .seq <| .r3 fine 26 [(0, sI64 s1), (1, sI64 s2)] <| .seq <| .seq <| .r3 fine 26 [(0, sI64 s1), (1, sI64 s2), (10, aB (((s1.length : Int) : Int) != (s2.length : Int)))] ?_
 refine .cd hr (fun hb1 hr => ?_) (fun hb1 hr => ?_)
 ·refine .seq <| .ru fine <| .ret ?_
  obtain rfl := Option.some.inj hr
  exact FinQ.r1 [aB false]
 ·refine .skip <| .seq <| .seq <| .r3 fine 26 [(0, sI64 s1), (1, sI64 s2), (12, aI64 (s1.length : Int)), (13, aI64 0)] <| .block ?_
  replace hr := bd hr; obtain ⟨o12, hL13, hr⟩ := hr
  refine .loopO (σ := fun z0 => match z0 with | x_2 => ⟨mkS 26 0 [(0, sI64 s1), (1, sI64 s2), (12, aI64 (s1.length : Int)), (13, aI64 x_2)], []⟩) (Q := fun x st' => match (generalizing := false) o12 with | .inl _ => x = .exit 0 ∧ Wk 0 st' ⟨mkS 26 0 [], []⟩ | .inr (r0) => x = .ret ∧ FinQ Tryz.prog [.tmp 4] (aB r0) .ret st') hL13 ((Wk.gc [0, 1, 12, 13] [] rfl pK0).to (by kernel_rfl)) ?_ ?_
  ·clear hr
   rintro m x_2 hr
   show CQ _ _ _ _ _ ⟨_, _⟩
   refine .seq <| .r3 fine 26 [(0, sI64 s1), (1, sI64 s2), (12, aI64 (s1.length : Int)), (13, aI64 x_2), (14, aB (decide (x_2 < (s1.length : Int))))] <| .seq ?_
   refine .cd hr (fun hb8 hr => ?_) (fun hb8 hr => ?_)
   ·refine .skip <| .seq <| .block <| .seq <| .r3 fine 26 [(0, sI64 s1), (1, sI64 s2), (5, aI64 x_2), (12, aI64 (s1.length : Int)), (13, aI64 x_2)] <| .seq ?_
    obtain ⟨hg9, hg10, hr⟩ := gd2 hr
    refine .regionT fine callOf_nil <| .mu 2 <| .pure (v := .pp (s1.flatMap (iC .i64)) (x_2.toNat * 1)) (by kernel_rfl) (Eq.trans (b := ORes.ofP (guardV (inR x_2 s1.length) (.pp (s1.flatMap (iC .i64)) (x_2.toNat * 1)))) (by kernel_rfl) (ofP_guard hg9)) (by kernel_rfl) <| .pure (v := aI64 (gt s1 x_2)) (by kernel_rfl) (Eq.trans (b := ORes.ofP ((s1.flatMap (iC .i64))[x_2.toNat * 1]?)) (by kernel_rfl) (ofP_some (flat_get (iC_len _) (inR_lt hg9) (by decide : 0 < 1) (by omega : x_2.toNat * 1 = x_2.toNat * 1 + 0) (by kernel_rfl)))) (by kernel_rfl) <| .mu 2 <| .pure (v := .pp (s2.flatMap (iC .i64)) (x_2.toNat * 1)) (by kernel_rfl) (Eq.trans (b := ORes.ofP (guardV (inR x_2 s2.length) (.pp (s2.flatMap (iC .i64)) (x_2.toNat * 1)))) (by kernel_rfl) (ofP_guard hg10)) (by kernel_rfl) <| .pure (v := aI64 (gt s2 x_2)) (by kernel_rfl) (Eq.trans (b := ORes.ofP ((s2.flatMap (iC .i64))[x_2.toNat * 1]?)) (by kernel_rfl) (ofP_some (flat_get (iC_len _) (inR_lt hg10) (by decide : 0 < 1) (by omega : x_2.toNat * 1 = x_2.toNat * 1 + 0) (by kernel_rfl)))) (by kernel_rfl) <| .mu 1 ?_
    refine .done ⟨by kernel_rfl, ?_⟩
    refine .n2 26 [(0, sI64 s1), (1, sI64 s2), (12, aI64 (s1.length : Int)), (13, aI64 x_2), (24, aB (((gt s1 x_2) : Int) != (gt s2 x_2)))] [] ?_
    refine .cd hr (fun hb11 hr => ?_) (fun hb11 hr => ?_)
    ·refine .seq <| .ru fine <| .ret ?_
     obtain rfl := Option.some.inj hr
     exact ⟨rfl, FinQ.ret (vs := [aB false]) (by kernel_rfl) (Sn.pure rfl)⟩
    ·refine .skip <| .pop <| .ru fine ?_
     exact loopF_back (wrapF .i64 (x_2 + 1)) hr ((Wk.gc [0, 1, 12, 13] [] rfl pK0).to (by kernel_rfl))
   ·refine .leave rfl ?_
    obtain rfl := Option.some.inj hr
    exact ⟨rfl, ((Wk.gc [] [] rfl pK0).to (by kernel_rfl))⟩
  ·rcases o12 with ⟨⟩ | r0
   ·rintro x st' hq14
    clear hL13
    obtain ⟨rfl, hq14⟩ := hq14
    refine CQ_exit _ rfl <| .wk hq14 <| .seq <| .ru fine <| .ret ?_
    obtain rfl := Option.some.inj hr
    exact FinQ.r1 [aB true]
   ·rintro x st' hq14
    clear hL13
    obtain ⟨rfl, hq14⟩ := hq14
    obtain rfl := Option.some.inj hr
    exact CQ_ret _ hq14

theorem fiduciallaw59_ChangeHistories_ok (n : Nat) (l : List api_Banded) (r : Bool) (hr : fiduciallaw59_ChangeHistories n l = some r) : FnOk Tryz.prog 3 [slT api_Banded.c l] (aB r) := by
 unfold fiduciallaw59_ChangeHistories at hr
 refine FnOk.bd fine Tryz.func3 [.tmp 2] ?_
 unfold Tryz.f3
 simp only [Option.getD_some]
 refine .seq <| .r3 fine 92 [(0, slT api_Banded.c l)] <| .seq <| .seq ?_
 obtain ⟨v1, hc2, hr⟩ := bd hr
 refine .g1 fine (ok0 (fiduciallaw59_known_ok n v1 hc2)) <| .ca cf0 <| .mu 1 <| .done <| .n2 92 [(0, slT api_Banded.c l), (13, aB (!v1))] [] ?_
 refine .cd hr (fun hb4 hr => ?_) (fun hb4 hr => ?_)
 ·refine .seq <| .ru fine <| .ret ?_
  obtain rfl := Option.some.inj hr
  exact FinQ.r1 [aB false]
 ·refine .skip <| .seq <| .seq ?_
  rcases Bool.eq_false_or_eq_true (decide ((l.length : Int) > 18)) with hb5 | hb5
  ·replace hr := cd_t hb5 hr
   refine .r0 fine <| .mu 2 <| .p0 (v := aB true) (Eq.trans (b := some (.pure (aB (decide ((l.length : Int) > 18))))) (by kernel_rfl) (by rw [hb5])) <| .mu 5 <| .done <| .n2 92 [(0, slT api_Banded.c l), (21, aB true)] [] <| .cT (by kernel_rfl) <| .seq <| .ru fine <| .ret ?_
   obtain rfl := Option.some.inj hr
   exact FinQ.r1 [aB true]
  ·replace hr := cd_f hb5 hr
   obtain ⟨v6, hc7, hr⟩ := bd hr
   refine .g1 fine (ok0 (fiduciallaw59_few_ok n l v6 hc7)) <| .mu 2 <| .p0 (v := aB false) (Eq.trans (b := some (.pure (aB (decide ((l.length : Int) > 18))))) (by kernel_rfl) (by rw [hb5])) <| .mu 2 <| .ca cf0 <| .mu 2 <| .done <| .n2 92 [(0, slT api_Banded.c l), (21, aB (!v6))] [] ?_
   refine .cd hr (fun hb9 hr => ?_) (fun hb9 hr => ?_)
   ·refine .seq <| .ru fine <| .ret ?_
    obtain rfl := Option.some.inj hr
    exact FinQ.r1 [aB true]
   ·refine .skip <| .seq ?_
    obtain ⟨v10, hc11, hr⟩ := bd hr
    refine .g1 fine (ok0 (change_History_ok n l v10 hc11)) <| .mu 1 <| .ca cf0 <| .mu 5 <| .done <| .n2 92 [(0, slT api_Banded.c l), (3, sI64 v10.1), (4, aI64 v10.2)] [] <| .seq <| .r3 fine 92 [(0, slT api_Banded.c l), (3, sI64 v10.1), (4, aI64 v10.2)] <| .seq <| .seq <| .r3 fine 92 [(0, slT api_Banded.c l), (3, sI64 v10.1), (4, aI64 v10.2), (29, aB (((l.length : Int) : Int) == 0))] ?_
    replace hr := bd hr; obtain ⟨c_12, hL18, hr⟩ := hr
    refine .app1 (Q := fun x st' => x = .normal ∧ Wk 0 st' ⟨mkS 92 0 [(0, slT api_Banded.c l), (3, sI64 v10.1), (4, aI64 v10.2), (5, aI64 c_12)], []⟩) ?_ ?_
    ·clear hr
     have hr := hL18
     clear hL18
     refine .cd hr (fun hb13 hr => ?_) (fun hb13 hr => ?_)
     ·refine .ru fine ?_
      obtain rfl := Option.some.inj hr
      exact ⟨rfl, ((Wk.gc [0, 3, 4, 5] [] rfl pK0).to (by kernel_rfl))⟩
     ·refine .seq <| .r3 fine 92 [(0, slT api_Banded.c l), (3, sI64 v10.1), (4, aI64 v10.2), (32, aB (decide ((l.length : Int) > 16)))] ?_
      refine .cd hr (fun hb14 hr => ?_) (fun hb14 hr => ?_)
      ·refine .ru fine ?_
       obtain rfl := Option.some.inj hr
       exact ⟨rfl, ((Wk.gc [0, 3, 4, 5] [] rfl pK0).to (by kernel_rfl))⟩
      ·obtain ⟨v15, hc16, hr⟩ := bd hr
       refine .g1 fine (ok0 (fiduciallaw59_fits_ok n l v15 hc16)) <| .mu 1 <| .ca cf0 <| .mu 1 <| .done ?_
       obtain rfl := Option.some.inj hr
       exact ⟨rfl, ((Wk.gc [0, 3, 4, 5] [] rfl pK0).to (by kernel_rfl))⟩
    ·rintro x st' hq19
     clear hL18
     obtain ⟨rfl, hq19⟩ := hq19
     refine .wk hq19 <| .seq <| .seq <| .r3 fine 92 [(0, slT api_Banded.c l), (3, sI64 v10.1), (4, aI64 v10.2), (5, aI64 c_12), (36, aB ((c_12 : Int) != 0))] ?_
     refine .cd hr (fun hb22 hr => ?_) (fun hb22 hr => ?_)
     ·refine .seq ?_
      replace hr := bd hr; obtain ⟨x_23, hL26, hr⟩ := hr
      refine .app1 (Q := fun x st' => x = .normal ∧ Wk 0 st' ⟨mkS 92 0 [(2, aB x_23)], []⟩) ?_ ?_
      ·clear hr
       have hr := hL26
       clear hL26
       rcases Bool.eq_false_or_eq_true ((v10.2 : Int) == c_12) with hb24 | hb24
       ·replace hr := cd_t hb24 hr
        refine .r0 fine <| .mu 2 <| .p0 (v := aB true) (Eq.trans (b := some (.pure (aB ((v10.2 : Int) == c_12)))) (by kernel_rfl) (by rw [hb24])) <| .mu 6 <| .done ?_
        obtain rfl := Option.some.inj hr
        exact ⟨rfl, ((Wk.gc [2] [] rfl pK0).to (by kernel_rfl))⟩
       ·replace hr := cd_f hb24 hr
        refine .r0 fine <| .mu 2 <| .p0 (v := aB false) (Eq.trans (b := some (.pure (aB ((v10.2 : Int) == c_12)))) (by kernel_rfl) (by rw [hb24])) <| .mu 6 <| .done ?_
        obtain rfl := Option.some.inj hr
        exact ⟨rfl, ((Wk.gc [2] [] rfl pK0).to (by kernel_rfl))⟩
      ·rintro x st' hq27
       clear hL26
       obtain ⟨rfl, hq27⟩ := hq27
       refine .wk hq27 <| .ret ?_
       obtain rfl := Option.some.inj hr
       exact FinQ.r1 [aB x_23]
     ·refine .skip <| .seq <| .r2 fine 92 [(0, slT api_Banded.c l), (3, sI64 v10.1), (4, aI64 v10.2), (6, .hs 0 0 0 1)] [.own []] <| .seq <| .seq ?_
      obtain ⟨hg28, hr⟩ := gd hr
      refine .r0 fine <| .mu 1 <| .p0 (v := .pp (l.flatMap api_Banded.c) ((0 : Int).toNat * 7)) (Eq.trans (b := ORes.ofP (guardV (inR 0 l.length) (.pp (l.flatMap api_Banded.c) ((0 : Int).toNat * 7)))) (by kernel_rfl) (ofP_guard hg28)) <| .mu 2 <| .p0 (v := sI64 (gt l 0).Grid.Z) (Eq.trans (b := ORes.ofP ((l.flatMap api_Banded.c)[(0 : Int).toNat * 7 + 0 + 5]?)) (by kernel_rfl) (ofP_some (flat_get api_Banded.len (inR_lt hg28) (by decide : 5 < 7) (by omega : (0 : Int).toNat * 7 + 0 + 5 = (0 : Int).toNat * 7 + 5) (by kernel_rfl)))) <| .mu 2 <| .done <| .n2 92 [(0, slT api_Banded.c l), (3, sI64 v10.1), (4, aI64 v10.2), (6, .hs 0 0 0 1), (51, aI64 ((gt l 0).Grid.Z.length : Int)), (52, aI64 0)] [.own []] <| .block ?_
      replace hr := bd hr; obtain ⟨want_58, hL88, hr⟩ := hr
      refine .loopO (σ := fun z0 => match z0 with | (want_29, x_30) => ⟨mkS 92 0 [(0, slT api_Banded.c l), (3, sI64 v10.1), (4, aI64 v10.2), (6, .hs 0 0 want_29.length 1), (51, aI64 ((gt l 0).Grid.Z.length : Int)), (52, aI64 x_30)], [.own (want_29.flatMap (iC .i64))]⟩) (Q := fun x st' => x = .exit 0 ∧ Wk 0 st' ⟨mkS 92 0 [(3, sI64 v10.1), (4, aI64 v10.2), (6, .hs 0 0 want_58.length 1)], [.own (want_58.flatMap (iC .i64))]⟩) hL88 ((Wk.gc [0, 3, 4, 6, 51, 52] [(0, false)] rfl (pKc trivial)).to (by kernel_rfl)) ?_ ?_
      ·clear hr
       rintro m ⟨want_29, x_30⟩ hr
       show CQ _ _ _ _ _ ⟨_, _⟩
       refine .seq <| .r3 fine 92 [(0, slT api_Banded.c l), (3, sI64 v10.1), (4, aI64 v10.2), (6, .hs 0 0 want_29.length 1), (51, aI64 ((gt l 0).Grid.Z.length : Int)), (52, aI64 x_30), (53, aB (decide (x_30 < ((gt l 0).Grid.Z.length : Int))))] <| .seq ?_
       refine .cd hr (fun hb61 hr => ?_) (fun hb61 hr => ?_)
       ·refine .skip <| .seq <| .block <| .seq <| .r3 fine 92 [(0, slT api_Banded.c l), (3, sI64 v10.1), (4, aI64 v10.2), (6, .hs 0 0 want_29.length 1), (7, aI64 x_30), (51, aI64 ((gt l 0).Grid.Z.length : Int)), (52, aI64 x_30)] <| .seq <| .r3 fine 92 [(0, slT api_Banded.c l), (3, sI64 v10.1), (4, aI64 v10.2), (6, .hs 0 0 want_29.length 1), (7, aI64 x_30), (8, aI64 (-1)), (51, aI64 ((gt l 0).Grid.Z.length : Int)), (52, aI64 x_30)] <| .seq <| .seq <| .r3 fine 92 [(0, slT api_Banded.c l), (3, sI64 v10.1), (4, aI64 v10.2), (6, .hs 0 0 want_29.length 1), (7, aI64 x_30), (8, aI64 (-1)), (51, aI64 ((gt l 0).Grid.Z.length : Int)), (52, aI64 x_30), (55, slT api_Banded.c l), (56, aI64 (l.length : Int)), (57, aI64 0)] <| .block ?_
        replace hr := bd hr; obtain ⟨at_72, hL83, hr⟩ := hr
        refine .loopO (σ := fun z0 => match z0 with | (at_62, x_63) => ⟨mkS 92 0 [(0, slT api_Banded.c l), (3, sI64 v10.1), (4, aI64 v10.2), (6, .hs 0 0 want_29.length 1), (7, aI64 x_30), (8, aI64 at_62), (51, aI64 ((gt l 0).Grid.Z.length : Int)), (52, aI64 x_30), (55, slT api_Banded.c l), (56, aI64 (l.length : Int)), (57, aI64 x_63)], [.own (want_29.flatMap (iC .i64))]⟩) (Q := fun x st' => x = .exit 2 ∧ Wk 0 st' ⟨mkS 92 0 [(0, slT api_Banded.c l), (3, sI64 v10.1), (4, aI64 v10.2), (6, .hs 0 0 want_29.length 1), (8, aI64 at_72), (51, aI64 ((gt l 0).Grid.Z.length : Int)), (52, aI64 x_30)], [.own (want_29.flatMap (iC .i64))]⟩) hL83 ((Wk.gc [0, 3, 4, 6, 7, 8, 51, 52, 55, 56, 57] [(0, false)] rfl (pKo (iC .i64) (iC_pure _) want_29 trivial)).to (by kernel_rfl)) ?_ ?_
        ·clear hr
         rintro m ⟨at_62, x_63⟩ hr
         show CQ _ _ _ _ _ ⟨_, _⟩
         refine .seq <| .r3 fine 92 [(0, slT api_Banded.c l), (3, sI64 v10.1), (4, aI64 v10.2), (6, .hs 0 0 want_29.length 1), (7, aI64 x_30), (8, aI64 at_62), (51, aI64 ((gt l 0).Grid.Z.length : Int)), (52, aI64 x_30), (55, slT api_Banded.c l), (56, aI64 (l.length : Int)), (57, aI64 x_63), (58, aB (decide (x_63 < (l.length : Int))))] <| .seq ?_
         refine .cd hr (fun hb75 hr => ?_) (fun hb75 hr => ?_)
         ·refine .skip <| .seq <| .block <| .seq ?_
          obtain ⟨hg76, hr⟩ := gd hr
          refine .r0 fine <| .mu 1 <| .p0 (v := .pp (l.flatMap api_Banded.c) (x_63.toNat * 7)) (Eq.trans (b := ORes.ofP (guardV (inR x_63 l.length) (.pp (l.flatMap api_Banded.c) (x_63.toNat * 7)))) (by kernel_rfl) (ofP_guard hg76)) <| .p0 (v := .agg (api_Banded.c (gt l x_63))) (Eq.trans (b := ORes.ofP (guardV (decide (7 ≤ ((l.flatMap api_Banded.c).drop (x_63.toNat * 7)).length)) (.agg (((l.flatMap api_Banded.c).drop (x_63.toNat * 7)).take 7)))) (by kernel_rfl) (flat_load api_Banded.len (inR_lt hg76) (by decide) (by omega : x_63.toNat * 7 = x_63.toNat * 7 + 0) (by kernel_rfl))) <| .mu 3 <| .done <| .n2 92 [(0, slT api_Banded.c l), (3, sI64 v10.1), (4, aI64 v10.2), (6, .hs 0 0 want_29.length 1), (7, aI64 x_30), (8, aI64 at_62), (9, aI64 x_63), (10, .hp 1 0), (51, aI64 ((gt l 0).Grid.Z.length : Int)), (52, aI64 x_30), (55, slT api_Banded.c l), (56, aI64 (l.length : Int)), (57, aI64 x_63)] [.own (want_29.flatMap (iC .i64)), .own (api_Banded.c (gt l x_63))] <| .seq ?_
          obtain ⟨v77, hc78, hr⟩ := bd hr
          refine .t1 fine (ok0 (fiduciallaw59_verdict_ok n (gt l 0) (gt l x_63) x_30 v77 hc78)) <| .mu 1 <| .pure (v := .pp (l.flatMap api_Banded.c) ((0 : Int).toNat * 7)) (by kernel_rfl) (Eq.trans (b := ORes.ofP (guardV (inR 0 l.length) (.pp (l.flatMap api_Banded.c) ((0 : Int).toNat * 7)))) (by kernel_rfl) (ofP_guard hg28)) (by kernel_rfl) <| .pure (v := .agg (api_Banded.c (gt l 0))) (by kernel_rfl) (Eq.trans (b := ORes.ofP (guardV (decide (7 ≤ ((l.flatMap api_Banded.c).drop ((0 : Int).toNat * 7)).length)) (.agg (((l.flatMap api_Banded.c).drop ((0 : Int).toNat * 7)).take 7)))) (by kernel_rfl) (flat_load api_Banded.len (inR_lt hg28) (by decide) (by omega : (0 : Int).toNat * 7 = (0 : Int).toNat * 7 + 0) (by kernel_rfl))) (by kernel_rfl) <| .mu 2 <| .ca cf0 <| .mu 1 ?_
          refine .done ⟨by kernel_rfl, ?_⟩
          refine .n2 92 [(0, slT api_Banded.c l), (3, sI64 v10.1), (4, aI64 v10.2), (6, .hs 0 0 want_29.length 1), (7, aI64 x_30), (8, aI64 at_62), (9, aI64 x_63), (11, aI64 v77), (51, aI64 ((gt l 0).Grid.Z.length : Int)), (52, aI64 x_30), (55, slT api_Banded.c l), (56, aI64 (l.length : Int)), (57, aI64 x_63)] [.own (want_29.flatMap (iC .i64)), .own (api_Banded.c (gt l x_63))] <| .seq ?_
          rcases Bool.eq_false_or_eq_true (decide (at_62 < 0)) with hb79 | hb79
          ·replace hr := cd_t hb79 hr
           rcases Bool.eq_false_or_eq_true ((v77 : Int) == 1) with hb80 | hb80
           ·replace hr := cd_t hb80 hr
            refine .r0 fine <| .mu 1 <| .p0 (v := aB true) (Eq.trans (b := some (.pure (aB (decide (at_62 < 0))))) (by kernel_rfl) (by rw [hb79])) <| .mu 2 <| .pure (v := aB true) (by kernel_rfl) (Eq.trans (b := some (.pure (aB ((v77 : Int) == 1)))) (by kernel_rfl) (by rw [hb80])) <| .mu 5 <| .done <| .n2 92 [(0, slT api_Banded.c l), (3, sI64 v10.1), (4, aI64 v10.2), (6, .hs 0 0 want_29.length 1), (7, aI64 x_30), (8, aI64 at_62), (9, aI64 x_63), (51, aI64 ((gt l 0).Grid.Z.length : Int)), (52, aI64 x_30), (55, slT api_Banded.c l), (56, aI64 (l.length : Int)), (57, aI64 x_63), (77, aB true)] [.own (want_29.flatMap (iC .i64)), .own (api_Banded.c (gt l x_63))] <| .cT (by kernel_rfl) <| .ru fine <| .pop <| .ru fine ?_
            exact loopF_back (x_63, wrapF .i64 (x_63 + 1)) hr ((Wk.gc [0, 3, 4, 6, 7, 8, 51, 52, 55, 56, 57] [(0, false)] rfl (pKo (iC .i64) (iC_pure _) want_29 trivial)).to (by kernel_rfl))
           ·replace hr := cd_f hb80 hr
            refine .r0 fine <| .mu 1 <| .p0 (v := aB true) (Eq.trans (b := some (.pure (aB (decide (at_62 < 0))))) (by kernel_rfl) (by rw [hb79])) <| .mu 2 <| .pure (v := aB false) (by kernel_rfl) (Eq.trans (b := some (.pure (aB ((v77 : Int) == 1)))) (by kernel_rfl) (by rw [hb80])) <| .mu 5 <| .done <| .n2 92 [(0, slT api_Banded.c l), (3, sI64 v10.1), (4, aI64 v10.2), (6, .hs 0 0 want_29.length 1), (7, aI64 x_30), (8, aI64 at_62), (9, aI64 x_63), (51, aI64 ((gt l 0).Grid.Z.length : Int)), (52, aI64 x_30), (55, slT api_Banded.c l), (56, aI64 (l.length : Int)), (57, aI64 x_63), (77, aB ((v77 : Int) == 2))] [.own (want_29.flatMap (iC .i64)), .own (api_Banded.c (gt l x_63))] ?_
            refine .cd hr (fun hb81 hr => ?_) (fun hb81 hr => ?_)
            ·refine .ru fine <| .pop <| .ru fine ?_
             exact loopF_back (x_63, wrapF .i64 (x_63 + 1)) hr ((Wk.gc [0, 3, 4, 6, 7, 8, 51, 52, 55, 56, 57] [(0, false)] rfl (pKo (iC .i64) (iC_pure _) want_29 trivial)).to (by kernel_rfl))
            ·refine .skip <| .pop <| .ru fine ?_
             exact loopF_back (at_62, wrapF .i64 (x_63 + 1)) hr ((Wk.gc [0, 3, 4, 6, 7, 8, 51, 52, 55, 56, 57] [(0, false)] rfl (pKo (iC .i64) (iC_pure _) want_29 trivial)).to (by kernel_rfl))
          ·replace hr := cd_f hb79 hr
           refine .r0 fine <| .mu 1 <| .p0 (v := aB false) (Eq.trans (b := some (.pure (aB (decide (at_62 < 0))))) (by kernel_rfl) (by rw [hb79])) <| .mu 8 <| .done <| .n2 92 [(0, slT api_Banded.c l), (3, sI64 v10.1), (4, aI64 v10.2), (6, .hs 0 0 want_29.length 1), (7, aI64 x_30), (8, aI64 at_62), (9, aI64 x_63), (51, aI64 ((gt l 0).Grid.Z.length : Int)), (52, aI64 x_30), (55, slT api_Banded.c l), (56, aI64 (l.length : Int)), (57, aI64 x_63), (77, aB false)] [.own (want_29.flatMap (iC .i64)), .own (api_Banded.c (gt l x_63))] <| .cF (by kernel_rfl) <| .skip <| .pop <| .ru fine ?_
           exact loopF_back (at_62, wrapF .i64 (x_63 + 1)) hr ((Wk.gc [0, 3, 4, 6, 7, 8, 51, 52, 55, 56, 57] [(0, false)] rfl (pKo (iC .i64) (iC_pure _) want_29 trivial)).to (by kernel_rfl))
         ·refine .leave rfl ?_
          obtain rfl := Option.some.inj hr
          exact ⟨rfl, ((Wk.gc [0, 3, 4, 6, 8, 51, 52] [(0, false)] rfl (pKo (iC .i64) (iC_pure _) want_29 trivial)).to (by kernel_rfl))⟩
        ·rintro x st' hq84
         clear hL83
         obtain ⟨rfl, hq84⟩ := hq84
         refine CQ_exit _ rfl <| .wk hq84 ?_
         obtain ⟨hg85, hg86, hr⟩ := gd2 hr
         refine .r0 fine <| .mu 3 <| .e0 (v := .hs 2 0 (want_29 ++ [at_72]).length 1) (ws := [(0, .dead), (2, .own ((want_29 ++ [at_72]).flatMap (iC .i64)))]) (Eq.trans (b := guardO (decide (0 + want_29.length * 1 ≤ (want_29.flatMap (iC .i64)).length) && decide ((want_29.length + 1) * 8 ≤ 140737488355328) && decide (want_29.length + 1 ≤ 4611686018427387904)) (some (.eff (.hs 2 0 (want_29.length + 1) 1) [(0, .dead), (2, .own (((want_29.flatMap (iC .i64)).drop 0).take (want_29.length * 1) ++ [aI64 at_72]))]))) (by kernel_rfl) (app_own (l := want_29) (xs := [at_72]) (iC_len _) rfl rfl (by kernel_rfl) hg85 hg86)) <| .mu 1 <| .done <| .pop <| .ru fine ?_
         exact loopF_back (want_29 ++ [at_72], wrapF .i64 (x_30 + 1)) hr ((Wk.gc [0, 3, 4, 6, 51, 52] [(2, false)] rfl (pKo (iC .i64) (iC_pure _) (want_29 ++ [at_72]) trivial)).to (by kernel_rfl))
       ·refine .leave rfl ?_
        obtain rfl := Option.some.inj hr
        exact ⟨rfl, ((Wk.gc [3, 4, 6] [(0, false)] rfl (pKo (iC .i64) (iC_pure _) want_29 trivial)).to (by kernel_rfl))⟩
      ·rintro x st' hq89
       clear hL88
       obtain ⟨rfl, hq89⟩ := hq89
       refine CQ_exit _ rfl <| .wk hq89 <| .seq ?_
       rcases Bool.eq_false_or_eq_true ((v10.2 : Int) == 0) with hb90 | hb90
       ·replace hr := cd_t hb90 hr
        obtain ⟨v91, hc92, hr⟩ := bd hr
        refine .g1 fine (callOk_val (args := [sI64 v10.1, .hs 0 0 want_58.length 1]) (l := [0]) rfl (SnL.cons (Sn.pure rfl) (SnL.cons (Sn.hs rfl (.inl rfl) (SnC.pure (ids_flat (iC_pure _) _)) (fun h => flat_nil0 h)) SnL.nil)) (slices_Equal_int_int_ok n v10.1 want_58 v91 hc92)) <| .mu 1 <| .p0 (v := aB true) (Eq.trans (b := some (.pure (aB ((v10.2 : Int) == 0)))) (by kernel_rfl) (by rw [hb90])) <| .mu 3 <| .ca cf0 <| .mu 2 <| .done <| .ret ?_
        obtain rfl := Option.some.inj hr
        exact FinQ.r1 [aB v91]
       ·replace hr := cd_f hb90 hr
        refine .r0 fine <| .mu 1 <| .p0 (v := aB false) (Eq.trans (b := some (.pure (aB ((v10.2 : Int) == 0)))) (by kernel_rfl) (by rw [hb90])) <| .mu 6 <| .done <| .ret ?_
        obtain rfl := Option.some.inj hr
        exact FinQ.r1 [aB false]
end Go.L
