/- The program's functions compute what the plain Lean programs compute, part 4; printed by a program. -/
import Derived.Test.YtlajgmapmocpbaaGreatCompLP3
import Derived.Test.YtlajgmapmocpbaaGreatL0b
import Derived.Test.YtlajgmapmocpbaaGreatChecked
import Derived.KernelRfl
set_option linter.unusedVariables false
set_option linter.unusedSimpArgs false
set_option maxRecDepth 100000
namespace Go.L
open Go Go.Eng Go.Proofs
theorem fiducialref03_Valid_inj {a : api_Range} {a_ : api_Range} (h : ([.agg [.at (.bool a.Low.Num.Negative), slT (iC .u32) a.Low.Num.Groups, .at (.bool a.Low.Den.Negative), slT (iC .u32) a.Low.Den.Groups, .at (.bool a.High.Num.Negative), slT (iC .u32) a.High.Num.Groups, .at (.bool a.High.Den.Negative), slT (iC .u32) a.High.Den.Groups]] : List AV) = [.agg [.at (.bool a_.Low.Num.Negative), slT (iC .u32) a_.Low.Num.Groups, .at (.bool a_.Low.Den.Negative), slT (iC .u32) a_.Low.Den.Groups, .at (.bool a_.High.Num.Negative), slT (iC .u32) a_.High.Num.Groups, .at (.bool a_.High.Den.Negative), slT (iC .u32) a_.High.Den.Groups]]) : a = a_ := by
 obtain ⟨⟨⟨_, _⟩, ⟨_, _⟩⟩, ⟨⟨_, _⟩, ⟨_, _⟩⟩⟩ := a
 obtain ⟨⟨⟨_, _⟩, ⟨_, _⟩⟩, ⟨⟨_, _⟩, ⟨_, _⟩⟩⟩ := a_
 simp only [List.cons.injEq, AV.agg.injEq, AV.at.injEq, Value.int.injEq, Value.bool.injEq, AV.fn.injEq, AV.pp.injEq, true_and, and_true, slT_inj_int] at h
 simp_all
theorem fiducialref03_Valid_ok (n : Nat) (a : api_Range) (r : Bool) (hr : fiducialref03_Valid n a = some r) : FnOk Tryz.prog 52 [.agg [.at (.bool a.Low.Num.Negative), slT (iC .u32) a.Low.Num.Groups, .at (.bool a.Low.Den.Negative), slT (iC .u32) a.Low.Den.Groups, .at (.bool a.High.Num.Negative), slT (iC .u32) a.High.Num.Groups, .at (.bool a.High.Den.Negative), slT (iC .u32) a.High.Den.Groups]] (.at (.bool r)) := by
 unfold fiducialref03_Valid at hr
 refine FnOk.body fine Tryz.func52 (c := (Tryz.f52.body).getD .skip) rfl (s := mkS 19 0 [(0, .agg (api_Range.c a))]) (by kernel_rfl) (rs := [.tmp 2]) rfl ?_
 unfold Tryz.f52
 simp only [Option.getD_some]
 refine CQ.seq ?_
 refine CQ.r0 fine ?_
 refine EVO.e1 (.hp 0 0) [(0, .own (api_Range.c a))] ?_
 refine EVO.p1 (aB false) ?_
 refine EVO.done ?_
 refine CQ.n1 [1] (mkS 19 0 [(1, .hp 0 0)]) [.own (api_Range.c a)] ?_
 refine CQ.seq ?_
 replace hr := bd hr; obtain ⟨v1, hc2, hr⟩ := hr
 rcases Bool.eq_false_or_eq_true v1 with hb3 | hb3
 ·subst hb3
  replace hr := cd_t rfl hr
  replace hr := bd hr; obtain ⟨v4, hc5, hr⟩ := hr
  rcases Bool.eq_false_or_eq_true v4 with hb6 | hb6
  ·subst hb6
   replace hr := cd_t rfl hr
   replace hr := bd hr; obtain ⟨v7, hc8, hr⟩ := hr
   refine CQ.region fine (callOf_ok [{ f := 88, args := [.agg (api_Rat.c a.Low)], H := [.own (api_Range.c a)], r := .loc (aB true) [] [] 0 : CE }, { f := 88, args := [.agg (api_Rat.c a.High)], H := [.own (api_Range.c a)], r := .loc (aB true) [] [] 0 : CE }, { f := 54, args := [.agg (api_Rat.c a.Low), .agg (api_Rat.c a.High)], H := [.own (api_Range.c a)], r := .loc (aI64 v7) [] [] 0 : CE }] (List.forall_mem_cons.2 ⟨(callOk_val (l := []) (args' := [.agg (api_Rat.c a.Low)]) rfl (SnL.cons (Sn.pure rfl) SnL.nil) (fiducialref02_Valid_ok n a.Low true hc2)), (List.forall_mem_cons.2 ⟨(callOk_val (l := []) (args' := [.agg (api_Rat.c a.High)]) rfl (SnL.cons (Sn.pure rfl) SnL.nil) (fiducialref02_Valid_ok n a.High true hc5)), (List.forall_mem_cons.2 ⟨(callOk_val (l := []) (args' := [.agg (api_Rat.c a.Low), .agg (api_Rat.c a.High)]) rfl (SnL.cons (Sn.pure rfl) (SnL.cons (Sn.pure rfl) SnL.nil)) (fiducialref02_Compare_ok n a.Low a.High v7 hc8)), ce0⟩)⟩)⟩)) ?_
   refine EVO.p1 (.hp 0 0) ?_
   refine EVO.p1 (.agg (api_Rat.c a.Low)) ?_
   refine EVO.c0 (by kernel_rfl) (callOf_at (by kernel_rfl)) ?_
   refine EVO.p1 (aB true) ?_
   refine EVO.q1 (.hp 0 4) ?_
   refine EVO.q1 (.agg (api_Rat.c a.High)) ?_
   refine EVO.cal (by kernel_rfl) (by kernel_rfl) (callOf_skip (fun _ h => by obtain e0 := fiducialref02_Valid_inj h; rw [show true = true from Option.some.inj (hc5.symm.trans ((show fiducialref02_Valid n a.High = fiducialref02_Valid n a.Low from (congr rfl e0)).trans hc2))]) (callOf_at (by kernel_rfl))) ?_
   refine EVO.p1 (aB true) ?_
   refine EVO.p1 (aB true) ?_
   refine EVO.q1 (.hp 0 0) ?_
   refine EVO.q1 (.agg (api_Rat.c a.Low)) ?_
   refine EVO.q1 (.hp 0 4) ?_
   refine EVO.q1 (.agg (api_Rat.c a.High)) ?_
   refine EVO.cal (by kernel_rfl) (by kernel_rfl) (callOf_skip (fun h _ => absurd (show (54 : Nat) = 88 from h) (by decide)) (callOf_skip (fun h _ => absurd (show (54 : Nat) = 88 from h) (by decide)) (callOf_at (by kernel_rfl)))) ?_
   refine EVO.q1 (aB (decide (v7 ≤ 0))) ?_
   refine EVO.p1 (aB (decide (v7 ≤ 0))) ?_
   refine EVO.p1 (aB (decide (v7 ≤ 0))) ?_
   refine EVO.done ?_
   refine CQ.ret ?_
   obtain rfl := Option.some.inj hr
   exact FinQ.r1 [aB (decide (v7 ≤ 0))]
  ·subst hb6
   replace hr := cd_f rfl hr
   refine CQ.region fine (callOf_ok [{ f := 88, args := [.agg (api_Rat.c a.Low)], H := [.own (api_Range.c a)], r := .loc (aB true) [] [] 0 : CE }, { f := 88, args := [.agg (api_Rat.c a.High)], H := [.own (api_Range.c a)], r := .loc (aB false) [] [] 0 : CE }] (List.forall_mem_cons.2 ⟨(callOk_val (l := []) (args' := [.agg (api_Rat.c a.Low)]) rfl (SnL.cons (Sn.pure rfl) SnL.nil) (fiducialref02_Valid_ok n a.Low true hc2)), (List.forall_mem_cons.2 ⟨(callOk_val (l := []) (args' := [.agg (api_Rat.c a.High)]) rfl (SnL.cons (Sn.pure rfl) SnL.nil) (fiducialref02_Valid_ok n a.High false hc5)), ce0⟩)⟩)) ?_
   refine EVO.p1 (.hp 0 0) ?_
   refine EVO.p1 (.agg (api_Rat.c a.Low)) ?_
   refine EVO.c0 (by kernel_rfl) (callOf_at (by kernel_rfl)) ?_
   refine EVO.p1 (aB true) ?_
   refine EVO.q1 (.hp 0 4) ?_
   refine EVO.q1 (.agg (api_Rat.c a.High)) ?_
   refine EVO.cal (by kernel_rfl) (by kernel_rfl) (callOf_skip (fun _ h => by obtain e0 := fiducialref02_Valid_inj h; rw [show false = true from Option.some.inj (hc5.symm.trans ((show fiducialref02_Valid n a.High = fiducialref02_Valid n a.Low from (congr rfl e0)).trans hc2))]) (callOf_at (by kernel_rfl))) ?_
   refine EVO.p1 (aB false) ?_
   refine EVO.p1 (aB false) ?_
   refine EVO.s1 ?_
   refine EVO.s1 ?_
   refine EVO.s1 ?_
   refine EVO.s1 ?_
   refine EVO.s1 ?_
   refine EVO.s1 ?_
   refine EVO.p1 (aB false) ?_
   refine EVO.p1 (aB false) ?_
   refine EVO.done ?_
   refine CQ.ret ?_
   obtain rfl := Option.some.inj hr
   exact FinQ.r1 [aB false]
 ·subst hb3
  replace hr := cd_f rfl hr
  refine CQ.region fine (callOf_1 88 [.agg (api_Rat.c a.Low)] [.own (api_Range.c a)] (.loc (aB false) [] [] 0) (callOk_val (l := []) (args' := [.agg (api_Rat.c a.Low)]) rfl (SnL.cons (Sn.pure rfl) SnL.nil) (fiducialref02_Valid_ok n a.Low false hc2))) ?_
  refine EVO.p1 (.hp 0 0) ?_
  refine EVO.p1 (.agg (api_Rat.c a.Low)) ?_
  refine EVO.c0 (by kernel_rfl) (callOf_at (by kernel_rfl)) ?_
  refine EVO.p1 (aB false) ?_
  refine EVO.s1 ?_
  refine EVO.s1 ?_
  refine EVO.s1 ?_
  refine EVO.p1 (aB false) ?_
  refine EVO.p1 (aB false) ?_
  refine EVO.s1 ?_
  refine EVO.s1 ?_
  refine EVO.s1 ?_
  refine EVO.s1 ?_
  refine EVO.s1 ?_
  refine EVO.s1 ?_
  refine EVO.p1 (aB false) ?_
  refine EVO.p1 (aB false) ?_
  refine EVO.done ?_
  refine CQ.ret ?_
  obtain rfl := Option.some.inj hr
  exact FinQ.r1 [aB false]

theorem fiducialref02_Same_inj {x' : api_Rat} {y : api_Rat} {x'_ : api_Rat} {y_ : api_Rat} (h : ([.agg [.at (.bool x'.Num.Negative), slT (iC .u32) x'.Num.Groups, .at (.bool x'.Den.Negative), slT (iC .u32) x'.Den.Groups], .agg [.at (.bool y.Num.Negative), slT (iC .u32) y.Num.Groups, .at (.bool y.Den.Negative), slT (iC .u32) y.Den.Groups]] : List AV) = [.agg [.at (.bool x'_.Num.Negative), slT (iC .u32) x'_.Num.Groups, .at (.bool x'_.Den.Negative), slT (iC .u32) x'_.Den.Groups], .agg [.at (.bool y_.Num.Negative), slT (iC .u32) y_.Num.Groups, .at (.bool y_.Den.Negative), slT (iC .u32) y_.Den.Groups]]) : x' = x'_ ∧ y = y_ := by
 obtain ⟨⟨_, _⟩, ⟨_, _⟩⟩ := x'
 obtain ⟨⟨_, _⟩, ⟨_, _⟩⟩ := x'_
 obtain ⟨⟨_, _⟩, ⟨_, _⟩⟩ := y
 obtain ⟨⟨_, _⟩, ⟨_, _⟩⟩ := y_
 simp only [List.cons.injEq, AV.agg.injEq, AV.at.injEq, Value.int.injEq, Value.bool.injEq, AV.fn.injEq, AV.pp.injEq, true_and, and_true, slT_inj_int] at h
 simp_all
theorem fiducialref02_Same_ok (n : Nat) (x' : api_Rat) (y : api_Rat) (r : Bool) (hr : fiducialref02_Same n x' y = some r) : FnOk Tryz.prog 40 [.agg [.at (.bool x'.Num.Negative), slT (iC .u32) x'.Num.Groups, .at (.bool x'.Den.Negative), slT (iC .u32) x'.Den.Groups], .agg [.at (.bool y.Num.Negative), slT (iC .u32) y.Num.Groups, .at (.bool y.Den.Negative), slT (iC .u32) y.Den.Groups]] (.at (.bool r)) := by
 unfold fiducialref02_Same at hr
 refine FnOk.body fine Tryz.func40 (c := (Tryz.f40.body).getD .skip) rfl (s := mkS 17 0 [(0, .agg (api_Rat.c x')), (1, .agg (api_Rat.c y))]) (by kernel_rfl) (rs := [.tmp 4]) rfl ?_
 unfold Tryz.f40
 simp only [Option.getD_some]
 refine CQ.seq ?_
 refine CQ.r0 fine ?_
 refine EVO.e1 (.hp 0 0) [(0, .own (api_Rat.c x'))] ?_
 refine EVO.e1 (.hp 1 0) [(1, .own (api_Rat.c y))] ?_
 refine EVO.p1 (aB false) ?_
 refine EVO.done ?_
 refine CQ.n1 [2, 3] (mkS 17 0 [(2, .hp 0 0), (3, .hp 1 0)]) [.own (api_Rat.c x'), .own (api_Rat.c y)] ?_
 refine CQ.seq ?_
 replace hr := bd hr; obtain ⟨v1, hc2, hr⟩ := hr
 rcases Bool.eq_false_or_eq_true v1 with hb3 | hb3
 ·subst hb3
  replace hr := cd_t rfl hr
  replace hr := bd hr; obtain ⟨v4, hc5, hr⟩ := hr
  rcases Bool.eq_false_or_eq_true v4 with hb6 | hb6
  ·subst hb6
   replace hr := cd_t rfl hr
   replace hr := bd hr; obtain ⟨v7, hc8, hr⟩ := hr
   refine CQ.region fine (callOf_ok [{ f := 88, args := [.agg (api_Rat.c x')], H := [.own (api_Rat.c x'), .own (api_Rat.c y)], r := .loc (aB true) [] [] 0 : CE }, { f := 88, args := [.agg (api_Rat.c y)], H := [.own (api_Rat.c x'), .own (api_Rat.c y)], r := .loc (aB true) [] [] 0 : CE }, { f := 54, args := [.agg (api_Rat.c x'), .agg (api_Rat.c y)], H := [.own (api_Rat.c x'), .own (api_Rat.c y)], r := .loc (aI64 v7) [] [] 0 : CE }] (List.forall_mem_cons.2 ⟨(callOk_val (l := []) (args' := [.agg (api_Rat.c x')]) rfl (SnL.cons (Sn.pure rfl) SnL.nil) (fiducialref02_Valid_ok n x' true hc2)), (List.forall_mem_cons.2 ⟨(callOk_val (l := []) (args' := [.agg (api_Rat.c y)]) rfl (SnL.cons (Sn.pure rfl) SnL.nil) (fiducialref02_Valid_ok n y true hc5)), (List.forall_mem_cons.2 ⟨(callOk_val (l := []) (args' := [.agg (api_Rat.c x'), .agg (api_Rat.c y)]) rfl (SnL.cons (Sn.pure rfl) (SnL.cons (Sn.pure rfl) SnL.nil)) (fiducialref02_Compare_ok n x' y v7 hc8)), ce0⟩)⟩)⟩)) ?_
   refine EVO.p1 (.agg (api_Rat.c x')) ?_
   refine EVO.c0 (by kernel_rfl) (callOf_at (by kernel_rfl)) ?_
   refine EVO.p1 (aB true) ?_
   refine EVO.q1 (.agg (api_Rat.c y)) ?_
   refine EVO.cal (by kernel_rfl) (by kernel_rfl) (callOf_skip (fun _ h => by obtain e0 := fiducialref02_Valid_inj h; rw [show true = true from Option.some.inj (hc5.symm.trans ((show fiducialref02_Valid n y = fiducialref02_Valid n x' from (congr rfl e0)).trans hc2))]) (callOf_at (by kernel_rfl))) ?_
   refine EVO.p1 (aB true) ?_
   refine EVO.p1 (aB true) ?_
   refine EVO.q1 (.agg (api_Rat.c x')) ?_
   refine EVO.q1 (.agg (api_Rat.c y)) ?_
   refine EVO.cal (by kernel_rfl) (by kernel_rfl) (callOf_skip (fun h _ => absurd (show (54 : Nat) = 88 from h) (by decide)) (callOf_skip (fun h _ => absurd (show (54 : Nat) = 88 from h) (by decide)) (callOf_at (by kernel_rfl)))) ?_
   refine EVO.q1 (aB ((v7 : Int) == 0)) ?_
   refine EVO.p1 (aB ((v7 : Int) == 0)) ?_
   refine EVO.p1 (aB ((v7 : Int) == 0)) ?_
   refine EVO.done ?_
   refine CQ.ret ?_
   obtain rfl := Option.some.inj hr
   exact FinQ.r1 [aB ((v7 : Int) == 0)]
  ·subst hb6
   replace hr := cd_f rfl hr
   refine CQ.region fine (callOf_ok [{ f := 88, args := [.agg (api_Rat.c x')], H := [.own (api_Rat.c x'), .own (api_Rat.c y)], r := .loc (aB true) [] [] 0 : CE }, { f := 88, args := [.agg (api_Rat.c y)], H := [.own (api_Rat.c x'), .own (api_Rat.c y)], r := .loc (aB false) [] [] 0 : CE }] (List.forall_mem_cons.2 ⟨(callOk_val (l := []) (args' := [.agg (api_Rat.c x')]) rfl (SnL.cons (Sn.pure rfl) SnL.nil) (fiducialref02_Valid_ok n x' true hc2)), (List.forall_mem_cons.2 ⟨(callOk_val (l := []) (args' := [.agg (api_Rat.c y)]) rfl (SnL.cons (Sn.pure rfl) SnL.nil) (fiducialref02_Valid_ok n y false hc5)), ce0⟩)⟩)) ?_
   refine EVO.p1 (.agg (api_Rat.c x')) ?_
   refine EVO.c0 (by kernel_rfl) (callOf_at (by kernel_rfl)) ?_
   refine EVO.p1 (aB true) ?_
   refine EVO.q1 (.agg (api_Rat.c y)) ?_
   refine EVO.cal (by kernel_rfl) (by kernel_rfl) (callOf_skip (fun _ h => by obtain e0 := fiducialref02_Valid_inj h; rw [show false = true from Option.some.inj (hc5.symm.trans ((show fiducialref02_Valid n y = fiducialref02_Valid n x' from (congr rfl e0)).trans hc2))]) (callOf_at (by kernel_rfl))) ?_
   refine EVO.p1 (aB false) ?_
   refine EVO.p1 (aB false) ?_
   refine EVO.s1 ?_
   refine EVO.s1 ?_
   refine EVO.s1 ?_
   refine EVO.s1 ?_
   refine EVO.p1 (aB false) ?_
   refine EVO.p1 (aB false) ?_
   refine EVO.done ?_
   refine CQ.ret ?_
   obtain rfl := Option.some.inj hr
   exact FinQ.r1 [aB false]
 ·subst hb3
  replace hr := cd_f rfl hr
  refine CQ.region fine (callOf_1 88 [.agg (api_Rat.c x')] [.own (api_Rat.c x'), .own (api_Rat.c y)] (.loc (aB false) [] [] 0) (callOk_val (l := []) (args' := [.agg (api_Rat.c x')]) rfl (SnL.cons (Sn.pure rfl) SnL.nil) (fiducialref02_Valid_ok n x' false hc2))) ?_
  refine EVO.p1 (.agg (api_Rat.c x')) ?_
  refine EVO.c0 (by kernel_rfl) (callOf_at (by kernel_rfl)) ?_
  refine EVO.p1 (aB false) ?_
  refine EVO.s1 ?_
  refine EVO.s1 ?_
  refine EVO.p1 (aB false) ?_
  refine EVO.p1 (aB false) ?_
  refine EVO.s1 ?_
  refine EVO.s1 ?_
  refine EVO.s1 ?_
  refine EVO.s1 ?_
  refine EVO.p1 (aB false) ?_
  refine EVO.p1 (aB false) ?_
  refine EVO.done ?_
  refine CQ.ret ?_
  obtain rfl := Option.some.inj hr
  exact FinQ.r1 [aB false]

theorem fiducialref02_SameRange_ok (n : Nat) (a : api_Range) (b : api_Range) (r : Bool) (hr : fiducialref02_SameRange n a b = some r) : FnOk Tryz.prog 53 [.agg [.at (.bool a.Low.Num.Negative), slT (iC .u32) a.Low.Num.Groups, .at (.bool a.Low.Den.Negative), slT (iC .u32) a.Low.Den.Groups, .at (.bool a.High.Num.Negative), slT (iC .u32) a.High.Num.Groups, .at (.bool a.High.Den.Negative), slT (iC .u32) a.High.Den.Groups], .agg [.at (.bool b.Low.Num.Negative), slT (iC .u32) b.Low.Num.Groups, .at (.bool b.Low.Den.Negative), slT (iC .u32) b.Low.Den.Groups, .at (.bool b.High.Num.Negative), slT (iC .u32) b.High.Num.Groups, .at (.bool b.High.Den.Negative), slT (iC .u32) b.High.Den.Groups]] (.at (.bool r)) := by
 unfold fiducialref02_SameRange at hr
 refine FnOk.body fine Tryz.func53 (c := (Tryz.f53.body).getD .skip) rfl (s := mkS 17 0 [(0, .agg (api_Range.c a)), (1, .agg (api_Range.c b))]) (by kernel_rfl) (rs := [.tmp 4]) rfl ?_
 unfold Tryz.f53
 simp only [Option.getD_some]
 refine CQ.seq ?_
 refine CQ.r0 fine ?_
 refine EVO.e1 (.hp 0 0) [(0, .own (api_Range.c a))] ?_
 refine EVO.e1 (.hp 1 0) [(1, .own (api_Range.c b))] ?_
 refine EVO.p1 (aB false) ?_
 refine EVO.done ?_
 refine CQ.n1 [2, 3] (mkS 17 0 [(2, .hp 0 0), (3, .hp 1 0)]) [.own (api_Range.c a), .own (api_Range.c b)] ?_
 refine CQ.seq ?_
 replace hr := bd hr; obtain ⟨v1, hc2, hr⟩ := hr
 rcases Bool.eq_false_or_eq_true v1 with hb3 | hb3
 ·subst hb3
  replace hr := cd_t rfl hr
  replace hr := bd hr; obtain ⟨v4, hc5, hr⟩ := hr
  refine CQ.region fine (callOf_ok [{ f := 40, args := [.agg (api_Rat.c a.Low), .agg (api_Rat.c b.Low)], H := [.own (api_Range.c a), .own (api_Range.c b)], r := .loc (aB true) [] [] 0 : CE }, { f := 40, args := [.agg (api_Rat.c a.High), .agg (api_Rat.c b.High)], H := [.own (api_Range.c a), .own (api_Range.c b)], r := .loc (aB v4) [] [] 0 : CE }] (List.forall_mem_cons.2 ⟨(callOk_val (l := []) (args' := [.agg (api_Rat.c a.Low), .agg (api_Rat.c b.Low)]) rfl (SnL.cons (Sn.pure rfl) (SnL.cons (Sn.pure rfl) SnL.nil)) (fiducialref02_Same_ok n a.Low b.Low true hc2)), (List.forall_mem_cons.2 ⟨(callOk_val (l := []) (args' := [.agg (api_Rat.c a.High), .agg (api_Rat.c b.High)]) rfl (SnL.cons (Sn.pure rfl) (SnL.cons (Sn.pure rfl) SnL.nil)) (fiducialref02_Same_ok n a.High b.High v4 hc5)), ce0⟩)⟩)) ?_
  refine EVO.p1 (.hp 0 0) ?_
  refine EVO.p1 (.agg (api_Rat.c a.Low)) ?_
  refine EVO.p1 (.hp 1 0) ?_
  refine EVO.p1 (.agg (api_Rat.c b.Low)) ?_
  refine EVO.c0 (by kernel_rfl) (callOf_at (by kernel_rfl)) ?_
  refine EVO.p1 (aB true) ?_
  refine EVO.q1 (.hp 0 4) ?_
  refine EVO.q1 (.agg (api_Rat.c a.High)) ?_
  refine EVO.q1 (.hp 1 4) ?_
  refine EVO.q1 (.agg (api_Rat.c b.High)) ?_
  refine EVO.cal (by kernel_rfl) (by kernel_rfl) (callOf_skip (fun _ h => by obtain ⟨e0, e1⟩ := fiducialref02_Same_inj h; rw [show v4 = true from Option.some.inj (hc5.symm.trans ((show fiducialref02_Same n a.High b.High = fiducialref02_Same n a.Low b.Low from (congr (congr rfl e0) e1)).trans hc2))]) (callOf_at (by kernel_rfl))) ?_
  refine EVO.p1 (aB v4) ?_
  refine EVO.p1 (aB v4) ?_
  refine EVO.done ?_
  refine CQ.ret ?_
  obtain rfl := Option.some.inj hr
  exact FinQ.r1 [aB v4]
 ·subst hb3
  replace hr := cd_f rfl hr
  refine CQ.region fine (callOf_1 40 [.agg (api_Rat.c a.Low), .agg (api_Rat.c b.Low)] [.own (api_Range.c a), .own (api_Range.c b)] (.loc (aB false) [] [] 0) (callOk_val (l := []) (args' := [.agg (api_Rat.c a.Low), .agg (api_Rat.c b.Low)]) rfl (SnL.cons (Sn.pure rfl) (SnL.cons (Sn.pure rfl) SnL.nil)) (fiducialref02_Same_ok n a.Low b.Low false hc2))) ?_
  refine EVO.p1 (.hp 0 0) ?_
  refine EVO.p1 (.agg (api_Rat.c a.Low)) ?_
  refine EVO.p1 (.hp 1 0) ?_
  refine EVO.p1 (.agg (api_Rat.c b.Low)) ?_
  refine EVO.c0 (by kernel_rfl) (callOf_at (by kernel_rfl)) ?_
  refine EVO.p1 (aB false) ?_
  refine EVO.s1 ?_
  refine EVO.s1 ?_
  refine EVO.s1 ?_
  refine EVO.s1 ?_
  refine EVO.s1 ?_
  refine EVO.p1 (aB false) ?_
  refine EVO.p1 (aB false) ?_
  refine EVO.done ?_
  refine CQ.ret ?_
  obtain rfl := Option.some.inj hr
  exact FinQ.r1 [aB false]

theorem fiducialref03_Same_inj {a : api_Range} {b : api_Range} {a_ : api_Range} {b_ : api_Range} (h : ([.agg [.at (.bool a.Low.Num.Negative), slT (iC .u32) a.Low.Num.Groups, .at (.bool a.Low.Den.Negative), slT (iC .u32) a.Low.Den.Groups, .at (.bool a.High.Num.Negative), slT (iC .u32) a.High.Num.Groups, .at (.bool a.High.Den.Negative), slT (iC .u32) a.High.Den.Groups], .agg [.at (.bool b.Low.Num.Negative), slT (iC .u32) b.Low.Num.Groups, .at (.bool b.Low.Den.Negative), slT (iC .u32) b.Low.Den.Groups, .at (.bool b.High.Num.Negative), slT (iC .u32) b.High.Num.Groups, .at (.bool b.High.Den.Negative), slT (iC .u32) b.High.Den.Groups]] : List AV) = [.agg [.at (.bool a_.Low.Num.Negative), slT (iC .u32) a_.Low.Num.Groups, .at (.bool a_.Low.Den.Negative), slT (iC .u32) a_.Low.Den.Groups, .at (.bool a_.High.Num.Negative), slT (iC .u32) a_.High.Num.Groups, .at (.bool a_.High.Den.Negative), slT (iC .u32) a_.High.Den.Groups], .agg [.at (.bool b_.Low.Num.Negative), slT (iC .u32) b_.Low.Num.Groups, .at (.bool b_.Low.Den.Negative), slT (iC .u32) b_.Low.Den.Groups, .at (.bool b_.High.Num.Negative), slT (iC .u32) b_.High.Num.Groups, .at (.bool b_.High.Den.Negative), slT (iC .u32) b_.High.Den.Groups]]) : a = a_ ∧ b = b_ := by
 obtain ⟨⟨⟨_, _⟩, ⟨_, _⟩⟩, ⟨⟨_, _⟩, ⟨_, _⟩⟩⟩ := a
 obtain ⟨⟨⟨_, _⟩, ⟨_, _⟩⟩, ⟨⟨_, _⟩, ⟨_, _⟩⟩⟩ := a_
 obtain ⟨⟨⟨_, _⟩, ⟨_, _⟩⟩, ⟨⟨_, _⟩, ⟨_, _⟩⟩⟩ := b
 obtain ⟨⟨⟨_, _⟩, ⟨_, _⟩⟩, ⟨⟨_, _⟩, ⟨_, _⟩⟩⟩ := b_
 simp only [List.cons.injEq, AV.agg.injEq, AV.at.injEq, Value.int.injEq, Value.bool.injEq, AV.fn.injEq, AV.pp.injEq, true_and, and_true, slT_inj_int] at h
 simp_all
theorem fiducialref03_Same_ok (n : Nat) (a : api_Range) (b : api_Range) (r : Bool) (hr : fiducialref03_Same n a b = some r) : FnOk Tryz.prog 17 [.agg [.at (.bool a.Low.Num.Negative), slT (iC .u32) a.Low.Num.Groups, .at (.bool a.Low.Den.Negative), slT (iC .u32) a.Low.Den.Groups, .at (.bool a.High.Num.Negative), slT (iC .u32) a.High.Num.Groups, .at (.bool a.High.Den.Negative), slT (iC .u32) a.High.Den.Groups], .agg [.at (.bool b.Low.Num.Negative), slT (iC .u32) b.Low.Num.Groups, .at (.bool b.Low.Den.Negative), slT (iC .u32) b.Low.Den.Groups, .at (.bool b.High.Num.Negative), slT (iC .u32) b.High.Num.Groups, .at (.bool b.High.Den.Negative), slT (iC .u32) b.High.Den.Groups]] (.at (.bool r)) := by
 unfold fiducialref03_Same at hr
 refine FnOk.body fine Tryz.func17 (c := (Tryz.f17.body).getD .skip) rfl (s := mkS 16 0 [(0, .agg (api_Range.c a)), (1, .agg (api_Range.c b))]) (by kernel_rfl) (rs := [.tmp 4]) rfl ?_
 unfold Tryz.f17
 simp only [Option.getD_some]
 refine CQ.seq ?_
 refine CQ.r0 fine ?_
 refine EVO.e1 (.hp 0 0) [(0, .own (api_Range.c a))] ?_
 refine EVO.e1 (.hp 1 0) [(1, .own (api_Range.c b))] ?_
 refine EVO.p1 (aB false) ?_
 refine EVO.done ?_
 refine CQ.n1 [2, 3] (mkS 16 0 [(2, .hp 0 0), (3, .hp 1 0)]) [.own (api_Range.c a), .own (api_Range.c b)] ?_
 refine CQ.seq ?_
 replace hr := bd hr; obtain ⟨v1, hc2, hr⟩ := hr
 rcases Bool.eq_false_or_eq_true v1 with hb3 | hb3
 ·subst hb3
  replace hr := cd_t rfl hr
  replace hr := bd hr; obtain ⟨v4, hc5, hr⟩ := hr
  rcases Bool.eq_false_or_eq_true v4 with hb6 | hb6
  ·subst hb6
   replace hr := cd_t rfl hr
   replace hr := bd hr; obtain ⟨v7, hc8, hr⟩ := hr
   refine CQ.region fine (callOf_ok [{ f := 52, args := [.agg (api_Range.c a)], H := [.own (api_Range.c a), .own (api_Range.c b)], r := .loc (aB true) [] [] 0 : CE }, { f := 52, args := [.agg (api_Range.c b)], H := [.own (api_Range.c a), .own (api_Range.c b)], r := .loc (aB true) [] [] 0 : CE }, { f := 53, args := [.agg (api_Range.c a), .agg (api_Range.c b)], H := [.own (api_Range.c a), .own (api_Range.c b)], r := .loc (aB v7) [] [] 0 : CE }] (List.forall_mem_cons.2 ⟨(callOk_val (l := []) (args' := [.agg (api_Range.c a)]) rfl (SnL.cons (Sn.pure rfl) SnL.nil) (fiducialref03_Valid_ok n a true hc2)), (List.forall_mem_cons.2 ⟨(callOk_val (l := []) (args' := [.agg (api_Range.c b)]) rfl (SnL.cons (Sn.pure rfl) SnL.nil) (fiducialref03_Valid_ok n b true hc5)), (List.forall_mem_cons.2 ⟨(callOk_val (l := []) (args' := [.agg (api_Range.c a), .agg (api_Range.c b)]) rfl (SnL.cons (Sn.pure rfl) (SnL.cons (Sn.pure rfl) SnL.nil)) (fiducialref02_SameRange_ok n a b v7 hc8)), ce0⟩)⟩)⟩)) ?_
   refine EVO.p1 (.agg (api_Range.c a)) ?_
   refine EVO.c0 (by kernel_rfl) (callOf_at (by kernel_rfl)) ?_
   refine EVO.p1 (aB true) ?_
   refine EVO.q1 (.agg (api_Range.c b)) ?_
   refine EVO.cal (by kernel_rfl) (by kernel_rfl) (callOf_skip (fun _ h => by obtain e0 := fiducialref03_Valid_inj h; rw [show true = true from Option.some.inj (hc5.symm.trans ((show fiducialref03_Valid n b = fiducialref03_Valid n a from (congr rfl e0)).trans hc2))]) (callOf_at (by kernel_rfl))) ?_
   refine EVO.p1 (aB true) ?_
   refine EVO.p1 (aB true) ?_
   refine EVO.q1 (.agg (api_Range.c a)) ?_
   refine EVO.q1 (.agg (api_Range.c b)) ?_
   refine EVO.cal (by kernel_rfl) (by kernel_rfl) (callOf_skip (fun h _ => absurd (show (53 : Nat) = 52 from h) (by decide)) (callOf_skip (fun h _ => absurd (show (53 : Nat) = 52 from h) (by decide)) (callOf_at (by kernel_rfl)))) ?_
   refine EVO.p1 (aB v7) ?_
   refine EVO.p1 (aB v7) ?_
   refine EVO.done ?_
   refine CQ.ret ?_
   obtain rfl := Option.some.inj hr
   exact FinQ.r1 [aB v7]
  ·subst hb6
   replace hr := cd_f rfl hr
   refine CQ.region fine (callOf_ok [{ f := 52, args := [.agg (api_Range.c a)], H := [.own (api_Range.c a), .own (api_Range.c b)], r := .loc (aB true) [] [] 0 : CE }, { f := 52, args := [.agg (api_Range.c b)], H := [.own (api_Range.c a), .own (api_Range.c b)], r := .loc (aB false) [] [] 0 : CE }] (List.forall_mem_cons.2 ⟨(callOk_val (l := []) (args' := [.agg (api_Range.c a)]) rfl (SnL.cons (Sn.pure rfl) SnL.nil) (fiducialref03_Valid_ok n a true hc2)), (List.forall_mem_cons.2 ⟨(callOk_val (l := []) (args' := [.agg (api_Range.c b)]) rfl (SnL.cons (Sn.pure rfl) SnL.nil) (fiducialref03_Valid_ok n b false hc5)), ce0⟩)⟩)) ?_
   refine EVO.p1 (.agg (api_Range.c a)) ?_
   refine EVO.c0 (by kernel_rfl) (callOf_at (by kernel_rfl)) ?_
   refine EVO.p1 (aB true) ?_
   refine EVO.q1 (.agg (api_Range.c b)) ?_
   refine EVO.cal (by kernel_rfl) (by kernel_rfl) (callOf_skip (fun _ h => by obtain e0 := fiducialref03_Valid_inj h; rw [show false = true from Option.some.inj (hc5.symm.trans ((show fiducialref03_Valid n b = fiducialref03_Valid n a from (congr rfl e0)).trans hc2))]) (callOf_at (by kernel_rfl))) ?_
   refine EVO.p1 (aB false) ?_
   refine EVO.p1 (aB false) ?_
   refine EVO.s1 ?_
   refine EVO.s1 ?_
   refine EVO.s1 ?_
   refine EVO.p1 (aB false) ?_
   refine EVO.p1 (aB false) ?_
   refine EVO.done ?_
   refine CQ.ret ?_
   obtain rfl := Option.some.inj hr
   exact FinQ.r1 [aB false]
 ·subst hb3
  replace hr := cd_f rfl hr
  refine CQ.region fine (callOf_1 52 [.agg (api_Range.c a)] [.own (api_Range.c a), .own (api_Range.c b)] (.loc (aB false) [] [] 0) (callOk_val (l := []) (args' := [.agg (api_Range.c a)]) rfl (SnL.cons (Sn.pure rfl) SnL.nil) (fiducialref03_Valid_ok n a false hc2))) ?_
  refine EVO.p1 (.agg (api_Range.c a)) ?_
  refine EVO.c0 (by kernel_rfl) (callOf_at (by kernel_rfl)) ?_
  refine EVO.p1 (aB false) ?_
  refine EVO.s1 ?_
  refine EVO.s1 ?_
  refine EVO.p1 (aB false) ?_
  refine EVO.p1 (aB false) ?_
  refine EVO.s1 ?_
  refine EVO.s1 ?_
  refine EVO.s1 ?_
  refine EVO.p1 (aB false) ?_
  refine EVO.p1 (aB false) ?_
  refine EVO.done ?_
  refine CQ.ret ?_
  obtain rfl := Option.some.inj hr
  exact FinQ.r1 [aB false]

theorem fiduciallaw59_known_ok (n : Nat) (r : Bool) (hr : fiduciallaw59_known n = some r) : FnOk Tryz.prog 12 [] (.at (.bool r)) := by
 unfold fiduciallaw59_known at hr
 refine FnOk.body fine Tryz.func12 (c := (Tryz.f12.body).getD .skip) rfl (s := mkS 64 0 []) (by kernel_rfl) (rs := [.tmp 0]) rfl ?_
 unfold Tryz.f12
 simp only [Option.getD_some]
 refine CQ.seq ?_
 refine CQ.r0 fine ?_
 refine EVO.p1 (aB false) ?_
 refine EVO.done ?_
 refine CQ.n1 [] (mkS 64 0 []) [] ?_
 refine CQ.seq ?_
 replace hr := bd hr; obtain ⟨v1, hc2, hr⟩ := hr
 replace hr := bd hr; obtain ⟨v3, hc4, hr⟩ := hr
 refine CQ.region fine (callOf_ok [{ f := 45, args := [aI64 1, .hs 0 0 4 1], H := [.own [aI64 0, aI64 0, aI64 0, aI64 0]], r := .loc (.agg (api_Banded.c v1)) [(0, .fix [aI64 0, aI64 0, aI64 0, aI64 0])] [0] 0 : CE }, { f := 45, args := [aI64 1, .hs 1 0 4 1], H := [.fix [aI64 0, aI64 0, aI64 0, aI64 0], .own [aI64 0, aI64 5, aI64 (-3), aI64 2]], r := .loc (.agg (api_Banded.c v3)) [(1, .fix [aI64 0, aI64 5, aI64 (-3), aI64 2])] [1] 0 : CE }] (List.forall_mem_cons.2 ⟨(callOk_ref (l := [0]) (args' := [aI64 1, sI64 [0, 0, 0, 0]]) (SnL.cons (Sn.pure rfl) (SnL.cons (Sn.hs rfl (.inl rfl) (SnC.cons (Sn.pure rfl) (SnC.cons (Sn.pure rfl) (SnC.cons (Sn.pure rfl) (SnC.cons (Sn.pure rfl) SnC.nil)))) (fun h => nomatch h)) SnL.nil)) (fiduciallaw59_banded_ok n 1 [0, 0, 0, 0] v1 hc2)), (List.forall_mem_cons.2 ⟨(callOk_ref (l := [1]) (args' := [aI64 1, sI64 [0, 5, (-3), 2]]) (SnL.cons (Sn.pure rfl) (SnL.cons (Sn.hs rfl (.inl rfl) (SnC.cons (Sn.pure rfl) (SnC.cons (Sn.pure rfl) (SnC.cons (Sn.pure rfl) (SnC.cons (Sn.pure rfl) SnC.nil)))) (fun h => nomatch h)) SnL.nil)) (fiduciallaw59_banded_ok n 1 [0, 5, (-3), 2] v3 hc4)), ce0⟩)⟩)) ?_
 refine EVO.e1 (.hs 0 0 4 1) [(0, .own [aI64 0, aI64 0, aI64 0, aI64 0])] ?_
 refine EVO.c0 (by kernel_rfl) (callOf_at (by kernel_rfl)) ?_
 refine EVO.e1 (.hs 1 0 4 1) [(1, .own [aI64 0, aI64 5, aI64 (-3), aI64 2])] ?_
 refine EVO.c0 (by kernel_rfl) (callOf_skip (fun _ h => by simp at h) (callOf_at (by kernel_rfl))) ?_
 refine EVO.e1 (.hp 2 0) [(2, .own [aI64 0, aI64 0, aI64 0, aI64 0, aI64 0, .at (.slice none 0 0), .at (.slice none 0 0)])] ?_
 refine EVO.e1 (.hp 3 0) [(3, .own [aI64 0, aI64 0, aI64 0, aI64 0, aI64 0, .at (.slice none 0 0), .at (.slice none 0 0)])] ?_
 refine EVO.e1 (.unk) [(2, .own (api_Banded.c v1))] ?_
 refine EVO.e1 (.unk) [(3, .own (api_Banded.c v3))] ?_
 refine EVO.done ?_
 refine CQ.n1 [1, 2] (mkS 64 0 [(1, .hp 2 0), (2, .hp 3 0)]) [.fix [aI64 0, aI64 0, aI64 0, aI64 0], .fix [aI64 0, aI64 5, aI64 (-3), aI64 2], .own (api_Banded.c v1), .own (api_Banded.c v3)] ?_
 refine CQ.seq ?_
 replace hr := bd hr; obtain ⟨v5, hc6, hr⟩ := hr
 refine CQ.region fine (callOf_1 25 [.agg (api_Banded.c v1), .agg (api_Banded.c v3)] [.fix [aI64 0, aI64 0, aI64 0, aI64 0], .fix [aI64 0, aI64 5, aI64 (-3), aI64 2], .own (api_Banded.c v1), .own (api_Banded.c v3)] (.loc (.tup [sI64 v5.1, aI64 v5.2]) [] [] 0) (callOk_ref (l := []) (args' := [.agg (api_Banded.c v1), .agg (api_Banded.c v3)]) (SnL.cons (Sn.pure rfl) (SnL.cons (Sn.pure rfl) SnL.nil)) (change_Compare_ok n v1 v3 v5 hc6))) ?_
 refine EVO.p1 (.agg (api_Banded.c v1)) ?_
 refine EVO.p1 (.agg (api_Banded.c v3)) ?_
 refine EVO.c0 (by kernel_rfl) (callOf_at (by kernel_rfl)) ?_
 refine EVO.p1 (.tup [sI64 v5.1, aI64 v5.2]) ?_
 refine EVO.p1 (sI64 v5.1) ?_
 refine EVO.p1 (aI64 v5.2) ?_
 refine EVO.p1 (sI64 v5.1) ?_
 refine EVO.p1 (aI64 v5.2) ?_
 refine EVO.done ?_
 refine CQ.n1 [1, 2, 3, 4] (mkS 64 0 [(1, .hp 2 0), (2, .hp 3 0), (3, sI64 v5.1), (4, aI64 v5.2)]) [.fix [aI64 0, aI64 0, aI64 0, aI64 0], .fix [aI64 0, aI64 5, aI64 (-3), aI64 2], .own (api_Banded.c v1), .own (api_Banded.c v3)] ?_
 refine CQ.seq ?_
 replace hr := bd hr; obtain ⟨v7, hc8, hr⟩ := hr
 refine CQ.region fine (callOf_1 14 [.agg (api_Banded.c v1), .agg (api_Banded.c v3), .hs 4 0 4 1] [.fix [aI64 0, aI64 0, aI64 0, aI64 0], .fix [aI64 0, aI64 5, aI64 (-3), aI64 2], .own (api_Banded.c v1), .own (api_Banded.c v3), .own [aB true, aB true, aB true, aB true]] (.loc (.tup [.agg (api_Range.c v7.1), aI64 v7.2]) [(4, .fix [aB true, aB true, aB true, aB true])] [4] 0) (callOk_ref (l := [4]) (args' := [.agg (api_Banded.c v1), .agg (api_Banded.c v3), slT bC [true, true, true, true]]) (SnL.cons (Sn.pure rfl) (SnL.cons (Sn.pure rfl) (SnL.cons (Sn.hs rfl (.inl rfl) (SnC.cons (Sn.pure rfl) (SnC.cons (Sn.pure rfl) (SnC.cons (Sn.pure rfl) (SnC.cons (Sn.pure rfl) SnC.nil)))) (fun h => nomatch h)) SnL.nil))) (change_Volume_ok n v1 v3 [true, true, true, true] v7 hc8))) ?_
 refine EVO.p1 (.agg (api_Banded.c v1)) ?_
 refine EVO.p1 (.agg (api_Banded.c v3)) ?_
 refine EVO.e1 (.hs 4 0 4 1) [(4, .own [aB true, aB true, aB true, aB true])] ?_
 refine EVO.c0 (by kernel_rfl) (callOf_at (by kernel_rfl)) ?_
 refine EVO.p1 (.tup [.agg (api_Range.c v7.1), aI64 v7.2]) ?_
 refine EVO.p1 (.agg (api_Range.c v7.1)) ?_
 refine EVO.p1 (aI64 v7.2) ?_
 refine EVO.e1 (.hp 5 0) [(5, .own [aB false, .at (.slice none 0 0), aB false, .at (.slice none 0 0), aB false, .at (.slice none 0 0), aB false, .at (.slice none 0 0)])] ?_
 refine EVO.e1 (.unk) [(5, .own (api_Range.c v7.1))] ?_
 refine EVO.p1 (aI64 v7.2) ?_
 refine EVO.done ?_
 refine CQ.n1 [1, 2, 3, 4, 5, 6] (mkS 64 0 [(1, .hp 2 0), (2, .hp 3 0), (3, sI64 v5.1), (4, aI64 v5.2), (5, .hp 5 0), (6, aI64 v7.2)]) [.fix [aI64 0, aI64 0, aI64 0, aI64 0], .fix [aI64 0, aI64 5, aI64 (-3), aI64 2], .own (api_Banded.c v1), .own (api_Banded.c v3), .fix [aB true, aB true, aB true, aB true], .own (api_Range.c v7.1)] ?_
 refine CQ.seq ?_
 replace hr := bd hr; obtain ⟨v9, hc10, hr⟩ := hr
 refine CQ.region fine (callOf_1 23 [.agg (api_Banded.c v1), .agg (api_Banded.c v3)] [.fix [aI64 0, aI64 0, aI64 0, aI64 0], .fix [aI64 0, aI64 5, aI64 (-3), aI64 2], .own (api_Banded.c v1), .own (api_Banded.c v3), .fix [aB true, aB true, aB true, aB true], .own (api_Range.c v7.1)] (.loc (.tup [.agg (api_Range.c v9.1), .agg (api_Range.c v9.2.1), aI64 v9.2.2]) [] [] 0) (callOk_ref (l := []) (args' := [.agg (api_Banded.c v1), .agg (api_Banded.c v3)]) (SnL.cons (Sn.pure rfl) (SnL.cons (Sn.pure rfl) SnL.nil)) (change_Total_ok n v1 v3 v9 hc10))) ?_
 refine EVO.p1 (.agg (api_Banded.c v1)) ?_
 refine EVO.p1 (.agg (api_Banded.c v3)) ?_
 refine EVO.c0 (by kernel_rfl) (callOf_at (by kernel_rfl)) ?_
 refine EVO.p1 (.tup [.agg (api_Range.c v9.1), .agg (api_Range.c v9.2.1), aI64 v9.2.2]) ?_
 refine EVO.p1 (.agg (api_Range.c v9.1)) ?_
 refine EVO.p1 (.agg (api_Range.c v9.2.1)) ?_
 refine EVO.p1 (aI64 v9.2.2) ?_
 refine EVO.e1 (.hp 6 0) [(6, .own [aB false, .at (.slice none 0 0), aB false, .at (.slice none 0 0), aB false, .at (.slice none 0 0), aB false, .at (.slice none 0 0)])] ?_
 refine EVO.e1 (.hp 7 0) [(7, .own [aB false, .at (.slice none 0 0), aB false, .at (.slice none 0 0), aB false, .at (.slice none 0 0), aB false, .at (.slice none 0 0)])] ?_
 refine EVO.e1 (.unk) [(6, .own (api_Range.c v9.1))] ?_
 refine EVO.e1 (.unk) [(7, .own (api_Range.c v9.2.1))] ?_
 refine EVO.p1 (aI64 v9.2.2) ?_
 refine EVO.done ?_
 refine CQ.n1 [3, 4, 5, 6, 7, 8, 9] (mkS 64 0 [(3, sI64 v5.1), (4, aI64 v5.2), (5, .hp 5 0), (6, aI64 v7.2), (7, .hp 6 0), (8, .hp 7 0), (9, aI64 v9.2.2)]) [.fix [aI64 0, aI64 0, aI64 0, aI64 0], .fix [aI64 0, aI64 5, aI64 (-3), aI64 2], .own (api_Banded.c v1), .own (api_Banded.c v3), .fix [aB true, aB true, aB true, aB true], .own (api_Range.c v7.1), .own (api_Range.c v9.1), .own (api_Range.c v9.2.1)] ?_
 refine CQ.seq ?_
 rcases Bool.eq_false_or_eq_true ((v5.2 : Int) == 0) with hb11 | hb11
 ·replace hr := cd_t hb11 hr
  rcases Bool.eq_false_or_eq_true ((v7.2 : Int) == 0) with hb12 | hb12
  ·replace hr := cd_t hb12 hr
   rcases Bool.eq_false_or_eq_true ((v9.2.2 : Int) == 0) with hb13 | hb13
   ·replace hr := cd_t hb13 hr
    replace hr := bd hr; obtain ⟨v14, hc15, hr⟩ := hr
    rcases Bool.eq_false_or_eq_true v14 with hb16 | hb16
    ·subst hb16
     replace hr := cd_t rfl hr
     replace hr := bd hr; obtain ⟨v17, hc18, hr⟩ := hr
     replace hr := bd hr; obtain ⟨v19, hc20, hr⟩ := hr
     rcases Bool.eq_false_or_eq_true v19 with hb21 | hb21
     ·subst hb21
      replace hr := cd_t rfl hr
      replace hr := bd hr; obtain ⟨v22, hc23, hr⟩ := hr
      replace hr := bd hr; obtain ⟨v24, hc25, hr⟩ := hr
      rcases Bool.eq_false_or_eq_true v24 with hb26 | hb26
      ·subst hb26
       replace hr := cd_t rfl hr
       replace hr := bd hr; obtain ⟨v27, hc28, hr⟩ := hr
       replace hr := bd hr; obtain ⟨v29, hc30, hr⟩ := hr
       refine CQ.regionT fine (callOf_ok [{ f := 46, args := [sI64 v5.1, .hs 8 0 4 1], H := [.fix [aI64 0, aI64 0, aI64 0, aI64 0], .fix [aI64 0, aI64 5, aI64 (-3), aI64 2], .own (api_Banded.c v1), .own (api_Banded.c v3), .fix [aB true, aB true, aB true, aB true], .own (api_Range.c v7.1), .own (api_Range.c v9.1), .own (api_Range.c v9.2.1), .own [aI64 0, aI64 1, aI64 2, aI64 0]], r := .loc (aB true) [] [8] 0 : CE }, { f := 47, args := [aI64 (-16), aI64 48], H := [.fix [aI64 0, aI64 0, aI64 0, aI64 0], .fix [aI64 0, aI64 5, aI64 (-3), aI64 2], .own (api_Banded.c v1), .own (api_Banded.c v3), .fix [aB true, aB true, aB true, aB true], .own (api_Range.c v7.1), .own (api_Range.c v9.1), .own (api_Range.c v9.2.1), .own [aI64 0, aI64 1, aI64 2, aI64 0]], r := .loc (.agg (api_Range.c v17)) [] [] 0 : CE }, { f := 17, args := [.agg (api_Range.c v7.1), .agg (api_Range.c v17)], H := [.fix [aI64 0, aI64 0, aI64 0, aI64 0], .fix [aI64 0, aI64 5, aI64 (-3), aI64 2], .own (api_Banded.c v1), .own (api_Banded.c v3), .fix [aB true, aB true, aB true, aB true], .own (api_Range.c v7.1), .own (api_Range.c v9.1), .own (api_Range.c v9.2.1), .own [aI64 0, aI64 1, aI64 2, aI64 0]], r := .loc (aB true) [] [] 0 : CE }, { f := 47, args := [aI64 12, aI64 52], H := [.fix [aI64 0, aI64 0, aI64 0, aI64 0], .fix [aI64 0, aI64 5, aI64 (-3), aI64 2], .own (api_Banded.c v1), .own (api_Banded.c v3), .fix [aB true, aB true, aB true, aB true], .own (api_Range.c v7.1), .own (api_Range.c v9.1), .own (api_Range.c v9.2.1), .own [aI64 0, aI64 1, aI64 2, aI64 0]], r := .loc (.agg (api_Range.c v22)) [] [] 0 : CE }, { f := 17, args := [.agg (api_Range.c v9.1), .agg (api_Range.c v22)], H := [.fix [aI64 0, aI64 0, aI64 0, aI64 0], .fix [aI64 0, aI64 5, aI64 (-3), aI64 2], .own (api_Banded.c v1), .own (api_Banded.c v3), .fix [aB true, aB true, aB true, aB true], .own (api_Range.c v7.1), .own (api_Range.c v9.1), .own (api_Range.c v9.2.1), .own [aI64 0, aI64 1, aI64 2, aI64 0]], r := .loc (aB true) [] [] 0 : CE }, { f := 47, args := [aI64 4, aI64 28], H := [.fix [aI64 0, aI64 0, aI64 0, aI64 0], .fix [aI64 0, aI64 5, aI64 (-3), aI64 2], .own (api_Banded.c v1), .own (api_Banded.c v3), .fix [aB true, aB true, aB true, aB true], .own (api_Range.c v7.1), .own (api_Range.c v9.1), .own (api_Range.c v9.2.1), .own [aI64 0, aI64 1, aI64 2, aI64 0]], r := .loc (.agg (api_Range.c v27)) [] [] 0 : CE }, { f := 17, args := [.agg (api_Range.c v9.2.1), .agg (api_Range.c v27)], H := [.fix [aI64 0, aI64 0, aI64 0, aI64 0], .fix [aI64 0, aI64 5, aI64 (-3), aI64 2], .own (api_Banded.c v1), .own (api_Banded.c v3), .fix [aB true, aB true, aB true, aB true], .own (api_Range.c v7.1), .own (api_Range.c v9.1), .own (api_Range.c v9.2.1), .own [aI64 0, aI64 1, aI64 2, aI64 0]], r := .loc (aB v29) [] [] 0 : CE }] (List.forall_mem_cons.2 ⟨(callOk_val (l := [8]) (args' := [sI64 v5.1, sI64 [0, 1, 2, 0]]) rfl (SnL.cons (Sn.pure rfl) (SnL.cons (Sn.hs rfl (.inl rfl) (SnC.cons (Sn.pure rfl) (SnC.cons (Sn.pure rfl) (SnC.cons (Sn.pure rfl) (SnC.cons (Sn.pure rfl) SnC.nil)))) (fun h => nomatch h)) SnL.nil)) (slices_Equal_fiducial_api_Verdict_fiducial_api_Verdict_ok n v5.1 [0, 1, 2, 0] true hc15)), (List.forall_mem_cons.2 ⟨(callOk_ref (l := []) (args' := [aI64 (-16), aI64 48]) (SnL.cons (Sn.pure rfl) (SnL.cons (Sn.pure rfl) SnL.nil)) (fiducialref03_Whole_ok n (-16) 48 v17 hc18)), (List.forall_mem_cons.2 ⟨(callOk_val (l := []) (args' := [.agg (api_Range.c v7.1), .agg (api_Range.c v17)]) rfl (SnL.cons (Sn.pure rfl) (SnL.cons (Sn.pure rfl) SnL.nil)) (fiducialref03_Same_ok n v7.1 v17 true hc20)), (List.forall_mem_cons.2 ⟨(callOk_ref (l := []) (args' := [aI64 12, aI64 52]) (SnL.cons (Sn.pure rfl) (SnL.cons (Sn.pure rfl) SnL.nil)) (fiducialref03_Whole_ok n 12 52 v22 hc23)), (List.forall_mem_cons.2 ⟨(callOk_val (l := []) (args' := [.agg (api_Range.c v9.1), .agg (api_Range.c v22)]) rfl (SnL.cons (Sn.pure rfl) (SnL.cons (Sn.pure rfl) SnL.nil)) (fiducialref03_Same_ok n v9.1 v22 true hc25)), (List.forall_mem_cons.2 ⟨(callOk_ref (l := []) (args' := [aI64 4, aI64 28]) (SnL.cons (Sn.pure rfl) (SnL.cons (Sn.pure rfl) SnL.nil)) (fiducialref03_Whole_ok n 4 28 v27 hc28)), (List.forall_mem_cons.2 ⟨(callOk_val (l := []) (args' := [.agg (api_Range.c v9.2.1), .agg (api_Range.c v27)]) rfl (SnL.cons (Sn.pure rfl) (SnL.cons (Sn.pure rfl) SnL.nil)) (fiducialref03_Same_ok n v9.2.1 v27 v29 hc30)), ce0⟩)⟩)⟩)⟩)⟩)⟩)⟩)) ?_
       refine EVT.p1 (aI64 v5.2) ?_
       refine EVT.pure (v := aB true) (by kernel_rfl) (Eq.trans (b := some (.pure (aB ((v5.2 : Int) == 0)))) (by kernel_rfl) (by rw [hb11])) (by kernel_rfl) ?_
       refine EVT.p1 (aB true) ?_
       refine EVT.p1 (aI64 v7.2) ?_
       refine EVT.pure (v := aB true) (by kernel_rfl) (Eq.trans (b := some (.pure (aB ((v7.2 : Int) == 0)))) (by kernel_rfl) (by rw [hb12])) (by kernel_rfl) ?_
       refine EVT.p1 (aB true) ?_
       refine EVT.p1 (aB true) ?_
       refine EVT.p1 (aI64 v9.2.2) ?_
       refine EVT.pure (v := aB true) (by kernel_rfl) (Eq.trans (b := some (.pure (aB ((v9.2.2 : Int) == 0)))) (by kernel_rfl) (by rw [hb13])) (by kernel_rfl) ?_
       refine EVT.p1 (aB true) ?_
       refine EVT.p1 (aB true) ?_
       refine EVT.p1 (sI64 v5.1) ?_
       refine EVT.e1 (.hs 8 0 4 1) [(8, .own [aI64 0, aI64 1, aI64 2, aI64 0])] ?_
       refine EVT.cal (by kernel_rfl) (by kernel_rfl) (callOf_at (by kernel_rfl)) (by kernel_rfl) ?_
       refine EVT.p1 (aB true) ?_
       refine EVT.p1 (aB true) ?_
       refine EVT.p1 (.agg (api_Range.c v7.1)) ?_
       refine EVT.cal (by kernel_rfl) (by kernel_rfl) (callOf_skip (fun h _ => absurd (show (47 : Nat) = 46 from h) (by decide)) (callOf_at (by kernel_rfl))) (by kernel_rfl) ?_
       refine EVT.cal (by kernel_rfl) (by kernel_rfl) (callOf_skip (fun h _ => absurd (show (17 : Nat) = 46 from h) (by decide)) (callOf_skip (fun h _ => absurd (show (17 : Nat) = 47 from h) (by decide)) (callOf_at (by kernel_rfl)))) (by kernel_rfl) ?_
       refine EVT.p1 (aB true) ?_
       refine EVT.p1 (aB true) ?_
       refine EVT.p1 (.agg (api_Range.c v9.1)) ?_
       refine EVT.cal (by kernel_rfl) (by kernel_rfl) (callOf_skip (fun h _ => absurd (show (47 : Nat) = 46 from h) (by decide)) (callOf_skip (fun _ h => by obtain ⟨e0, e1⟩ := fiducialref03_Whole_inj h; rw [show v22 = v17 from Option.some.inj (hc23.symm.trans ((show fiducialref03_Whole n 12 52 = fiducialref03_Whole n (-16) 48 from (congr (congr rfl e0) e1)).trans hc18))]) (callOf_skip (fun h _ => absurd (show (47 : Nat) = 17 from h) (by decide)) (callOf_at (by kernel_rfl))))) (by kernel_rfl) ?_
       refine EVT.cal (by kernel_rfl) (by kernel_rfl) (callOf_skip (fun h _ => absurd (show (17 : Nat) = 46 from h) (by decide)) (callOf_skip (fun h _ => absurd (show (17 : Nat) = 47 from h) (by decide)) (callOf_skip (fun _ h => by obtain ⟨e0, e1⟩ := fiducialref03_Same_inj h; rw [show true = true from Option.some.inj (hc25.symm.trans ((show fiducialref03_Same n v9.1 v22 = fiducialref03_Same n v7.1 v17 from (congr (congr rfl e0) e1)).trans hc20))]) (callOf_skip (fun h _ => absurd (show (17 : Nat) = 47 from h) (by decide)) (callOf_at (by kernel_rfl)))))) (by kernel_rfl) ?_
       refine EVT.p1 (aB true) ?_
       refine EVT.p1 (aB true) ?_
       refine EVT.p1 (.agg (api_Range.c v9.2.1)) ?_
       refine EVT.cal (by kernel_rfl) (by kernel_rfl) (callOf_skip (fun h _ => absurd (show (47 : Nat) = 46 from h) (by decide)) (callOf_skip (fun _ h => by obtain ⟨e0, e1⟩ := fiducialref03_Whole_inj h; rw [show v27 = v17 from Option.some.inj (hc28.symm.trans ((show fiducialref03_Whole n 4 28 = fiducialref03_Whole n (-16) 48 from (congr (congr rfl e0) e1)).trans hc18))]) (callOf_skip (fun h _ => absurd (show (47 : Nat) = 17 from h) (by decide)) (callOf_skip (fun _ h => by obtain ⟨e0, e1⟩ := fiducialref03_Whole_inj h; rw [show v27 = v22 from Option.some.inj (hc28.symm.trans ((show fiducialref03_Whole n 4 28 = fiducialref03_Whole n 12 52 from (congr (congr rfl e0) e1)).trans hc23))]) (callOf_skip (fun h _ => absurd (show (47 : Nat) = 17 from h) (by decide)) (callOf_at (by kernel_rfl))))))) (by kernel_rfl) ?_
       refine EVT.cal (by kernel_rfl) (by kernel_rfl) (callOf_skip (fun h _ => absurd (show (17 : Nat) = 46 from h) (by decide)) (callOf_skip (fun h _ => absurd (show (17 : Nat) = 47 from h) (by decide)) (callOf_skip (fun _ h => by obtain ⟨e0, e1⟩ := fiducialref03_Same_inj h; rw [show v29 = true from Option.some.inj (hc30.symm.trans ((show fiducialref03_Same n v9.2.1 v27 = fiducialref03_Same n v7.1 v17 from (congr (congr rfl e0) e1)).trans hc20))]) (callOf_skip (fun h _ => absurd (show (17 : Nat) = 47 from h) (by decide)) (callOf_skip (fun _ h => by obtain ⟨e0, e1⟩ := fiducialref03_Same_inj h; rw [show v29 = true from Option.some.inj (hc30.symm.trans ((show fiducialref03_Same n v9.2.1 v27 = fiducialref03_Same n v9.1 v22 from (congr (congr rfl e0) e1)).trans hc25))]) (callOf_skip (fun h _ => absurd (show (17 : Nat) = 47 from h) (by decide)) (callOf_at (by kernel_rfl)))))))) (by kernel_rfl) ?_
       refine EVT.p1 (aB v29) ?_
       refine EVT.p1 (aB v29) ?_
       refine EVT.done ⟨by kernel_rfl, ?_⟩
       refine CQ.ret ?_
       obtain rfl := Option.some.inj hr
       exact FinQ.r1 [aB v29]
      ·subst hb26
       replace hr := cd_f rfl hr
       refine CQ.regionT fine (callOf_ok [{ f := 46, args := [sI64 v5.1, .hs 8 0 4 1], H := [.fix [aI64 0, aI64 0, aI64 0, aI64 0], .fix [aI64 0, aI64 5, aI64 (-3), aI64 2], .own (api_Banded.c v1), .own (api_Banded.c v3), .fix [aB true, aB true, aB true, aB true], .own (api_Range.c v7.1), .own (api_Range.c v9.1), .own (api_Range.c v9.2.1), .own [aI64 0, aI64 1, aI64 2, aI64 0]], r := .loc (aB true) [] [8] 0 : CE }, { f := 47, args := [aI64 (-16), aI64 48], H := [.fix [aI64 0, aI64 0, aI64 0, aI64 0], .fix [aI64 0, aI64 5, aI64 (-3), aI64 2], .own (api_Banded.c v1), .own (api_Banded.c v3), .fix [aB true, aB true, aB true, aB true], .own (api_Range.c v7.1), .own (api_Range.c v9.1), .own (api_Range.c v9.2.1), .own [aI64 0, aI64 1, aI64 2, aI64 0]], r := .loc (.agg (api_Range.c v17)) [] [] 0 : CE }, { f := 17, args := [.agg (api_Range.c v7.1), .agg (api_Range.c v17)], H := [.fix [aI64 0, aI64 0, aI64 0, aI64 0], .fix [aI64 0, aI64 5, aI64 (-3), aI64 2], .own (api_Banded.c v1), .own (api_Banded.c v3), .fix [aB true, aB true, aB true, aB true], .own (api_Range.c v7.1), .own (api_Range.c v9.1), .own (api_Range.c v9.2.1), .own [aI64 0, aI64 1, aI64 2, aI64 0]], r := .loc (aB true) [] [] 0 : CE }, { f := 47, args := [aI64 12, aI64 52], H := [.fix [aI64 0, aI64 0, aI64 0, aI64 0], .fix [aI64 0, aI64 5, aI64 (-3), aI64 2], .own (api_Banded.c v1), .own (api_Banded.c v3), .fix [aB true, aB true, aB true, aB true], .own (api_Range.c v7.1), .own (api_Range.c v9.1), .own (api_Range.c v9.2.1), .own [aI64 0, aI64 1, aI64 2, aI64 0]], r := .loc (.agg (api_Range.c v22)) [] [] 0 : CE }, { f := 17, args := [.agg (api_Range.c v9.1), .agg (api_Range.c v22)], H := [.fix [aI64 0, aI64 0, aI64 0, aI64 0], .fix [aI64 0, aI64 5, aI64 (-3), aI64 2], .own (api_Banded.c v1), .own (api_Banded.c v3), .fix [aB true, aB true, aB true, aB true], .own (api_Range.c v7.1), .own (api_Range.c v9.1), .own (api_Range.c v9.2.1), .own [aI64 0, aI64 1, aI64 2, aI64 0]], r := .loc (aB false) [] [] 0 : CE }] (List.forall_mem_cons.2 ⟨(callOk_val (l := [8]) (args' := [sI64 v5.1, sI64 [0, 1, 2, 0]]) rfl (SnL.cons (Sn.pure rfl) (SnL.cons (Sn.hs rfl (.inl rfl) (SnC.cons (Sn.pure rfl) (SnC.cons (Sn.pure rfl) (SnC.cons (Sn.pure rfl) (SnC.cons (Sn.pure rfl) SnC.nil)))) (fun h => nomatch h)) SnL.nil)) (slices_Equal_fiducial_api_Verdict_fiducial_api_Verdict_ok n v5.1 [0, 1, 2, 0] true hc15)), (List.forall_mem_cons.2 ⟨(callOk_ref (l := []) (args' := [aI64 (-16), aI64 48]) (SnL.cons (Sn.pure rfl) (SnL.cons (Sn.pure rfl) SnL.nil)) (fiducialref03_Whole_ok n (-16) 48 v17 hc18)), (List.forall_mem_cons.2 ⟨(callOk_val (l := []) (args' := [.agg (api_Range.c v7.1), .agg (api_Range.c v17)]) rfl (SnL.cons (Sn.pure rfl) (SnL.cons (Sn.pure rfl) SnL.nil)) (fiducialref03_Same_ok n v7.1 v17 true hc20)), (List.forall_mem_cons.2 ⟨(callOk_ref (l := []) (args' := [aI64 12, aI64 52]) (SnL.cons (Sn.pure rfl) (SnL.cons (Sn.pure rfl) SnL.nil)) (fiducialref03_Whole_ok n 12 52 v22 hc23)), (List.forall_mem_cons.2 ⟨(callOk_val (l := []) (args' := [.agg (api_Range.c v9.1), .agg (api_Range.c v22)]) rfl (SnL.cons (Sn.pure rfl) (SnL.cons (Sn.pure rfl) SnL.nil)) (fiducialref03_Same_ok n v9.1 v22 false hc25)), ce0⟩)⟩)⟩)⟩)⟩)) ?_
       refine EVT.p1 (aI64 v5.2) ?_
       refine EVT.pure (v := aB true) (by kernel_rfl) (Eq.trans (b := some (.pure (aB ((v5.2 : Int) == 0)))) (by kernel_rfl) (by rw [hb11])) (by kernel_rfl) ?_
       refine EVT.p1 (aB true) ?_
       refine EVT.p1 (aI64 v7.2) ?_
       refine EVT.pure (v := aB true) (by kernel_rfl) (Eq.trans (b := some (.pure (aB ((v7.2 : Int) == 0)))) (by kernel_rfl) (by rw [hb12])) (by kernel_rfl) ?_
       refine EVT.p1 (aB true) ?_
       refine EVT.p1 (aB true) ?_
       refine EVT.p1 (aI64 v9.2.2) ?_
       refine EVT.pure (v := aB true) (by kernel_rfl) (Eq.trans (b := some (.pure (aB ((v9.2.2 : Int) == 0)))) (by kernel_rfl) (by rw [hb13])) (by kernel_rfl) ?_
       refine EVT.p1 (aB true) ?_
       refine EVT.p1 (aB true) ?_
       refine EVT.p1 (sI64 v5.1) ?_
       refine EVT.e1 (.hs 8 0 4 1) [(8, .own [aI64 0, aI64 1, aI64 2, aI64 0])] ?_
       refine EVT.cal (by kernel_rfl) (by kernel_rfl) (callOf_at (by kernel_rfl)) (by kernel_rfl) ?_
       refine EVT.p1 (aB true) ?_
       refine EVT.p1 (aB true) ?_
       refine EVT.p1 (.agg (api_Range.c v7.1)) ?_
       refine EVT.cal (by kernel_rfl) (by kernel_rfl) (callOf_skip (fun h _ => absurd (show (47 : Nat) = 46 from h) (by decide)) (callOf_at (by kernel_rfl))) (by kernel_rfl) ?_
       refine EVT.cal (by kernel_rfl) (by kernel_rfl) (callOf_skip (fun h _ => absurd (show (17 : Nat) = 46 from h) (by decide)) (callOf_skip (fun h _ => absurd (show (17 : Nat) = 47 from h) (by decide)) (callOf_at (by kernel_rfl)))) (by kernel_rfl) ?_
       refine EVT.p1 (aB true) ?_
       refine EVT.p1 (aB true) ?_
       refine EVT.p1 (.agg (api_Range.c v9.1)) ?_
       refine EVT.cal (by kernel_rfl) (by kernel_rfl) (callOf_skip (fun h _ => absurd (show (47 : Nat) = 46 from h) (by decide)) (callOf_skip (fun _ h => by obtain ⟨e0, e1⟩ := fiducialref03_Whole_inj h; rw [show v22 = v17 from Option.some.inj (hc23.symm.trans ((show fiducialref03_Whole n 12 52 = fiducialref03_Whole n (-16) 48 from (congr (congr rfl e0) e1)).trans hc18))]) (callOf_skip (fun h _ => absurd (show (47 : Nat) = 17 from h) (by decide)) (callOf_at (by kernel_rfl))))) (by kernel_rfl) ?_
       refine EVT.cal (by kernel_rfl) (by kernel_rfl) (callOf_skip (fun h _ => absurd (show (17 : Nat) = 46 from h) (by decide)) (callOf_skip (fun h _ => absurd (show (17 : Nat) = 47 from h) (by decide)) (callOf_skip (fun _ h => by obtain ⟨e0, e1⟩ := fiducialref03_Same_inj h; rw [show false = true from Option.some.inj (hc25.symm.trans ((show fiducialref03_Same n v9.1 v22 = fiducialref03_Same n v7.1 v17 from (congr (congr rfl e0) e1)).trans hc20))]) (callOf_skip (fun h _ => absurd (show (17 : Nat) = 47 from h) (by decide)) (callOf_at (by kernel_rfl)))))) (by kernel_rfl) ?_
       refine EVT.p1 (aB false) ?_
       refine EVT.p1 (aB false) ?_
       refine EVT.s1 ?_
       refine EVT.s1 ?_
       refine EVT.s1 ?_
       refine EVT.p1 (aB false) ?_
       refine EVT.p1 (aB false) ?_
       refine EVT.done ⟨by kernel_rfl, ?_⟩
       refine CQ.ret ?_
       obtain rfl := Option.some.inj hr
       exact FinQ.r1 [aB false]
     ·subst hb21
      replace hr := cd_f rfl hr
      refine CQ.regionT fine (callOf_ok [{ f := 46, args := [sI64 v5.1, .hs 8 0 4 1], H := [.fix [aI64 0, aI64 0, aI64 0, aI64 0], .fix [aI64 0, aI64 5, aI64 (-3), aI64 2], .own (api_Banded.c v1), .own (api_Banded.c v3), .fix [aB true, aB true, aB true, aB true], .own (api_Range.c v7.1), .own (api_Range.c v9.1), .own (api_Range.c v9.2.1), .own [aI64 0, aI64 1, aI64 2, aI64 0]], r := .loc (aB true) [] [8] 0 : CE }, { f := 47, args := [aI64 (-16), aI64 48], H := [.fix [aI64 0, aI64 0, aI64 0, aI64 0], .fix [aI64 0, aI64 5, aI64 (-3), aI64 2], .own (api_Banded.c v1), .own (api_Banded.c v3), .fix [aB true, aB true, aB true, aB true], .own (api_Range.c v7.1), .own (api_Range.c v9.1), .own (api_Range.c v9.2.1), .own [aI64 0, aI64 1, aI64 2, aI64 0]], r := .loc (.agg (api_Range.c v17)) [] [] 0 : CE }, { f := 17, args := [.agg (api_Range.c v7.1), .agg (api_Range.c v17)], H := [.fix [aI64 0, aI64 0, aI64 0, aI64 0], .fix [aI64 0, aI64 5, aI64 (-3), aI64 2], .own (api_Banded.c v1), .own (api_Banded.c v3), .fix [aB true, aB true, aB true, aB true], .own (api_Range.c v7.1), .own (api_Range.c v9.1), .own (api_Range.c v9.2.1), .own [aI64 0, aI64 1, aI64 2, aI64 0]], r := .loc (aB false) [] [] 0 : CE }] (List.forall_mem_cons.2 ⟨(callOk_val (l := [8]) (args' := [sI64 v5.1, sI64 [0, 1, 2, 0]]) rfl (SnL.cons (Sn.pure rfl) (SnL.cons (Sn.hs rfl (.inl rfl) (SnC.cons (Sn.pure rfl) (SnC.cons (Sn.pure rfl) (SnC.cons (Sn.pure rfl) (SnC.cons (Sn.pure rfl) SnC.nil)))) (fun h => nomatch h)) SnL.nil)) (slices_Equal_fiducial_api_Verdict_fiducial_api_Verdict_ok n v5.1 [0, 1, 2, 0] true hc15)), (List.forall_mem_cons.2 ⟨(callOk_ref (l := []) (args' := [aI64 (-16), aI64 48]) (SnL.cons (Sn.pure rfl) (SnL.cons (Sn.pure rfl) SnL.nil)) (fiducialref03_Whole_ok n (-16) 48 v17 hc18)), (List.forall_mem_cons.2 ⟨(callOk_val (l := []) (args' := [.agg (api_Range.c v7.1), .agg (api_Range.c v17)]) rfl (SnL.cons (Sn.pure rfl) (SnL.cons (Sn.pure rfl) SnL.nil)) (fiducialref03_Same_ok n v7.1 v17 false hc20)), ce0⟩)⟩)⟩)) ?_
      refine EVT.p1 (aI64 v5.2) ?_
      refine EVT.pure (v := aB true) (by kernel_rfl) (Eq.trans (b := some (.pure (aB ((v5.2 : Int) == 0)))) (by kernel_rfl) (by rw [hb11])) (by kernel_rfl) ?_
      refine EVT.p1 (aB true) ?_
      refine EVT.p1 (aI64 v7.2) ?_
      refine EVT.pure (v := aB true) (by kernel_rfl) (Eq.trans (b := some (.pure (aB ((v7.2 : Int) == 0)))) (by kernel_rfl) (by rw [hb12])) (by kernel_rfl) ?_
      refine EVT.p1 (aB true) ?_
      refine EVT.p1 (aB true) ?_
      refine EVT.p1 (aI64 v9.2.2) ?_
      refine EVT.pure (v := aB true) (by kernel_rfl) (Eq.trans (b := some (.pure (aB ((v9.2.2 : Int) == 0)))) (by kernel_rfl) (by rw [hb13])) (by kernel_rfl) ?_
      refine EVT.p1 (aB true) ?_
      refine EVT.p1 (aB true) ?_
      refine EVT.p1 (sI64 v5.1) ?_
      refine EVT.e1 (.hs 8 0 4 1) [(8, .own [aI64 0, aI64 1, aI64 2, aI64 0])] ?_
      refine EVT.cal (by kernel_rfl) (by kernel_rfl) (callOf_at (by kernel_rfl)) (by kernel_rfl) ?_
      refine EVT.p1 (aB true) ?_
      refine EVT.p1 (aB true) ?_
      refine EVT.p1 (.agg (api_Range.c v7.1)) ?_
      refine EVT.cal (by kernel_rfl) (by kernel_rfl) (callOf_skip (fun h _ => absurd (show (47 : Nat) = 46 from h) (by decide)) (callOf_at (by kernel_rfl))) (by kernel_rfl) ?_
      refine EVT.cal (by kernel_rfl) (by kernel_rfl) (callOf_skip (fun h _ => absurd (show (17 : Nat) = 46 from h) (by decide)) (callOf_skip (fun h _ => absurd (show (17 : Nat) = 47 from h) (by decide)) (callOf_at (by kernel_rfl)))) (by kernel_rfl) ?_
      refine EVT.p1 (aB false) ?_
      refine EVT.p1 (aB false) ?_
      refine EVT.s1 ?_
      refine EVT.s1 ?_
      refine EVT.s1 ?_
      refine EVT.p1 (aB false) ?_
      refine EVT.p1 (aB false) ?_
      refine EVT.s1 ?_
      refine EVT.s1 ?_
      refine EVT.s1 ?_
      refine EVT.p1 (aB false) ?_
      refine EVT.p1 (aB false) ?_
      refine EVT.done ⟨by kernel_rfl, ?_⟩
      refine CQ.ret ?_
      obtain rfl := Option.some.inj hr
      exact FinQ.r1 [aB false]
    ·subst hb16
     replace hr := cd_f rfl hr
     refine CQ.regionT fine (callOf_1 46 [sI64 v5.1, .hs 8 0 4 1] [.fix [aI64 0, aI64 0, aI64 0, aI64 0], .fix [aI64 0, aI64 5, aI64 (-3), aI64 2], .own (api_Banded.c v1), .own (api_Banded.c v3), .fix [aB true, aB true, aB true, aB true], .own (api_Range.c v7.1), .own (api_Range.c v9.1), .own (api_Range.c v9.2.1), .own [aI64 0, aI64 1, aI64 2, aI64 0]] (.loc (aB false) [] [8] 0) (callOk_val (l := [8]) (args' := [sI64 v5.1, sI64 [0, 1, 2, 0]]) rfl (SnL.cons (Sn.pure rfl) (SnL.cons (Sn.hs rfl (.inl rfl) (SnC.cons (Sn.pure rfl) (SnC.cons (Sn.pure rfl) (SnC.cons (Sn.pure rfl) (SnC.cons (Sn.pure rfl) SnC.nil)))) (fun h => nomatch h)) SnL.nil)) (slices_Equal_fiducial_api_Verdict_fiducial_api_Verdict_ok n v5.1 [0, 1, 2, 0] false hc15))) ?_
     refine EVT.p1 (aI64 v5.2) ?_
     refine EVT.pure (v := aB true) (by kernel_rfl) (Eq.trans (b := some (.pure (aB ((v5.2 : Int) == 0)))) (by kernel_rfl) (by rw [hb11])) (by kernel_rfl) ?_
     refine EVT.p1 (aB true) ?_
     refine EVT.p1 (aI64 v7.2) ?_
     refine EVT.pure (v := aB true) (by kernel_rfl) (Eq.trans (b := some (.pure (aB ((v7.2 : Int) == 0)))) (by kernel_rfl) (by rw [hb12])) (by kernel_rfl) ?_
     refine EVT.p1 (aB true) ?_
     refine EVT.p1 (aB true) ?_
     refine EVT.p1 (aI64 v9.2.2) ?_
     refine EVT.pure (v := aB true) (by kernel_rfl) (Eq.trans (b := some (.pure (aB ((v9.2.2 : Int) == 0)))) (by kernel_rfl) (by rw [hb13])) (by kernel_rfl) ?_
     refine EVT.p1 (aB true) ?_
     refine EVT.p1 (aB true) ?_
     refine EVT.p1 (sI64 v5.1) ?_
     refine EVT.e1 (.hs 8 0 4 1) [(8, .own [aI64 0, aI64 1, aI64 2, aI64 0])] ?_
     refine EVT.cal (by kernel_rfl) (by kernel_rfl) (callOf_at (by kernel_rfl)) (by kernel_rfl) ?_
     refine EVT.p1 (aB false) ?_
     refine EVT.p1 (aB false) ?_
     refine EVT.s1 ?_
     refine EVT.s1 ?_
     refine EVT.s1 ?_
     refine EVT.p1 (aB false) ?_
     refine EVT.p1 (aB false) ?_
     refine EVT.s1 ?_
     refine EVT.s1 ?_
     refine EVT.s1 ?_
     refine EVT.p1 (aB false) ?_
     refine EVT.p1 (aB false) ?_
     refine EVT.s1 ?_
     refine EVT.s1 ?_
     refine EVT.s1 ?_
     refine EVT.p1 (aB false) ?_
     refine EVT.p1 (aB false) ?_
     refine EVT.done ⟨by kernel_rfl, ?_⟩
     refine CQ.ret ?_
     obtain rfl := Option.some.inj hr
     exact FinQ.r1 [aB false]
   ·replace hr := cd_f hb13 hr
    refine CQ.regionT fine callOf_nil ?_
    refine EVT.p1 (aI64 v5.2) ?_
    refine EVT.pure (v := aB true) (by kernel_rfl) (Eq.trans (b := some (.pure (aB ((v5.2 : Int) == 0)))) (by kernel_rfl) (by rw [hb11])) (by kernel_rfl) ?_
    refine EVT.p1 (aB true) ?_
    refine EVT.p1 (aI64 v7.2) ?_
    refine EVT.pure (v := aB true) (by kernel_rfl) (Eq.trans (b := some (.pure (aB ((v7.2 : Int) == 0)))) (by kernel_rfl) (by rw [hb12])) (by kernel_rfl) ?_
    refine EVT.p1 (aB true) ?_
    refine EVT.p1 (aB true) ?_
    refine EVT.p1 (aI64 v9.2.2) ?_
    refine EVT.pure (v := aB false) (by kernel_rfl) (Eq.trans (b := some (.pure (aB ((v9.2.2 : Int) == 0)))) (by kernel_rfl) (by rw [hb13])) (by kernel_rfl) ?_
    refine EVT.p1 (aB false) ?_
    refine EVT.p1 (aB false) ?_
    refine EVT.s1 ?_
    refine EVT.s1 ?_
    refine EVT.s1 ?_
    refine EVT.p1 (aB false) ?_
    refine EVT.p1 (aB false) ?_
    refine EVT.s1 ?_
    refine EVT.s1 ?_
    refine EVT.s1 ?_
    refine EVT.p1 (aB false) ?_
    refine EVT.p1 (aB false) ?_
    refine EVT.s1 ?_
    refine EVT.s1 ?_
    refine EVT.s1 ?_
    refine EVT.p1 (aB false) ?_
    refine EVT.p1 (aB false) ?_
    refine EVT.s1 ?_
    refine EVT.s1 ?_
    refine EVT.s1 ?_
    refine EVT.p1 (aB false) ?_
    refine EVT.p1 (aB false) ?_
    refine EVT.done ⟨by kernel_rfl, ?_⟩
    refine CQ.ret ?_
    obtain rfl := Option.some.inj hr
    exact FinQ.r1 [aB false]
  ·replace hr := cd_f hb12 hr
   refine CQ.regionT fine callOf_nil ?_
   refine EVT.p1 (aI64 v5.2) ?_
   refine EVT.pure (v := aB true) (by kernel_rfl) (Eq.trans (b := some (.pure (aB ((v5.2 : Int) == 0)))) (by kernel_rfl) (by rw [hb11])) (by kernel_rfl) ?_
   refine EVT.p1 (aB true) ?_
   refine EVT.p1 (aI64 v7.2) ?_
   refine EVT.pure (v := aB false) (by kernel_rfl) (Eq.trans (b := some (.pure (aB ((v7.2 : Int) == 0)))) (by kernel_rfl) (by rw [hb12])) (by kernel_rfl) ?_
   refine EVT.p1 (aB false) ?_
   refine EVT.p1 (aB false) ?_
   refine EVT.s1 ?_
   refine EVT.s1 ?_
   refine EVT.p1 (aB false) ?_
   refine EVT.p1 (aB false) ?_
   refine EVT.s1 ?_
   refine EVT.s1 ?_
   refine EVT.s1 ?_
   refine EVT.p1 (aB false) ?_
   refine EVT.p1 (aB false) ?_
   refine EVT.s1 ?_
   refine EVT.s1 ?_
   refine EVT.s1 ?_
   refine EVT.p1 (aB false) ?_
   refine EVT.p1 (aB false) ?_
   refine EVT.s1 ?_
   refine EVT.s1 ?_
   refine EVT.s1 ?_
   refine EVT.p1 (aB false) ?_
   refine EVT.p1 (aB false) ?_
   refine EVT.s1 ?_
   refine EVT.s1 ?_
   refine EVT.s1 ?_
   refine EVT.p1 (aB false) ?_
   refine EVT.p1 (aB false) ?_
   refine EVT.done ⟨by kernel_rfl, ?_⟩
   refine CQ.ret ?_
   obtain rfl := Option.some.inj hr
   exact FinQ.r1 [aB false]
 ·replace hr := cd_f hb11 hr
  refine CQ.regionT fine callOf_nil ?_
  refine EVT.p1 (aI64 v5.2) ?_
  refine EVT.pure (v := aB false) (by kernel_rfl) (Eq.trans (b := some (.pure (aB ((v5.2 : Int) == 0)))) (by kernel_rfl) (by rw [hb11])) (by kernel_rfl) ?_
  refine EVT.p1 (aB false) ?_
  refine EVT.s1 ?_
  refine EVT.s1 ?_
  refine EVT.p1 (aB false) ?_
  refine EVT.p1 (aB false) ?_
  refine EVT.s1 ?_
  refine EVT.s1 ?_
  refine EVT.p1 (aB false) ?_
  refine EVT.p1 (aB false) ?_
  refine EVT.s1 ?_
  refine EVT.s1 ?_
  refine EVT.s1 ?_
  refine EVT.p1 (aB false) ?_
  refine EVT.p1 (aB false) ?_
  refine EVT.s1 ?_
  refine EVT.s1 ?_
  refine EVT.s1 ?_
  refine EVT.p1 (aB false) ?_
  refine EVT.p1 (aB false) ?_
  refine EVT.s1 ?_
  refine EVT.s1 ?_
  refine EVT.s1 ?_
  refine EVT.p1 (aB false) ?_
  refine EVT.p1 (aB false) ?_
  refine EVT.s1 ?_
  refine EVT.s1 ?_
  refine EVT.s1 ?_
  refine EVT.p1 (aB false) ?_
  refine EVT.p1 (aB false) ?_
  refine EVT.done ⟨by kernel_rfl, ?_⟩
  refine CQ.ret ?_
  obtain rfl := Option.some.inj hr
  exact FinQ.r1 [aB false]

theorem fiduciallaw59_few_ok (n : Nat) (l : List api_Banded) (r : Bool) (hr : fiduciallaw59_few n l = some r) : FnOk Tryz.prog 13 [slT api_Banded.c l] (.at (.bool r)) := by
 unfold fiduciallaw59_few at hr
 refine FnOk.body fine Tryz.func13 (c := (Tryz.f13.body).getD .skip) rfl (s := mkS 23 0 [(0, slT api_Banded.c l)]) (by kernel_rfl) (rs := [.tmp 2]) rfl ?_
 unfold Tryz.f13
 simp only [Option.getD_some]
 refine CQ.seq ?_
 refine CQ.r0 fine ?_
 refine EVO.p1 (aB false) ?_
 refine EVO.done ?_
 refine CQ.n1 [0] (mkS 23 0 [(0, slT api_Banded.c l)]) [] ?_
 refine CQ.seq ?_
 refine CQ.seq ?_
 refine CQ.r0 fine ?_
 refine EVO.p1 (slT api_Banded.c l) ?_
 refine EVO.p1 (aI64 (l.length : Int)) ?_
 refine EVO.p1 (aI64 0) ?_
 refine EVO.done ?_
 refine CQ.n1 [5, 6, 7] (mkS 23 0 [(5, slT api_Banded.c l), (6, aI64 (l.length : Int)), (7, aI64 0)]) [] ?_
 refine CQ.block ?_
 replace hr := bd hr; obtain ⟨o11, hL12, hr⟩ := hr
 refine CQ.loopO (σ := fun z0 => match z0 with | x_1 => ⟨mkS 23 0 [(5, slT api_Banded.c l), (6, aI64 (l.length : Int)), (7, aI64 x_1)], []⟩) (Q := fun x st' => match (generalizing := false) o11 with | .inl _ => x = .exit 0 ∧ Wk st' ⟨mkS 23 0 [], []⟩ | .inr (r0) => x = .ret ∧ FinQ Tryz.prog [.tmp 2] (aB r0) .ret st') hL12 ((Wk.gc [5, 6, 7] [] rfl trivial).to (by kernel_rfl)) ?_ ?_
 ·clear hr
  rintro m x_1 hr
  show CQ _ _ _ _ ⟨_, _⟩
  refine CQ.seq ?_
  refine CQ.r0 fine ?_
  refine EVO.p1 (aB (decide (x_1 < (l.length : Int)))) ?_
  refine EVO.done ?_
  refine CQ.seq ?_
  refine CQ.cond (t := decide (x_1 < (l.length : Int))) (by kernel_rfl) (fun hb7 => ?_) (fun hb7 => ?_)
  ·replace hr := cd_t hb7 hr
   refine CQ.skip ?_
   refine CQ.seq ?_
   refine CQ.block ?_
   refine CQ.seq ?_
   replace hr := gd hr; obtain ⟨hg8, hr⟩ := hr
   refine CQ.r0 fine ?_
   refine EVO.p0 (v := .pp (l.flatMap api_Banded.c) (x_1.toNat * 7)) (Eq.trans (b := ORes.ofP (guardV (inR x_1 l.length) (.pp (l.flatMap api_Banded.c) (x_1.toNat * 7)))) (by kernel_rfl) (ofP_guard hg8)) ?_
   refine EVO.p0 (v := .agg (api_Banded.c (gt l x_1))) (Eq.trans (b := ORes.ofP (guardV (decide (7 ≤ ((l.flatMap api_Banded.c).drop (x_1.toNat * 7)).length)) (.agg (((l.flatMap api_Banded.c).drop (x_1.toNat * 7)).take 7)))) (by kernel_rfl) (flat_load api_Banded.len (inR_lt hg8) (by decide) (by omega : x_1.toNat * 7 = x_1.toNat * 7 + 0) (by kernel_rfl))) ?_
   refine EVO.e1 (.hp 0 0) [(0, .own [aI64 0, aI64 0, aI64 0, aI64 0, aI64 0, .at (.slice none 0 0), .at (.slice none 0 0)])] ?_
   refine EVO.e1 (.unk) [(0, .own (api_Banded.c (gt l x_1)))] ?_
   refine EVO.done ?_
   refine CQ.n1 [4, 5, 6, 7] (mkS 23 0 [(4, .hp 0 0), (5, slT api_Banded.c l), (6, aI64 (l.length : Int)), (7, aI64 x_1)]) [.own (api_Banded.c (gt l x_1))] ?_
   refine CQ.seq ?_
   rcases Bool.eq_false_or_eq_true (decide (((gt l x_1).Grid.Z.length : Int) > 64)) with hb9 | hb9
   ·replace hr := cd_t hb9 hr
    refine CQ.r0 fine ?_
    refine EVO.p1 (.hp 0 0) ?_
    refine EVO.p1 (.hp 0 5) ?_
    refine EVO.p1 (sI64 (gt l x_1).Grid.Z) ?_
    refine EVO.p1 (aI64 ((gt l x_1).Grid.Z.length : Int)) ?_
    refine EVO.p0 (v := aB true) (Eq.trans (b := some (.pure (aB (decide (((gt l x_1).Grid.Z.length : Int) > 64))))) (by kernel_rfl) (by rw [hb9])) ?_
    refine EVO.p1 (aB true) ?_
    refine EVO.s1 ?_
    refine EVO.s1 ?_
    refine EVO.s1 ?_
    refine EVO.s1 ?_
    refine EVO.p1 (aB true) ?_
    refine EVO.done ?_
    refine CQ.n1 [5, 6, 7, 21] (mkS 23 0 [(5, slT api_Banded.c l), (6, aI64 (l.length : Int)), (7, aI64 x_1), (21, aB true)]) [.own (api_Banded.c (gt l x_1))] ?_
    refine CQ.cT (by kernel_rfl) ?_
    refine CQ.seq ?_
    refine CQ.r0 fine ?_
    refine EVO.p1 (aB false) ?_
    refine EVO.done ?_
    refine CQ.ret ?_
    obtain rfl := Option.some.inj hr
    exact ⟨rfl, FinQ.ret (vs := [aB false]) (by kernel_rfl) (Sn.pure rfl)⟩
   ·replace hr := cd_f hb9 hr
    refine CQ.r0 fine ?_
    refine EVO.p1 (.hp 0 0) ?_
    refine EVO.p1 (.hp 0 5) ?_
    refine EVO.p1 (sI64 (gt l x_1).Grid.Z) ?_
    refine EVO.p1 (aI64 ((gt l x_1).Grid.Z.length : Int)) ?_
    refine EVO.p0 (v := aB false) (Eq.trans (b := some (.pure (aB (decide (((gt l x_1).Grid.Z.length : Int) > 64))))) (by kernel_rfl) (by rw [hb9])) ?_
    refine EVO.p1 (aB false) ?_
    refine EVO.q1 (.hp 0 6) ?_
    refine EVO.q1 (sI64 (gt l x_1).Err) ?_
    refine EVO.q1 (aI64 ((gt l x_1).Err.length : Int)) ?_
    refine EVO.q1 (aB (decide (((gt l x_1).Err.length : Int) > 70))) ?_
    refine EVO.p1 (aB (decide (((gt l x_1).Err.length : Int) > 70))) ?_
    refine EVO.done ?_
    refine CQ.n1 [5, 6, 7, 21] (mkS 23 0 [(5, slT api_Banded.c l), (6, aI64 (l.length : Int)), (7, aI64 x_1), (21, aB (decide (((gt l x_1).Err.length : Int) > 70)))]) [.own (api_Banded.c (gt l x_1))] ?_
    refine CQ.cond (t := decide (((gt l x_1).Err.length : Int) > 70)) (by kernel_rfl) (fun hb10 => ?_) (fun hb10 => ?_)
    ·replace hr := cd_t hb10 hr
     refine CQ.seq ?_
     refine CQ.r0 fine ?_
     refine EVO.p1 (aB false) ?_
     refine EVO.done ?_
     refine CQ.ret ?_
     obtain rfl := Option.some.inj hr
     exact ⟨rfl, FinQ.ret (vs := [aB false]) (by kernel_rfl) (Sn.pure rfl)⟩
    ·replace hr := cd_f hb10 hr
     refine CQ.skip ?_
     refine CQ.pop ?_
     refine CQ.r0 fine ?_
     refine EVO.p1 (aI64 (wrapF .i64 (x_1 + 1))) ?_
     refine EVO.p1 (aI64 (wrapF .i64 (x_1 + 1))) ?_
     refine EVO.done ?_
     exact loopF_back (wrapF .i64 (x_1 + 1)) hr ((Wk.gc [5, 6, 7] [] rfl trivial).to (by kernel_rfl))
  ·replace hr := cd_f hb7 hr
   refine CQ.leave rfl ?_
   obtain rfl := Option.some.inj hr
   exact ⟨rfl, ((Wk.gc [] [] rfl trivial).to (by kernel_rfl))⟩
 ·rcases o11 with ⟨⟩ | r0
  ·rintro x st' hq13
   clear hL12
   obtain ⟨rfl, hq13⟩ := hq13
   refine CQ_exit _ rfl ?_
   refine CQ.wk hq13 ?_
   refine CQ.seq ?_
   refine CQ.r0 fine ?_
   refine EVO.p1 (aB true) ?_
   refine EVO.done ?_
   refine CQ.ret ?_
   obtain rfl := Option.some.inj hr
   exact FinQ.r1 [aB true]
  ·rintro x st' hq13
   clear hL12
   obtain ⟨rfl, hq13⟩ := hq13
   obtain rfl := Option.some.inj hr
   exact CQ_ret _ hq13

theorem change_Margins_ok (n : Nat) (a : api_Banded) (b : api_Banded) (r : List Int × Int) (hr : change_Margins n a b = some r) : FnOk Tryz.prog 26 [.agg [.at (.int .i64 a.Grid.X0), .at (.int .i64 a.Grid.Y0), .at (.int .i64 a.Grid.Step), .at (.int .i64 a.Grid.Width), .at (.int .i64 a.Grid.Height), slT (iC .i64) a.Grid.Z, slT (iC .i64) a.Err], .agg [.at (.int .i64 b.Grid.X0), .at (.int .i64 b.Grid.Y0), .at (.int .i64 b.Grid.Step), .at (.int .i64 b.Grid.Width), .at (.int .i64 b.Grid.Height), slT (iC .i64) b.Grid.Z, slT (iC .i64) b.Err]] (.tup [slT (iC .i64) r.1, .at (.int .i64 r.2)]) := by
 unfold change_Margins at hr
 refine FnOk.body fine Tryz.func26 (c := (Tryz.f26.body).getD .skip) rfl (s := mkS 45 0 [(0, .agg (api_Banded.c a)), (1, .agg (api_Banded.c b))]) (by kernel_rfl) (rs := [.tmp 4, .tmp 5]) rfl ?_
 unfold Tryz.f26
 simp only [Option.getD_some]
 refine CQ.seq ?_
 refine CQ.r0 fine ?_
 refine EVO.e1 (.hp 0 0) [(0, .own (api_Banded.c a))] ?_
 refine EVO.e1 (.hp 1 0) [(1, .own (api_Banded.c b))] ?_
 refine EVO.p1 (.at (.slice none 0 0)) ?_
 refine EVO.p1 (aI64 0) ?_
 refine EVO.done ?_
 refine CQ.n1 [2, 3] (mkS 45 0 [(2, .hp 0 0), (3, .hp 1 0)]) [.own (api_Banded.c a), .own (api_Banded.c b)] ?_
 refine CQ.seq ?_
 refine CQ.seq ?_
 replace hr := bd hr; obtain ⟨v1, hc2, hr⟩ := hr
 refine CQ.region fine (callOf_1 48 [.hs 2 0 2 7] [.own (api_Banded.c a), .own (api_Banded.c b), .own [aI64 a.Grid.X0, aI64 a.Grid.Y0, aI64 a.Grid.Step, aI64 a.Grid.Width, aI64 a.Grid.Height, sI64 a.Grid.Z, sI64 a.Err, aI64 b.Grid.X0, aI64 b.Grid.Y0, aI64 b.Grid.Step, aI64 b.Grid.Width, aI64 b.Grid.Height, sI64 b.Grid.Z, sI64 b.Err]] (.loc (aI64 v1) [] [2] 0) (callOk_val (l := [2]) (args' := [slT api_Banded.c [a, b]]) rfl (SnL.cons (Sn.hs rfl (.inl rfl) (SnC.cons (Sn.pure rfl) (SnC.cons (Sn.pure rfl) (SnC.cons (Sn.pure rfl) (SnC.cons (Sn.pure rfl) (SnC.cons (Sn.pure rfl) (SnC.cons (Sn.pure rfl) (SnC.cons (Sn.pure rfl) (SnC.cons (Sn.pure rfl) (SnC.cons (Sn.pure rfl) (SnC.cons (Sn.pure rfl) (SnC.cons (Sn.pure rfl) (SnC.cons (Sn.pure rfl) (SnC.cons (Sn.pure rfl) (SnC.cons (Sn.pure rfl) SnC.nil)))))))))))))) (fun h => nomatch h)) SnL.nil) (change_fit_ok n [a, b] v1 hc2))) ?_
 refine EVO.p1 (.agg (api_Banded.c a)) ?_
 refine EVO.p1 (.agg (api_Banded.c b)) ?_
 refine EVO.e1 (.hs 2 0 2 7) [(2, .own [aI64 a.Grid.X0, aI64 a.Grid.Y0, aI64 a.Grid.Step, aI64 a.Grid.Width, aI64 a.Grid.Height, sI64 a.Grid.Z, sI64 a.Err, aI64 b.Grid.X0, aI64 b.Grid.Y0, aI64 b.Grid.Step, aI64 b.Grid.Width, aI64 b.Grid.Height, sI64 b.Grid.Z, sI64 b.Err])] ?_
 refine EVO.c0 (by kernel_rfl) (callOf_at (by kernel_rfl)) ?_
 refine EVO.p1 (aI64 v1) ?_
 refine EVO.done ?_
 refine CQ.n1 [2, 3, 6] (mkS 45 0 [(2, .hp 0 0), (3, .hp 1 0), (6, aI64 v1)]) [.own (api_Banded.c a), .own (api_Banded.c b), .own [aI64 a.Grid.X0, aI64 a.Grid.Y0, aI64 a.Grid.Step, aI64 a.Grid.Width, aI64 a.Grid.Height, sI64 a.Grid.Z, sI64 a.Err, aI64 b.Grid.X0, aI64 b.Grid.Y0, aI64 b.Grid.Step, aI64 b.Grid.Width, aI64 b.Grid.Height, sI64 b.Grid.Z, sI64 b.Err]] ?_
 refine CQ.seq ?_
 refine CQ.r0 fine ?_
 refine EVO.p1 (aI64 v1) ?_
 refine EVO.p1 (aB ((v1 : Int) != 0)) ?_
 refine EVO.done ?_
 refine CQ.n1 [2, 3, 6, 17] (mkS 45 0 [(2, .hp 0 0), (3, .hp 1 0), (6, aI64 v1), (17, aB ((v1 : Int) != 0))]) [.own (api_Banded.c a), .own (api_Banded.c b), .own [aI64 a.Grid.X0, aI64 a.Grid.Y0, aI64 a.Grid.Step, aI64 a.Grid.Width, aI64 a.Grid.Height, sI64 a.Grid.Z, sI64 a.Err, aI64 b.Grid.X0, aI64 b.Grid.Y0, aI64 b.Grid.Step, aI64 b.Grid.Width, aI64 b.Grid.Height, sI64 b.Grid.Z, sI64 b.Err]] ?_
 refine CQ.cond (t := (v1 : Int) != 0) (by kernel_rfl) (fun hb3 => ?_) (fun hb3 => ?_)
 ·replace hr := cd_t hb3 hr
  refine CQ.seq ?_
  refine CQ.r0 fine ?_
  refine EVO.p1 (aI64 v1) ?_
  refine EVO.p1 (.at (.slice none 0 0)) ?_
  refine EVO.p1 (aI64 v1) ?_
  refine EVO.done ?_
  refine CQ.ret ?_
  obtain rfl := Option.some.inj hr
  exact FinQ.ret (vs := [.at (.slice none 0 0), aI64 v1]) (by kernel_rfl) (Sn.tup (SnL.cons Sn.nilsl (SnL.cons (Sn.pure rfl) SnL.nil)))
 ·replace hr := cd_f hb3 hr
  refine CQ.skip ?_
  refine CQ.seq ?_
  refine CQ.r0 fine ?_
  refine EVO.p1 (.at (.slice none 0 0)) ?_
  refine EVO.done ?_
  refine CQ.n1 [2, 3, 7] (mkS 45 0 [(2, .hp 0 0), (3, .hp 1 0), (7, .at (.slice none 0 0))]) [.own (api_Banded.c a), .own (api_Banded.c b), .own [aI64 a.Grid.X0, aI64 a.Grid.Y0, aI64 a.Grid.Step, aI64 a.Grid.Width, aI64 a.Grid.Height, sI64 a.Grid.Z, sI64 a.Err, aI64 b.Grid.X0, aI64 b.Grid.Y0, aI64 b.Grid.Step, aI64 b.Grid.Width, aI64 b.Grid.Height, sI64 b.Grid.Z, sI64 b.Err]] ?_
  refine CQ.seq ?_
  refine CQ.seq ?_
  refine CQ.r0 fine ?_
  refine EVO.p1 (.hp 0 0) ?_
  refine EVO.p1 (.hp 0 5) ?_
  refine EVO.p1 (sI64 a.Grid.Z) ?_
  refine EVO.p1 (aI64 (a.Grid.Z.length : Int)) ?_
  refine EVO.p1 (aI64 0) ?_
  refine EVO.done ?_
  refine CQ.n1 [2, 3, 7, 22, 23] (mkS 45 0 [(2, .hp 0 0), (3, .hp 1 0), (7, .at (.slice none 0 0)), (22, aI64 (a.Grid.Z.length : Int)), (23, aI64 0)]) [.own (api_Banded.c a), .own (api_Banded.c b), .own [aI64 a.Grid.X0, aI64 a.Grid.Y0, aI64 a.Grid.Step, aI64 a.Grid.Width, aI64 a.Grid.Height, sI64 a.Grid.Z, sI64 a.Err, aI64 b.Grid.X0, aI64 b.Grid.Y0, aI64 b.Grid.Step, aI64 b.Grid.Width, aI64 b.Grid.Height, sI64 b.Grid.Z, sI64 b.Err]] ?_
  refine CQ.block ?_
  replace hr := bd hr; obtain ⟨out_11, hL19, hr⟩ := hr
  refine CQ.loopO (σ := fun z0 => match z0 with | (out_4, x_5) => ⟨mkS 45 0 [(2, .hp 0 0), (3, .hp 1 0), (7, .hs 2 0 out_4.length 1), (22, aI64 (a.Grid.Z.length : Int)), (23, aI64 x_5)], [.own (api_Banded.c a), .own (api_Banded.c b), .own (out_4.flatMap (iC .i64))]⟩) (Q := fun x st' => x = .exit 0 ∧ Wk st' ⟨mkS 45 0 [(7, .hs 0 0 out_11.length 1)], [.own (out_11.flatMap (iC .i64))]⟩) hL19 ((Wk.nil 7 1 (by kernel_rfl)).trans ((Wk.gc [2, 3, 7, 22, 23] [(0, true), (1, true), (3, false)] rfl ⟨rfl, trivial⟩).to (by kernel_rfl))) ?_ ?_
  ·clear hr
   rintro m ⟨out_4, x_5⟩ hr
   show CQ _ _ _ _ ⟨_, _⟩
   refine CQ.seq ?_
   refine CQ.r0 fine ?_
   refine EVO.p1 (aB (decide (x_5 < (a.Grid.Z.length : Int)))) ?_
   refine EVO.done ?_
   refine CQ.seq ?_
   refine CQ.cond (t := decide (x_5 < (a.Grid.Z.length : Int))) (by kernel_rfl) (fun hb13 => ?_) (fun hb13 => ?_)
   ·replace hr := cd_t hb13 hr
    refine CQ.skip ?_
    refine CQ.seq ?_
    refine CQ.block ?_
    refine CQ.seq ?_
    refine CQ.r0 fine ?_
    refine EVO.p1 (aI64 x_5) ?_
    refine EVO.p1 (aI64 x_5) ?_
    refine EVO.done ?_
    refine CQ.n1 [2, 3, 7, 8, 22, 23] (mkS 45 0 [(2, .hp 0 0), (3, .hp 1 0), (7, .hs 2 0 out_4.length 1), (8, aI64 x_5), (22, aI64 (a.Grid.Z.length : Int)), (23, aI64 x_5)]) [.own (api_Banded.c a), .own (api_Banded.c b), .own (out_4.flatMap (iC .i64))] ?_
    refine CQ.seq ?_
    replace hr := bd hr; obtain ⟨v14, hc15, hr⟩ := hr
    refine CQ.region fine (callOf_1 49 [.agg (api_Banded.c a), .agg (api_Banded.c b), aI64 x_5] [.own (api_Banded.c a), .own (api_Banded.c b), .own (out_4.flatMap (iC .i64))] (.loc (.tup [aI64 v14.1, aI64 v14.2.1, aB v14.2.2]) [] [] 0) (callOk_val (l := []) (args' := [.agg (api_Banded.c a), .agg (api_Banded.c b), aI64 x_5]) rfl (SnL.cons (Sn.pure rfl) (SnL.cons (Sn.pure rfl) (SnL.cons (Sn.pure rfl) SnL.nil))) (change_difference_ok n a b x_5 v14 hc15))) ?_
    refine EVO.p1 (.agg (api_Banded.c a)) ?_
    refine EVO.p1 (.agg (api_Banded.c b)) ?_
    refine EVO.p1 (aI64 x_5) ?_
    refine EVO.c0 (by kernel_rfl) (callOf_at (by kernel_rfl)) ?_
    refine EVO.p1 (.tup [aI64 v14.1, aI64 v14.2.1, aB v14.2.2]) ?_
    refine EVO.p1 (aI64 v14.1) ?_
    refine EVO.p1 (aI64 v14.2.1) ?_
    refine EVO.p1 (aB v14.2.2) ?_
    refine EVO.p1 (aI64 v14.1) ?_
    refine EVO.p1 (aI64 v14.2.1) ?_
    refine EVO.p1 (aB v14.2.2) ?_
    refine EVO.done ?_
    refine CQ.n1 [2, 3, 7, 9, 10, 22, 23] (mkS 45 0 [(2, .hp 0 0), (3, .hp 1 0), (7, .hs 2 0 out_4.length 1), (9, aI64 v14.1), (10, aI64 v14.2.1), (22, aI64 (a.Grid.Z.length : Int)), (23, aI64 x_5)]) [.own (api_Banded.c a), .own (api_Banded.c b), .own (out_4.flatMap (iC .i64))] ?_
    replace hr := gd hr; obtain ⟨hg16, hr⟩ := hr
    replace hr := gd hr; obtain ⟨hg17, hr⟩ := hr
    refine CQ.r0 fine ?_
    refine EVO.p1 (.hs 2 0 out_4.length 1) ?_
    refine EVO.p1 (aI64 v14.1) ?_
    refine EVO.p1 (aI64 v14.1) ?_
    refine EVO.p0 (v := aI64 (wrapF .i64 (0 - v14.1))) (Eq.trans (b := some (.pure (aI64 (IntKind.wrap .i64 (0 - v14.1))))) (by kernel_rfl) wrap_at) ?_
    refine EVO.p1 (aI64 (mx v14.1 (wrapF .i64 (0 - v14.1)))) ?_
    refine EVO.p1 (aI64 v14.2.1) ?_
    refine EVO.p1 (aI64 (wrapF .i64 ((mx v14.1 (wrapF .i64 (0 - v14.1))) - v14.2.1))) ?_
    refine EVO.e1 (.hs 3 0 1 1) [(3, .own [aI64 (wrapF .i64 ((mx v14.1 (wrapF .i64 (0 - v14.1))) - v14.2.1))])] ?_
    refine EVO.e0 (v := .hs 4 0 (out_4 ++ [wrapF .i64 ((mx v14.1 (wrapF .i64 (0 - v14.1))) - v14.2.1)]).length 1) (ws := [(2, .dead), (4, .own ((out_4 ++ [wrapF .i64 ((mx v14.1 (wrapF .i64 (0 - v14.1))) - v14.2.1)]).flatMap (iC .i64)))]) (Eq.trans (b := guardO (decide (0 + out_4.length * 1 ≤ (out_4.flatMap (iC .i64)).length) && decide ((out_4.length + 1) * 8 ≤ 140737488355328) && decide (out_4.length + 1 ≤ 4611686018427387904)) (some (.eff (.hs 4 0 (out_4.length + 1) 1) [(2, .dead), (4, .own (((out_4.flatMap (iC .i64)).drop 0).take (out_4.length * 1) ++ [aI64 (wrapF .i64 ((mx v14.1 (wrapF .i64 (0 - v14.1))) - v14.2.1))]))]))) (by kernel_rfl) (app_own (l := out_4) (xs := [wrapF .i64 ((mx v14.1 (wrapF .i64 (0 - v14.1))) - v14.2.1)]) (iC_len _) rfl rfl (by kernel_rfl) hg16 hg17)) ?_
    refine EVO.p1 (.hs 4 0 (out_4 ++ [wrapF .i64 ((mx v14.1 (wrapF .i64 (0 - v14.1))) - v14.2.1)]).length 1) ?_
    refine EVO.done ?_
    refine CQ.pop ?_
    refine CQ.r0 fine ?_
    refine EVO.p1 (aI64 (wrapF .i64 (x_5 + 1))) ?_
    refine EVO.p1 (aI64 (wrapF .i64 (x_5 + 1))) ?_
    refine EVO.done ?_
    exact loopF_back (out_4 ++ [wrapF .i64 ((mx v14.1 (wrapF .i64 (0 - v14.1))) - v14.2.1)], wrapF .i64 (x_5 + 1)) hr ((Wk.gc [2, 3, 7, 22, 23] [(0, true), (1, true), (4, false)] rfl ⟨ids_flat (iC_pure _) _, trivial⟩).to (by kernel_rfl))
   ·replace hr := cd_f hb13 hr
    refine CQ.leave rfl ?_
    obtain rfl := Option.some.inj hr
    exact ⟨rfl, ((Wk.gc [7] [(2, false)] rfl ⟨ids_flat (iC_pure _) _, trivial⟩).to (by kernel_rfl))⟩
  ·rintro x st' hq20
   clear hL19
   obtain ⟨rfl, hq20⟩ := hq20
   refine CQ_exit _ rfl ?_
   refine CQ.wk hq20 ?_
   refine CQ.seq ?_
   refine CQ.r0 fine ?_
   refine EVO.p1 (.hs 0 0 out_11.length 1) ?_
   refine EVO.p1 (.hs 0 0 out_11.length 1) ?_
   refine EVO.p1 (aI64 0) ?_
   refine EVO.done ?_
   refine CQ.ret ?_
   obtain rfl := Option.some.inj hr
   exact FinQ.ret (vs := [.hs 0 0 out_11.length 1, aI64 0]) (by kernel_rfl) (Sn.tup (SnL.cons (Sn.hs rfl (.inl rfl) (SnC.pure (ids_flat (iC_pure _) _)) (fun h => flat_nil0 h)) (SnL.cons (Sn.pure rfl) SnL.nil)))

theorem fiduciallaw51_out_inj {n' : Int} {n'_ : Int} (h : ([.at (.int .i64 n')] : List AV) = [.at (.int .i64 n'_)]) : n' = n'_ := by
 simp only [List.cons.injEq, AV.agg.injEq, AV.at.injEq, Value.int.injEq, Value.bool.injEq, AV.fn.injEq, AV.pp.injEq, true_and, and_true] at h
 simp_all
theorem fiduciallaw51_out_ok (n : Nat) (n' : Int) (r : Bool) (hr : fiduciallaw51_out n n' = some r) : FnOk Tryz.prog 149 [.at (.int .i64 n')] (.at (.bool r)) := by
 unfold fiduciallaw51_out at hr
 refine FnOk.body fine Tryz.func149 (c := (Tryz.f149.body).getD .skip) rfl (s := mkS 9 0 [(0, aI64 n')]) (by kernel_rfl) (rs := [.tmp 2]) rfl ?_
 unfold Tryz.f149
 simp only [Option.getD_some]
 refine CQ.seq ?_
 refine CQ.r0 fine ?_
 refine EVO.p1 (aB false) ?_
 refine EVO.done ?_
 refine CQ.n1 [0] (mkS 9 0 [(0, aI64 n')]) [] ?_
 refine CQ.seq ?_
 rcases Bool.eq_false_or_eq_true (decide (n' < (-1048576))) with hb1 | hb1
 ·replace hr := cd_t hb1 hr
  refine CQ.r0 fine ?_
  refine EVO.p1 (aI64 n') ?_
  refine EVO.p0 (v := aB true) (Eq.trans (b := some (.pure (aB (decide (n' < (-1048576)))))) (by kernel_rfl) (by rw [hb1])) ?_
  refine EVO.p1 (aB true) ?_
  refine EVO.s1 ?_
  refine EVO.s1 ?_
  refine EVO.p1 (aB true) ?_
  refine EVO.p1 (aB true) ?_
  refine EVO.done ?_
  refine CQ.ret ?_
  obtain rfl := Option.some.inj hr
  exact FinQ.r1 [aB true]
 ·replace hr := cd_f hb1 hr
  refine CQ.r0 fine ?_
  refine EVO.p1 (aI64 n') ?_
  refine EVO.p0 (v := aB false) (Eq.trans (b := some (.pure (aB (decide (n' < (-1048576)))))) (by kernel_rfl) (by rw [hb1])) ?_
  refine EVO.p1 (aB false) ?_
  refine EVO.q1 (aI64 n') ?_
  refine EVO.q1 (aB (decide (n' > 1048576))) ?_
  refine EVO.p1 (aB (decide (n' > 1048576))) ?_
  refine EVO.p1 (aB (decide (n' > 1048576))) ?_
  refine EVO.done ?_
  refine CQ.ret ?_
  obtain rfl := Option.some.inj hr
  exact FinQ.r1 [aB (decide (n' > 1048576))]

theorem fiduciallaw51_check_ok (n : Nat) (g : api_Grid) (r : Int) (hr : fiduciallaw51_check n g = some r) : FnOk Tryz.prog 126 [.agg [.at (.int .i64 g.X0), .at (.int .i64 g.Y0), .at (.int .i64 g.Step), .at (.int .i64 g.Width), .at (.int .i64 g.Height), slT (iC .i64) g.Z]] (.at (.int .i64 r)) := by
 unfold fiduciallaw51_check at hr
 refine FnOk.body fine Tryz.func126 (c := (Tryz.f126.body).getD .skip) rfl (s := mkS 72 0 [(0, .agg (api_Grid.c g))]) (by kernel_rfl) (rs := [.tmp 2]) rfl ?_
 unfold Tryz.f126
 simp only [Option.getD_some]
 refine CQ.seq ?_
 refine CQ.r0 fine ?_
 refine EVO.e1 (.hp 0 0) [(0, .own (api_Grid.c g))] ?_
 refine EVO.p1 (aI64 0) ?_
 refine EVO.done ?_
 refine CQ.n1 [1] (mkS 72 0 [(1, .hp 0 0)]) [.own (api_Grid.c g)] ?_
 refine CQ.seq ?_
 refine CQ.seq ?_
 rcases Bool.eq_false_or_eq_true (decide (g.Width < 2)) with hb1 | hb1
 ·replace hr := cd_t hb1 hr
  refine CQ.r0 fine ?_
  refine EVO.p1 (.hp 0 3) ?_
  refine EVO.p1 (aI64 g.Width) ?_
  refine EVO.p0 (v := aB true) (Eq.trans (b := some (.pure (aB (decide (g.Width < 2))))) (by kernel_rfl) (by rw [hb1])) ?_
  refine EVO.p1 (aB true) ?_
  refine EVO.s1 ?_
  refine EVO.s1 ?_
  refine EVO.s1 ?_
  refine EVO.p1 (aB true) ?_
  refine EVO.p1 (aB true) ?_
  refine EVO.s1 ?_
  refine EVO.s1 ?_
  refine EVO.s1 ?_
  refine EVO.p1 (aB true) ?_
  refine EVO.p1 (aB true) ?_
  refine EVO.s1 ?_
  refine EVO.s1 ?_
  refine EVO.s1 ?_
  refine EVO.p1 (aB true) ?_
  refine EVO.p1 (aB true) ?_
  refine EVO.s1 ?_
  refine EVO.s1 ?_
  refine EVO.s1 ?_
  refine EVO.p1 (aB true) ?_
  refine EVO.p1 (aB true) ?_
  refine EVO.s1 ?_
  refine EVO.s1 ?_
  refine EVO.s1 ?_
  refine EVO.p1 (aB true) ?_
  refine EVO.p1 (aB true) ?_
  refine EVO.s1 ?_
  refine EVO.s1 ?_
  refine EVO.s1 ?_
  refine EVO.s1 ?_
  refine EVO.p1 (aB true) ?_
  refine EVO.p1 (aB true) ?_
  refine EVO.s1 ?_
  refine EVO.s1 ?_
  refine EVO.s1 ?_
  refine EVO.p1 (aB true) ?_
  refine EVO.p1 (aB true) ?_
  refine EVO.s1 ?_
  refine EVO.s1 ?_
  refine EVO.s1 ?_
  refine EVO.p1 (aB true) ?_
  refine EVO.done ?_
  refine CQ.n1 [1, 48] (mkS 72 0 [(1, .hp 0 0), (48, aB true)]) [.own (api_Grid.c g)] ?_
  refine CQ.cT (by kernel_rfl) ?_
  refine CQ.seq ?_
  refine CQ.r0 fine ?_
  refine EVO.p1 (aI64 2) ?_
  refine EVO.done ?_
  refine CQ.ret ?_
  obtain rfl := Option.some.inj hr
  exact FinQ.r1 [aI64 2]
 ·replace hr := cd_f hb1 hr
  rcases Bool.eq_false_or_eq_true (decide (g.Width > 64)) with hb2 | hb2
  ·replace hr := cd_t hb2 hr
   refine CQ.r0 fine ?_
   refine EVO.p1 (.hp 0 3) ?_
   refine EVO.p1 (aI64 g.Width) ?_
   refine EVO.p0 (v := aB false) (Eq.trans (b := some (.pure (aB (decide (g.Width < 2))))) (by kernel_rfl) (by rw [hb1])) ?_
   refine EVO.p1 (aB false) ?_
   refine EVO.q1 (.hp 0 3) ?_
   refine EVO.q1 (aI64 g.Width) ?_
   refine EVO.pure (v := aB true) (by kernel_rfl) (Eq.trans (b := some (.pure (aB (decide (g.Width > 64))))) (by kernel_rfl) (by rw [hb2])) ?_
   refine EVO.p1 (aB true) ?_
   refine EVO.p1 (aB true) ?_
   refine EVO.s1 ?_
   refine EVO.s1 ?_
   refine EVO.s1 ?_
   refine EVO.p1 (aB true) ?_
   refine EVO.p1 (aB true) ?_
   refine EVO.s1 ?_
   refine EVO.s1 ?_
   refine EVO.s1 ?_
   refine EVO.p1 (aB true) ?_
   refine EVO.p1 (aB true) ?_
   refine EVO.s1 ?_
   refine EVO.s1 ?_
   refine EVO.s1 ?_
   refine EVO.p1 (aB true) ?_
   refine EVO.p1 (aB true) ?_
   refine EVO.s1 ?_
   refine EVO.s1 ?_
   refine EVO.s1 ?_
   refine EVO.p1 (aB true) ?_
   refine EVO.p1 (aB true) ?_
   refine EVO.s1 ?_
   refine EVO.s1 ?_
   refine EVO.s1 ?_
   refine EVO.s1 ?_
   refine EVO.p1 (aB true) ?_
   refine EVO.p1 (aB true) ?_
   refine EVO.s1 ?_
   refine EVO.s1 ?_
   refine EVO.s1 ?_
   refine EVO.p1 (aB true) ?_
   refine EVO.p1 (aB true) ?_
   refine EVO.s1 ?_
   refine EVO.s1 ?_
   refine EVO.s1 ?_
   refine EVO.p1 (aB true) ?_
   refine EVO.done ?_
   refine CQ.n1 [1, 48] (mkS 72 0 [(1, .hp 0 0), (48, aB true)]) [.own (api_Grid.c g)] ?_
   refine CQ.cT (by kernel_rfl) ?_
   refine CQ.seq ?_
   refine CQ.r0 fine ?_
   refine EVO.p1 (aI64 2) ?_
   refine EVO.done ?_
   refine CQ.ret ?_
   obtain rfl := Option.some.inj hr
   exact FinQ.r1 [aI64 2]
  ·replace hr := cd_f hb2 hr
   rcases Bool.eq_false_or_eq_true (decide (g.Height < 2)) with hb3 | hb3
   ·replace hr := cd_t hb3 hr
    refine CQ.r0 fine ?_
    refine EVO.p1 (.hp 0 3) ?_
    refine EVO.p1 (aI64 g.Width) ?_
    refine EVO.p0 (v := aB false) (Eq.trans (b := some (.pure (aB (decide (g.Width < 2))))) (by kernel_rfl) (by rw [hb1])) ?_
    refine EVO.p1 (aB false) ?_
    refine EVO.q1 (.hp 0 3) ?_
    refine EVO.q1 (aI64 g.Width) ?_
    refine EVO.pure (v := aB false) (by kernel_rfl) (Eq.trans (b := some (.pure (aB (decide (g.Width > 64))))) (by kernel_rfl) (by rw [hb2])) ?_
    refine EVO.p1 (aB false) ?_
    refine EVO.p1 (aB false) ?_
    refine EVO.q1 (.hp 0 4) ?_
    refine EVO.q1 (aI64 g.Height) ?_
    refine EVO.pure (v := aB true) (by kernel_rfl) (Eq.trans (b := some (.pure (aB (decide (g.Height < 2))))) (by kernel_rfl) (by rw [hb3])) ?_
    refine EVO.p1 (aB true) ?_
    refine EVO.p1 (aB true) ?_
    refine EVO.s1 ?_
    refine EVO.s1 ?_
    refine EVO.s1 ?_
    refine EVO.p1 (aB true) ?_
    refine EVO.p1 (aB true) ?_
    refine EVO.s1 ?_
    refine EVO.s1 ?_
    refine EVO.s1 ?_
    refine EVO.p1 (aB true) ?_
    refine EVO.p1 (aB true) ?_
    refine EVO.s1 ?_
    refine EVO.s1 ?_
    refine EVO.s1 ?_
    refine EVO.p1 (aB true) ?_
    refine EVO.p1 (aB true) ?_
    refine EVO.s1 ?_
    refine EVO.s1 ?_
    refine EVO.s1 ?_
    refine EVO.s1 ?_
    refine EVO.p1 (aB true) ?_
    refine EVO.p1 (aB true) ?_
    refine EVO.s1 ?_
    refine EVO.s1 ?_
    refine EVO.s1 ?_
    refine EVO.p1 (aB true) ?_
    refine EVO.p1 (aB true) ?_
    refine EVO.s1 ?_
    refine EVO.s1 ?_
    refine EVO.s1 ?_
    refine EVO.p1 (aB true) ?_
    refine EVO.done ?_
    refine CQ.n1 [1, 48] (mkS 72 0 [(1, .hp 0 0), (48, aB true)]) [.own (api_Grid.c g)] ?_
    refine CQ.cT (by kernel_rfl) ?_
    refine CQ.seq ?_
    refine CQ.r0 fine ?_
    refine EVO.p1 (aI64 2) ?_
    refine EVO.done ?_
    refine CQ.ret ?_
    obtain rfl := Option.some.inj hr
    exact FinQ.r1 [aI64 2]
   ·replace hr := cd_f hb3 hr
    rcases Bool.eq_false_or_eq_true (decide (g.Height > 64)) with hb4 | hb4
    ·replace hr := cd_t hb4 hr
     refine CQ.r0 fine ?_
     refine EVO.p1 (.hp 0 3) ?_
     refine EVO.p1 (aI64 g.Width) ?_
     refine EVO.p0 (v := aB false) (Eq.trans (b := some (.pure (aB (decide (g.Width < 2))))) (by kernel_rfl) (by rw [hb1])) ?_
     refine EVO.p1 (aB false) ?_
     refine EVO.q1 (.hp 0 3) ?_
     refine EVO.q1 (aI64 g.Width) ?_
     refine EVO.pure (v := aB false) (by kernel_rfl) (Eq.trans (b := some (.pure (aB (decide (g.Width > 64))))) (by kernel_rfl) (by rw [hb2])) ?_
     refine EVO.p1 (aB false) ?_
     refine EVO.p1 (aB false) ?_
     refine EVO.q1 (.hp 0 4) ?_
     refine EVO.q1 (aI64 g.Height) ?_
     refine EVO.pure (v := aB false) (by kernel_rfl) (Eq.trans (b := some (.pure (aB (decide (g.Height < 2))))) (by kernel_rfl) (by rw [hb3])) ?_
     refine EVO.p1 (aB false) ?_
     refine EVO.p1 (aB false) ?_
     refine EVO.q1 (.hp 0 4) ?_
     refine EVO.q1 (aI64 g.Height) ?_
     refine EVO.pure (v := aB true) (by kernel_rfl) (Eq.trans (b := some (.pure (aB (decide (g.Height > 64))))) (by kernel_rfl) (by rw [hb4])) ?_
     refine EVO.p1 (aB true) ?_
     refine EVO.p1 (aB true) ?_
     refine EVO.s1 ?_
     refine EVO.s1 ?_
     refine EVO.s1 ?_
     refine EVO.p1 (aB true) ?_
     refine EVO.p1 (aB true) ?_
     refine EVO.s1 ?_
     refine EVO.s1 ?_
     refine EVO.s1 ?_
     refine EVO.p1 (aB true) ?_
     refine EVO.p1 (aB true) ?_
     refine EVO.s1 ?_
     refine EVO.s1 ?_
     refine EVO.s1 ?_
     refine EVO.s1 ?_
     refine EVO.p1 (aB true) ?_
     refine EVO.p1 (aB true) ?_
     refine EVO.s1 ?_
     refine EVO.s1 ?_
     refine EVO.s1 ?_
     refine EVO.p1 (aB true) ?_
     refine EVO.p1 (aB true) ?_
     refine EVO.s1 ?_
     refine EVO.s1 ?_
     refine EVO.s1 ?_
     refine EVO.p1 (aB true) ?_
     refine EVO.done ?_
     refine CQ.n1 [1, 48] (mkS 72 0 [(1, .hp 0 0), (48, aB true)]) [.own (api_Grid.c g)] ?_
     refine CQ.cT (by kernel_rfl) ?_
     refine CQ.seq ?_
     refine CQ.r0 fine ?_
     refine EVO.p1 (aI64 2) ?_
     refine EVO.done ?_
     refine CQ.ret ?_
     obtain rfl := Option.some.inj hr
     exact FinQ.r1 [aI64 2]
    ·replace hr := cd_f hb4 hr
     rcases Bool.eq_false_or_eq_true (decide (g.Step < 2)) with hb5 | hb5
     ·replace hr := cd_t hb5 hr
      refine CQ.r0 fine ?_
      refine EVO.p1 (.hp 0 3) ?_
      refine EVO.p1 (aI64 g.Width) ?_
      refine EVO.p0 (v := aB false) (Eq.trans (b := some (.pure (aB (decide (g.Width < 2))))) (by kernel_rfl) (by rw [hb1])) ?_
      refine EVO.p1 (aB false) ?_
      refine EVO.q1 (.hp 0 3) ?_
      refine EVO.q1 (aI64 g.Width) ?_
      refine EVO.pure (v := aB false) (by kernel_rfl) (Eq.trans (b := some (.pure (aB (decide (g.Width > 64))))) (by kernel_rfl) (by rw [hb2])) ?_
      refine EVO.p1 (aB false) ?_
      refine EVO.p1 (aB false) ?_
      refine EVO.q1 (.hp 0 4) ?_
      refine EVO.q1 (aI64 g.Height) ?_
      refine EVO.pure (v := aB false) (by kernel_rfl) (Eq.trans (b := some (.pure (aB (decide (g.Height < 2))))) (by kernel_rfl) (by rw [hb3])) ?_
      refine EVO.p1 (aB false) ?_
      refine EVO.p1 (aB false) ?_
      refine EVO.q1 (.hp 0 4) ?_
      refine EVO.q1 (aI64 g.Height) ?_
      refine EVO.pure (v := aB false) (by kernel_rfl) (Eq.trans (b := some (.pure (aB (decide (g.Height > 64))))) (by kernel_rfl) (by rw [hb4])) ?_
      refine EVO.p1 (aB false) ?_
      refine EVO.p1 (aB false) ?_
      refine EVO.q1 (.hp 0 2) ?_
      refine EVO.q1 (aI64 g.Step) ?_
      refine EVO.pure (v := aB true) (by kernel_rfl) (Eq.trans (b := some (.pure (aB (decide (g.Step < 2))))) (by kernel_rfl) (by rw [hb5])) ?_
      refine EVO.p1 (aB true) ?_
      refine EVO.p1 (aB true) ?_
      refine EVO.s1 ?_
      refine EVO.s1 ?_
      refine EVO.s1 ?_
      refine EVO.p1 (aB true) ?_
      refine EVO.p1 (aB true) ?_
      refine EVO.s1 ?_
      refine EVO.s1 ?_
      refine EVO.s1 ?_
      refine EVO.s1 ?_
      refine EVO.p1 (aB true) ?_
      refine EVO.p1 (aB true) ?_
      refine EVO.s1 ?_
      refine EVO.s1 ?_
      refine EVO.s1 ?_
      refine EVO.p1 (aB true) ?_
      refine EVO.p1 (aB true) ?_
      refine EVO.s1 ?_
      refine EVO.s1 ?_
      refine EVO.s1 ?_
      refine EVO.p1 (aB true) ?_
      refine EVO.done ?_
      refine CQ.n1 [1, 48] (mkS 72 0 [(1, .hp 0 0), (48, aB true)]) [.own (api_Grid.c g)] ?_
      refine CQ.cT (by kernel_rfl) ?_
      refine CQ.seq ?_
      refine CQ.r0 fine ?_
      refine EVO.p1 (aI64 2) ?_
      refine EVO.done ?_
      refine CQ.ret ?_
      obtain rfl := Option.some.inj hr
      exact FinQ.r1 [aI64 2]
     ·replace hr := cd_f hb5 hr
      rcases Bool.eq_false_or_eq_true (decide (g.Step > 65536)) with hb6 | hb6
      ·replace hr := cd_t hb6 hr
       refine CQ.r0 fine ?_
       refine EVO.p1 (.hp 0 3) ?_
       refine EVO.p1 (aI64 g.Width) ?_
       refine EVO.p0 (v := aB false) (Eq.trans (b := some (.pure (aB (decide (g.Width < 2))))) (by kernel_rfl) (by rw [hb1])) ?_
       refine EVO.p1 (aB false) ?_
       refine EVO.q1 (.hp 0 3) ?_
       refine EVO.q1 (aI64 g.Width) ?_
       refine EVO.pure (v := aB false) (by kernel_rfl) (Eq.trans (b := some (.pure (aB (decide (g.Width > 64))))) (by kernel_rfl) (by rw [hb2])) ?_
       refine EVO.p1 (aB false) ?_
       refine EVO.p1 (aB false) ?_
       refine EVO.q1 (.hp 0 4) ?_
       refine EVO.q1 (aI64 g.Height) ?_
       refine EVO.pure (v := aB false) (by kernel_rfl) (Eq.trans (b := some (.pure (aB (decide (g.Height < 2))))) (by kernel_rfl) (by rw [hb3])) ?_
       refine EVO.p1 (aB false) ?_
       refine EVO.p1 (aB false) ?_
       refine EVO.q1 (.hp 0 4) ?_
       refine EVO.q1 (aI64 g.Height) ?_
       refine EVO.pure (v := aB false) (by kernel_rfl) (Eq.trans (b := some (.pure (aB (decide (g.Height > 64))))) (by kernel_rfl) (by rw [hb4])) ?_
       refine EVO.p1 (aB false) ?_
       refine EVO.p1 (aB false) ?_
       refine EVO.q1 (.hp 0 2) ?_
       refine EVO.q1 (aI64 g.Step) ?_
       refine EVO.pure (v := aB false) (by kernel_rfl) (Eq.trans (b := some (.pure (aB (decide (g.Step < 2))))) (by kernel_rfl) (by rw [hb5])) ?_
       refine EVO.p1 (aB false) ?_
       refine EVO.p1 (aB false) ?_
       refine EVO.q1 (.hp 0 2) ?_
       refine EVO.q1 (aI64 g.Step) ?_
       refine EVO.pure (v := aB true) (by kernel_rfl) (Eq.trans (b := some (.pure (aB (decide (g.Step > 65536))))) (by kernel_rfl) (by rw [hb6])) ?_
       refine EVO.p1 (aB true) ?_
       refine EVO.p1 (aB true) ?_
       refine EVO.s1 ?_
       refine EVO.s1 ?_
       refine EVO.s1 ?_
       refine EVO.s1 ?_
       refine EVO.p1 (aB true) ?_
       refine EVO.p1 (aB true) ?_
       refine EVO.s1 ?_
       refine EVO.s1 ?_
       refine EVO.s1 ?_
       refine EVO.p1 (aB true) ?_
       refine EVO.p1 (aB true) ?_
       refine EVO.s1 ?_
       refine EVO.s1 ?_
       refine EVO.s1 ?_
       refine EVO.p1 (aB true) ?_
       refine EVO.done ?_
       refine CQ.n1 [1, 48] (mkS 72 0 [(1, .hp 0 0), (48, aB true)]) [.own (api_Grid.c g)] ?_
       refine CQ.cT (by kernel_rfl) ?_
       refine CQ.seq ?_
       refine CQ.r0 fine ?_
       refine EVO.p1 (aI64 2) ?_
       refine EVO.done ?_
       refine CQ.ret ?_
       obtain rfl := Option.some.inj hr
       exact FinQ.r1 [aI64 2]
      ·replace hr := cd_f hb6 hr
       rcases Bool.eq_false_or_eq_true (((g.Step.tmod 2) : Int) != 0) with hb7 | hb7
       ·replace hr := cd_t hb7 hr
        refine CQ.r0 fine ?_
        refine EVO.p1 (.hp 0 3) ?_
        refine EVO.p1 (aI64 g.Width) ?_
        refine EVO.p0 (v := aB false) (Eq.trans (b := some (.pure (aB (decide (g.Width < 2))))) (by kernel_rfl) (by rw [hb1])) ?_
        refine EVO.p1 (aB false) ?_
        refine EVO.q1 (.hp 0 3) ?_
        refine EVO.q1 (aI64 g.Width) ?_
        refine EVO.pure (v := aB false) (by kernel_rfl) (Eq.trans (b := some (.pure (aB (decide (g.Width > 64))))) (by kernel_rfl) (by rw [hb2])) ?_
        refine EVO.p1 (aB false) ?_
        refine EVO.p1 (aB false) ?_
        refine EVO.q1 (.hp 0 4) ?_
        refine EVO.q1 (aI64 g.Height) ?_
        refine EVO.pure (v := aB false) (by kernel_rfl) (Eq.trans (b := some (.pure (aB (decide (g.Height < 2))))) (by kernel_rfl) (by rw [hb3])) ?_
        refine EVO.p1 (aB false) ?_
        refine EVO.p1 (aB false) ?_
        refine EVO.q1 (.hp 0 4) ?_
        refine EVO.q1 (aI64 g.Height) ?_
        refine EVO.pure (v := aB false) (by kernel_rfl) (Eq.trans (b := some (.pure (aB (decide (g.Height > 64))))) (by kernel_rfl) (by rw [hb4])) ?_
        refine EVO.p1 (aB false) ?_
        refine EVO.p1 (aB false) ?_
        refine EVO.q1 (.hp 0 2) ?_
        refine EVO.q1 (aI64 g.Step) ?_
        refine EVO.pure (v := aB false) (by kernel_rfl) (Eq.trans (b := some (.pure (aB (decide (g.Step < 2))))) (by kernel_rfl) (by rw [hb5])) ?_
        refine EVO.p1 (aB false) ?_
        refine EVO.p1 (aB false) ?_
        refine EVO.q1 (.hp 0 2) ?_
        refine EVO.q1 (aI64 g.Step) ?_
        refine EVO.pure (v := aB false) (by kernel_rfl) (Eq.trans (b := some (.pure (aB (decide (g.Step > 65536))))) (by kernel_rfl) (by rw [hb6])) ?_
        refine EVO.p1 (aB false) ?_
        refine EVO.p1 (aB false) ?_
        refine EVO.q1 (.hp 0 2) ?_
        refine EVO.q1 (aI64 g.Step) ?_
        refine EVO.q1 (aI64 (g.Step.tmod 2)) ?_
        refine EVO.pure (v := aB true) (by kernel_rfl) (Eq.trans (b := some (.pure (aB (((g.Step.tmod 2) : Int) != 0)))) (by kernel_rfl) (by rw [hb7])) ?_
        refine EVO.p1 (aB true) ?_
        refine EVO.p1 (aB true) ?_
        refine EVO.s1 ?_
        refine EVO.s1 ?_
        refine EVO.s1 ?_
        refine EVO.p1 (aB true) ?_
        refine EVO.p1 (aB true) ?_
        refine EVO.s1 ?_
        refine EVO.s1 ?_
        refine EVO.s1 ?_
        refine EVO.p1 (aB true) ?_
        refine EVO.done ?_
        refine CQ.n1 [1, 48] (mkS 72 0 [(1, .hp 0 0), (48, aB true)]) [.own (api_Grid.c g)] ?_
        refine CQ.cT (by kernel_rfl) ?_
        refine CQ.seq ?_
        refine CQ.r0 fine ?_
        refine EVO.p1 (aI64 2) ?_
        refine EVO.done ?_
        refine CQ.ret ?_
        obtain rfl := Option.some.inj hr
        exact FinQ.r1 [aI64 2]
       ·replace hr := cd_f hb7 hr
        replace hr := bd hr; obtain ⟨v8, hc9, hr⟩ := hr
        rcases Bool.eq_false_or_eq_true v8 with hb10 | hb10
        ·subst hb10
         replace hr := cd_t rfl hr
         refine CQ.region fine (callOf_1 149 [aI64 g.X0] [.own (api_Grid.c g)] (.loc (aB true) [] [] 0) (callOk_val (l := []) (args' := [aI64 g.X0]) rfl (SnL.cons (Sn.pure rfl) SnL.nil) (fiduciallaw51_out_ok n g.X0 true hc9))) ?_
         refine EVO.p1 (.hp 0 3) ?_
         refine EVO.p1 (aI64 g.Width) ?_
         refine EVO.p0 (v := aB false) (Eq.trans (b := some (.pure (aB (decide (g.Width < 2))))) (by kernel_rfl) (by rw [hb1])) ?_
         refine EVO.p1 (aB false) ?_
         refine EVO.q1 (.hp 0 3) ?_
         refine EVO.q1 (aI64 g.Width) ?_
         refine EVO.pure (v := aB false) (by kernel_rfl) (Eq.trans (b := some (.pure (aB (decide (g.Width > 64))))) (by kernel_rfl) (by rw [hb2])) ?_
         refine EVO.p1 (aB false) ?_
         refine EVO.p1 (aB false) ?_
         refine EVO.q1 (.hp 0 4) ?_
         refine EVO.q1 (aI64 g.Height) ?_
         refine EVO.pure (v := aB false) (by kernel_rfl) (Eq.trans (b := some (.pure (aB (decide (g.Height < 2))))) (by kernel_rfl) (by rw [hb3])) ?_
         refine EVO.p1 (aB false) ?_
         refine EVO.p1 (aB false) ?_
         refine EVO.q1 (.hp 0 4) ?_
         refine EVO.q1 (aI64 g.Height) ?_
         refine EVO.pure (v := aB false) (by kernel_rfl) (Eq.trans (b := some (.pure (aB (decide (g.Height > 64))))) (by kernel_rfl) (by rw [hb4])) ?_
         refine EVO.p1 (aB false) ?_
         refine EVO.p1 (aB false) ?_
         refine EVO.q1 (.hp 0 2) ?_
         refine EVO.q1 (aI64 g.Step) ?_
         refine EVO.pure (v := aB false) (by kernel_rfl) (Eq.trans (b := some (.pure (aB (decide (g.Step < 2))))) (by kernel_rfl) (by rw [hb5])) ?_
         refine EVO.p1 (aB false) ?_
         refine EVO.p1 (aB false) ?_
         refine EVO.q1 (.hp 0 2) ?_
         refine EVO.q1 (aI64 g.Step) ?_
         refine EVO.pure (v := aB false) (by kernel_rfl) (Eq.trans (b := some (.pure (aB (decide (g.Step > 65536))))) (by kernel_rfl) (by rw [hb6])) ?_
         refine EVO.p1 (aB false) ?_
         refine EVO.p1 (aB false) ?_
         refine EVO.q1 (.hp 0 2) ?_
         refine EVO.q1 (aI64 g.Step) ?_
         refine EVO.q1 (aI64 (g.Step.tmod 2)) ?_
         refine EVO.pure (v := aB false) (by kernel_rfl) (Eq.trans (b := some (.pure (aB (((g.Step.tmod 2) : Int) != 0)))) (by kernel_rfl) (by rw [hb7])) ?_
         refine EVO.p1 (aB false) ?_
         refine EVO.p1 (aB false) ?_
         refine EVO.q1 (.hp 0 0) ?_
         refine EVO.q1 (aI64 g.X0) ?_
         refine EVO.cal (by kernel_rfl) (by kernel_rfl) (callOf_at (by kernel_rfl)) ?_
         refine EVO.p1 (aB true) ?_
         refine EVO.p1 (aB true) ?_
         refine EVO.s1 ?_
         refine EVO.s1 ?_
         refine EVO.s1 ?_
         refine EVO.p1 (aB true) ?_
         refine EVO.done ?_
         refine CQ.n1 [1, 48] (mkS 72 0 [(1, .hp 0 0), (48, aB true)]) [.own (api_Grid.c g)] ?_
         refine CQ.cT (by kernel_rfl) ?_
         refine CQ.seq ?_
         refine CQ.r0 fine ?_
         refine EVO.p1 (aI64 2) ?_
         refine EVO.done ?_
         refine CQ.ret ?_
         obtain rfl := Option.some.inj hr
         exact FinQ.r1 [aI64 2]
        ·subst hb10
         replace hr := cd_f rfl hr
         replace hr := bd hr; obtain ⟨v11, hc12, hr⟩ := hr
         refine CQ.region fine (callOf_ok [{ f := 149, args := [aI64 g.X0], H := [.own (api_Grid.c g)], r := .loc (aB false) [] [] 0 : CE }, { f := 149, args := [aI64 g.Y0], H := [.own (api_Grid.c g)], r := .loc (aB v11) [] [] 0 : CE }] (List.forall_mem_cons.2 ⟨(callOk_val (l := []) (args' := [aI64 g.X0]) rfl (SnL.cons (Sn.pure rfl) SnL.nil) (fiduciallaw51_out_ok n g.X0 false hc9)), (List.forall_mem_cons.2 ⟨(callOk_val (l := []) (args' := [aI64 g.Y0]) rfl (SnL.cons (Sn.pure rfl) SnL.nil) (fiduciallaw51_out_ok n g.Y0 v11 hc12)), ce0⟩)⟩)) ?_
         refine EVO.p1 (.hp 0 3) ?_
         refine EVO.p1 (aI64 g.Width) ?_
         refine EVO.p0 (v := aB false) (Eq.trans (b := some (.pure (aB (decide (g.Width < 2))))) (by kernel_rfl) (by rw [hb1])) ?_
         refine EVO.p1 (aB false) ?_
         refine EVO.q1 (.hp 0 3) ?_
         refine EVO.q1 (aI64 g.Width) ?_
         refine EVO.pure (v := aB false) (by kernel_rfl) (Eq.trans (b := some (.pure (aB (decide (g.Width > 64))))) (by kernel_rfl) (by rw [hb2])) ?_
         refine EVO.p1 (aB false) ?_
         refine EVO.p1 (aB false) ?_
         refine EVO.q1 (.hp 0 4) ?_
         refine EVO.q1 (aI64 g.Height) ?_
         refine EVO.pure (v := aB false) (by kernel_rfl) (Eq.trans (b := some (.pure (aB (decide (g.Height < 2))))) (by kernel_rfl) (by rw [hb3])) ?_
         refine EVO.p1 (aB false) ?_
         refine EVO.p1 (aB false) ?_
         refine EVO.q1 (.hp 0 4) ?_
         refine EVO.q1 (aI64 g.Height) ?_
         refine EVO.pure (v := aB false) (by kernel_rfl) (Eq.trans (b := some (.pure (aB (decide (g.Height > 64))))) (by kernel_rfl) (by rw [hb4])) ?_
         refine EVO.p1 (aB false) ?_
         refine EVO.p1 (aB false) ?_
         refine EVO.q1 (.hp 0 2) ?_
         refine EVO.q1 (aI64 g.Step) ?_
         refine EVO.pure (v := aB false) (by kernel_rfl) (Eq.trans (b := some (.pure (aB (decide (g.Step < 2))))) (by kernel_rfl) (by rw [hb5])) ?_
         refine EVO.p1 (aB false) ?_
         refine EVO.p1 (aB false) ?_
         refine EVO.q1 (.hp 0 2) ?_
         refine EVO.q1 (aI64 g.Step) ?_
         refine EVO.pure (v := aB false) (by kernel_rfl) (Eq.trans (b := some (.pure (aB (decide (g.Step > 65536))))) (by kernel_rfl) (by rw [hb6])) ?_
         refine EVO.p1 (aB false) ?_
         refine EVO.p1 (aB false) ?_
         refine EVO.q1 (.hp 0 2) ?_
         refine EVO.q1 (aI64 g.Step) ?_
         refine EVO.q1 (aI64 (g.Step.tmod 2)) ?_
         refine EVO.pure (v := aB false) (by kernel_rfl) (Eq.trans (b := some (.pure (aB (((g.Step.tmod 2) : Int) != 0)))) (by kernel_rfl) (by rw [hb7])) ?_
         refine EVO.p1 (aB false) ?_
         refine EVO.p1 (aB false) ?_
         refine EVO.q1 (.hp 0 0) ?_
         refine EVO.q1 (aI64 g.X0) ?_
         refine EVO.cal (by kernel_rfl) (by kernel_rfl) (callOf_at (by kernel_rfl)) ?_
         refine EVO.p1 (aB false) ?_
         refine EVO.p1 (aB false) ?_
         refine EVO.q1 (.hp 0 1) ?_
         refine EVO.q1 (aI64 g.Y0) ?_
         refine EVO.cal (by kernel_rfl) (by kernel_rfl) (callOf_skip (fun _ h => by obtain e0 := fiduciallaw51_out_inj h; rw [show v11 = false from Option.some.inj (hc12.symm.trans ((show fiduciallaw51_out n g.Y0 = fiduciallaw51_out n g.X0 from (congr rfl e0)).trans hc9))]) (callOf_at (by kernel_rfl))) ?_
         refine EVO.p1 (aB v11) ?_
         refine EVO.done ?_
         refine CQ.n1 [1, 48] (mkS 72 0 [(1, .hp 0 0), (48, aB v11)]) [.own (api_Grid.c g)] ?_
         refine CQ.cond (t := v11) (by kernel_rfl) (fun hb13 => ?_) (fun hb13 => ?_)
         ·replace hr := cd_t hb13 hr
          refine CQ.seq ?_
          refine CQ.r0 fine ?_
          refine EVO.p1 (aI64 2) ?_
          refine EVO.done ?_
          refine CQ.ret ?_
          obtain rfl := Option.some.inj hr
          exact FinQ.r1 [aI64 2]
         ·replace hr := cd_f hb13 hr
          refine CQ.skip ?_
          refine CQ.seq ?_
          refine CQ.seq ?_
          refine CQ.r0 fine ?_
          refine EVO.p1 (.hp 0 5) ?_
          refine EVO.p1 (sI64 g.Z) ?_
          refine EVO.p1 (aI64 (g.Z.length : Int)) ?_
          refine EVO.p1 (.hp 0 3) ?_
          refine EVO.p1 (aI64 g.Width) ?_
          refine EVO.p1 (.hp 0 4) ?_
          refine EVO.p1 (aI64 g.Height) ?_
          refine EVO.p1 (aI64 (wrapF .i64 (g.Width * g.Height))) ?_
          refine EVO.p1 (aB (((g.Z.length : Int) : Int) != (wrapF .i64 (g.Width * g.Height)))) ?_
          refine EVO.done ?_
          refine CQ.n1 [1, 57] (mkS 72 0 [(1, .hp 0 0), (57, aB (((g.Z.length : Int) : Int) != (wrapF .i64 (g.Width * g.Height))))]) [.own (api_Grid.c g)] ?_
          refine CQ.cond (t := ((g.Z.length : Int) : Int) != (wrapF .i64 (g.Width * g.Height))) (by kernel_rfl) (fun hb14 => ?_) (fun hb14 => ?_)
          ·replace hr := cd_t hb14 hr
           refine CQ.seq ?_
           refine CQ.r0 fine ?_
           refine EVO.p1 (aI64 4) ?_
           refine EVO.done ?_
           refine CQ.ret ?_
           obtain rfl := Option.some.inj hr
           exact FinQ.r1 [aI64 4]
          ·replace hr := cd_f hb14 hr
           refine CQ.skip ?_
           refine CQ.seq ?_
           refine CQ.seq ?_
           refine CQ.r0 fine ?_
           refine EVO.p1 (.hp 0 5) ?_
           refine EVO.p1 (sI64 g.Z) ?_
           refine EVO.p1 (aI64 (g.Z.length : Int)) ?_
           refine EVO.p1 (aI64 0) ?_
           refine EVO.done ?_
           refine CQ.n1 [59, 60, 61] (mkS 72 0 [(59, sI64 g.Z), (60, aI64 (g.Z.length : Int)), (61, aI64 0)]) [.own (api_Grid.c g)] ?_
           refine CQ.block ?_
           replace hr := bd hr; obtain ⟨o29, hL30, hr⟩ := hr
           refine CQ.loopO (σ := fun z0 => match z0 with | x_15 => ⟨mkS 72 0 [(59, sI64 g.Z), (60, aI64 (g.Z.length : Int)), (61, aI64 x_15)], []⟩) (Q := fun x st' => match (generalizing := false) o29 with | .inl _ => x = .exit 0 ∧ Wk st' ⟨mkS 72 0 [], []⟩ | .inr (r0) => x = .ret ∧ FinQ Tryz.prog [.tmp 2] (aI64 r0) .ret st') hL30 ((Wk.gc [59, 60, 61] [] rfl trivial).to (by kernel_rfl)) ?_ ?_
           ·clear hr
            rintro m x_15 hr
            show CQ _ _ _ _ ⟨_, _⟩
            refine CQ.seq ?_
            refine CQ.r0 fine ?_
            refine EVO.p1 (aB (decide (x_15 < (g.Z.length : Int)))) ?_
            refine EVO.done ?_
            refine CQ.seq ?_
            refine CQ.cond (t := decide (x_15 < (g.Z.length : Int))) (by kernel_rfl) (fun hb23 => ?_) (fun hb23 => ?_)
            ·replace hr := cd_t hb23 hr
             refine CQ.skip ?_
             refine CQ.seq ?_
             refine CQ.block ?_
             refine CQ.seq ?_
             replace hr := gd hr; obtain ⟨hg24, hr⟩ := hr
             refine CQ.r0 fine ?_
             refine EVO.p0 (v := .pp (g.Z.flatMap (iC .i64)) (x_15.toNat * 1)) (Eq.trans (b := ORes.ofP (guardV (inR x_15 g.Z.length) (.pp (g.Z.flatMap (iC .i64)) (x_15.toNat * 1)))) (by kernel_rfl) (ofP_guard hg24)) ?_
             refine EVO.p0 (v := aI64 (gt g.Z x_15)) (Eq.trans (b := ORes.ofP ((g.Z.flatMap (iC .i64))[x_15.toNat * 1]?)) (by kernel_rfl) (ofP_some (flat_get (iC_len _) (inR_lt hg24) (by decide : 0 < 1) (by omega : x_15.toNat * 1 = x_15.toNat * 1 + 0) (by kernel_rfl)))) ?_
             refine EVO.p1 (aI64 (gt g.Z x_15)) ?_
             refine EVO.done ?_
             refine CQ.n1 [4, 59, 60, 61] (mkS 72 0 [(4, aI64 (gt g.Z x_15)), (59, sI64 g.Z), (60, aI64 (g.Z.length : Int)), (61, aI64 x_15)]) [] ?_
             refine CQ.seq ?_
             rcases Bool.eq_false_or_eq_true (((gt g.Z x_15) : Int) != (-2147483648)) with hb25 | hb25
             ·replace hr := cd_t hb25 hr
              replace hr := bd hr; obtain ⟨v26, hc27, hr⟩ := hr
              refine CQ.region fine (callOf_1 149 [aI64 (gt g.Z x_15)] [] (.loc (aB v26) [] [] 0) (callOk_val (l := []) (args' := [aI64 (gt g.Z x_15)]) rfl (SnL.cons (Sn.pure rfl) SnL.nil) (fiduciallaw51_out_ok n (gt g.Z x_15) v26 hc27))) ?_
              refine EVO.p1 (aI64 (gt g.Z x_15)) ?_
              refine EVO.p0 (v := aB true) (Eq.trans (b := some (.pure (aB (((gt g.Z x_15) : Int) != (-2147483648))))) (by kernel_rfl) (by rw [hb25])) ?_
              refine EVO.p1 (aB true) ?_
              refine EVO.q1 (aI64 (gt g.Z x_15)) ?_
              refine EVO.cal (by kernel_rfl) (by kernel_rfl) (callOf_at (by kernel_rfl)) ?_
              refine EVO.p1 (aB v26) ?_
              refine EVO.done ?_
              refine CQ.n1 [59, 60, 61, 70] (mkS 72 0 [(59, sI64 g.Z), (60, aI64 (g.Z.length : Int)), (61, aI64 x_15), (70, aB v26)]) [] ?_
              refine CQ.cond (t := v26) (by kernel_rfl) (fun hb28 => ?_) (fun hb28 => ?_)
              ·replace hr := cd_t hb28 hr
               refine CQ.seq ?_
               refine CQ.r0 fine ?_
               refine EVO.p1 (aI64 2) ?_
               refine EVO.done ?_
               refine CQ.ret ?_
               obtain rfl := Option.some.inj hr
               exact ⟨rfl, FinQ.ret (vs := [aI64 2]) (by kernel_rfl) (Sn.pure rfl)⟩
              ·replace hr := cd_f hb28 hr
               refine CQ.skip ?_
               refine CQ.pop ?_
               refine CQ.r0 fine ?_
               refine EVO.p1 (aI64 (wrapF .i64 (x_15 + 1))) ?_
               refine EVO.p1 (aI64 (wrapF .i64 (x_15 + 1))) ?_
               refine EVO.done ?_
               exact loopF_back (wrapF .i64 (x_15 + 1)) hr ((Wk.gc [59, 60, 61] [] rfl trivial).to (by kernel_rfl))
             ·replace hr := cd_f hb25 hr
              refine CQ.r0 fine ?_
              refine EVO.p1 (aI64 (gt g.Z x_15)) ?_
              refine EVO.p0 (v := aB false) (Eq.trans (b := some (.pure (aB (((gt g.Z x_15) : Int) != (-2147483648))))) (by kernel_rfl) (by rw [hb25])) ?_
              refine EVO.p1 (aB false) ?_
              refine EVO.s1 ?_
              refine EVO.s1 ?_
              refine EVO.p1 (aB false) ?_
              refine EVO.done ?_
              refine CQ.n1 [59, 60, 61, 70] (mkS 72 0 [(59, sI64 g.Z), (60, aI64 (g.Z.length : Int)), (61, aI64 x_15), (70, aB false)]) [] ?_
              refine CQ.cF (by kernel_rfl) ?_
              refine CQ.skip ?_
              refine CQ.pop ?_
              refine CQ.r0 fine ?_
              refine EVO.p1 (aI64 (wrapF .i64 (x_15 + 1))) ?_
              refine EVO.p1 (aI64 (wrapF .i64 (x_15 + 1))) ?_
              refine EVO.done ?_
              exact loopF_back (wrapF .i64 (x_15 + 1)) hr ((Wk.gc [59, 60, 61] [] rfl trivial).to (by kernel_rfl))
            ·replace hr := cd_f hb23 hr
             refine CQ.leave rfl ?_
             obtain rfl := Option.some.inj hr
             exact ⟨rfl, ((Wk.gc [] [] rfl trivial).to (by kernel_rfl))⟩
           ·rcases o29 with ⟨⟩ | r0
            ·rintro x st' hq31
             clear hL30
             obtain ⟨rfl, hq31⟩ := hq31
             refine CQ_exit _ rfl ?_
             refine CQ.wk hq31 ?_
             refine CQ.seq ?_
             refine CQ.r0 fine ?_
             refine EVO.p1 (aI64 0) ?_
             refine EVO.done ?_
             refine CQ.ret ?_
             obtain rfl := Option.some.inj hr
             exact FinQ.r1 [aI64 0]
            ·rintro x st' hq31
             clear hL30
             obtain ⟨rfl, hq31⟩ := hq31
             obtain rfl := Option.some.inj hr
             exact CQ_ret _ hq31

theorem fiduciallaw51_Checked_ok (n : Nat) (g : api_Grid) (r : Int) (hr : fiduciallaw51_Checked n g = some r) : FnOk Tryz.prog 95 [.agg [.at (.int .i64 g.X0), .at (.int .i64 g.Y0), .at (.int .i64 g.Step), .at (.int .i64 g.Width), .at (.int .i64 g.Height), slT (iC .i64) g.Z]] (.at (.int .i64 r)) := by
 unfold fiduciallaw51_Checked at hr
 refine FnOk.body fine Tryz.func95 (c := (Tryz.f95.body).getD .skip) rfl (s := mkS 5 0 [(0, .agg (api_Grid.c g))]) (by kernel_rfl) (rs := [.tmp 2]) rfl ?_
 unfold Tryz.f95
 simp only [Option.getD_some]
 refine CQ.seq ?_
 refine CQ.r0 fine ?_
 refine EVO.e1 (.hp 0 0) [(0, .own (api_Grid.c g))] ?_
 refine EVO.p1 (aI64 0) ?_
 refine EVO.done ?_
 refine CQ.n1 [1] (mkS 5 0 [(1, .hp 0 0)]) [.own (api_Grid.c g)] ?_
 refine CQ.seq ?_
 replace hr := bd hr; obtain ⟨v1, hc2, hr⟩ := hr
 refine CQ.region fine (callOf_1 126 [.agg (api_Grid.c g)] [.own (api_Grid.c g)] (.loc (aI64 v1) [] [] 0) (callOk_val (l := []) (args' := [.agg (api_Grid.c g)]) rfl (SnL.cons (Sn.pure rfl) SnL.nil) (fiduciallaw51_check_ok n g v1 hc2))) ?_
 refine EVO.p1 (.agg (api_Grid.c g)) ?_
 refine EVO.c0 (by kernel_rfl) (callOf_at (by kernel_rfl)) ?_
 refine EVO.p1 (aI64 v1) ?_
 refine EVO.done ?_
 refine CQ.ret ?_
 obtain rfl := Option.some.inj hr
 exact FinQ.r1 [aI64 v1]

theorem fiduciallaw59_check_ok (n : Nat) (b : api_Banded) (r : Int) (hr : fiduciallaw59_check n b = some r) : FnOk Tryz.prog 51 [.agg [.at (.int .i64 b.Grid.X0), .at (.int .i64 b.Grid.Y0), .at (.int .i64 b.Grid.Step), .at (.int .i64 b.Grid.Width), .at (.int .i64 b.Grid.Height), slT (iC .i64) b.Grid.Z, slT (iC .i64) b.Err]] (.at (.int .i64 r)) := by
 unfold fiduciallaw59_check at hr
 refine FnOk.body fine Tryz.func51 (c := (Tryz.f51.body).getD .skip) rfl (s := mkS 34 0 [(0, .agg (api_Banded.c b))]) (by kernel_rfl) (rs := [.tmp 2]) rfl ?_
 unfold Tryz.f51
 simp only [Option.getD_some]
 refine CQ.seq ?_
 refine CQ.r0 fine ?_
 refine EVO.e1 (.hp 0 0) [(0, .own (api_Banded.c b))] ?_
 refine EVO.p1 (aI64 0) ?_
 refine EVO.done ?_
 refine CQ.n1 [1] (mkS 34 0 [(1, .hp 0 0)]) [.own (api_Banded.c b)] ?_
 refine CQ.seq ?_
 refine CQ.seq ?_
 replace hr := bd hr; obtain ⟨v1, hc2, hr⟩ := hr
 refine CQ.region fine (callOf_1 95 [.agg (api_Grid.c b.Grid)] [.own (api_Banded.c b)] (.loc (aI64 v1) [] [] 0) (callOk_val (l := []) (args' := [.agg (api_Grid.c b.Grid)]) rfl (SnL.cons (Sn.pure rfl) SnL.nil) (fiduciallaw51_Checked_ok n b.Grid v1 hc2))) ?_
 refine EVO.p1 (.hp 0 0) ?_
 refine EVO.p1 (.agg (api_Grid.c b.Grid)) ?_
 refine EVO.c0 (by kernel_rfl) (callOf_at (by kernel_rfl)) ?_
 refine EVO.p1 (aI64 v1) ?_
 refine EVO.done ?_
 refine CQ.n1 [1, 3] (mkS 34 0 [(1, .hp 0 0), (3, aI64 v1)]) [.own (api_Banded.c b)] ?_
 refine CQ.seq ?_
 refine CQ.r0 fine ?_
 refine EVO.p1 (aI64 v1) ?_
 refine EVO.p1 (aB ((v1 : Int) != 0)) ?_
 refine EVO.done ?_
 refine CQ.n1 [1, 3, 10] (mkS 34 0 [(1, .hp 0 0), (3, aI64 v1), (10, aB ((v1 : Int) != 0))]) [.own (api_Banded.c b)] ?_
 refine CQ.cond (t := (v1 : Int) != 0) (by kernel_rfl) (fun hb3 => ?_) (fun hb3 => ?_)
 ·replace hr := cd_t hb3 hr
  refine CQ.seq ?_
  refine CQ.r0 fine ?_
  refine EVO.p1 (aI64 v1) ?_
  refine EVO.p1 (aI64 v1) ?_
  refine EVO.done ?_
  refine CQ.ret ?_
  obtain rfl := Option.some.inj hr
  exact FinQ.r1 [aI64 v1]
 ·replace hr := cd_f hb3 hr
  refine CQ.skip ?_
  refine CQ.seq ?_
  refine CQ.seq ?_
  refine CQ.r0 fine ?_
  refine EVO.p1 (.hp 0 6) ?_
  refine EVO.p1 (sI64 b.Err) ?_
  refine EVO.p1 (aI64 (b.Err.length : Int)) ?_
  refine EVO.p1 (.hp 0 0) ?_
  refine EVO.p1 (.hp 0 5) ?_
  refine EVO.p1 (sI64 b.Grid.Z) ?_
  refine EVO.p1 (aI64 (b.Grid.Z.length : Int)) ?_
  refine EVO.p1 (aB (((b.Err.length : Int) : Int) != (b.Grid.Z.length : Int))) ?_
  refine EVO.done ?_
  refine CQ.n1 [1, 19] (mkS 34 0 [(1, .hp 0 0), (19, aB (((b.Err.length : Int) : Int) != (b.Grid.Z.length : Int)))]) [.own (api_Banded.c b)] ?_
  refine CQ.cond (t := ((b.Err.length : Int) : Int) != (b.Grid.Z.length : Int)) (by kernel_rfl) (fun hb4 => ?_) (fun hb4 => ?_)
  ·replace hr := cd_t hb4 hr
   refine CQ.seq ?_
   refine CQ.r0 fine ?_
   refine EVO.p1 (aI64 4) ?_
   refine EVO.done ?_
   refine CQ.ret ?_
   obtain rfl := Option.some.inj hr
   exact FinQ.r1 [aI64 4]
  ·replace hr := cd_f hb4 hr
   refine CQ.skip ?_
   refine CQ.seq ?_
   refine CQ.seq ?_
   refine CQ.r0 fine ?_
   refine EVO.p1 (.hp 0 6) ?_
   refine EVO.p1 (sI64 b.Err) ?_
   refine EVO.p1 (aI64 (b.Err.length : Int)) ?_
   refine EVO.p1 (aI64 0) ?_
   refine EVO.done ?_
   refine CQ.n1 [21, 22, 23] (mkS 34 0 [(21, sI64 b.Err), (22, aI64 (b.Err.length : Int)), (23, aI64 0)]) [.own (api_Banded.c b)] ?_
   refine CQ.block ?_
   replace hr := bd hr; obtain ⟨o15, hL16, hr⟩ := hr
   refine CQ.loopO (σ := fun z0 => match z0 with | x_5 => ⟨mkS 34 0 [(21, sI64 b.Err), (22, aI64 (b.Err.length : Int)), (23, aI64 x_5)], []⟩) (Q := fun x st' => match (generalizing := false) o15 with | .inl _ => x = .exit 0 ∧ Wk st' ⟨mkS 34 0 [], []⟩ | .inr (r0) => x = .ret ∧ FinQ Tryz.prog [.tmp 2] (aI64 r0) .ret st') hL16 ((Wk.gc [21, 22, 23] [] rfl trivial).to (by kernel_rfl)) ?_ ?_
   ·clear hr
    rintro m x_5 hr
    show CQ _ _ _ _ ⟨_, _⟩
    refine CQ.seq ?_
    refine CQ.r0 fine ?_
    refine EVO.p1 (aB (decide (x_5 < (b.Err.length : Int)))) ?_
    refine EVO.done ?_
    refine CQ.seq ?_
    refine CQ.cond (t := decide (x_5 < (b.Err.length : Int))) (by kernel_rfl) (fun hb11 => ?_) (fun hb11 => ?_)
    ·replace hr := cd_t hb11 hr
     refine CQ.skip ?_
     refine CQ.seq ?_
     refine CQ.block ?_
     refine CQ.seq ?_
     replace hr := gd hr; obtain ⟨hg12, hr⟩ := hr
     refine CQ.r0 fine ?_
     refine EVO.p0 (v := .pp (b.Err.flatMap (iC .i64)) (x_5.toNat * 1)) (Eq.trans (b := ORes.ofP (guardV (inR x_5 b.Err.length) (.pp (b.Err.flatMap (iC .i64)) (x_5.toNat * 1)))) (by kernel_rfl) (ofP_guard hg12)) ?_
     refine EVO.p0 (v := aI64 (gt b.Err x_5)) (Eq.trans (b := ORes.ofP ((b.Err.flatMap (iC .i64))[x_5.toNat * 1]?)) (by kernel_rfl) (ofP_some (flat_get (iC_len _) (inR_lt hg12) (by decide : 0 < 1) (by omega : x_5.toNat * 1 = x_5.toNat * 1 + 0) (by kernel_rfl)))) ?_
     refine EVO.p1 (aI64 (gt b.Err x_5)) ?_
     refine EVO.done ?_
     refine CQ.n1 [5, 21, 22, 23] (mkS 34 0 [(5, aI64 (gt b.Err x_5)), (21, sI64 b.Err), (22, aI64 (b.Err.length : Int)), (23, aI64 x_5)]) [] ?_
     refine CQ.seq ?_
     rcases Bool.eq_false_or_eq_true (decide ((gt b.Err x_5) < 0)) with hb13 | hb13
     ·replace hr := cd_t hb13 hr
      refine CQ.r0 fine ?_
      refine EVO.p1 (aI64 (gt b.Err x_5)) ?_
      refine EVO.p0 (v := aB true) (Eq.trans (b := some (.pure (aB (decide ((gt b.Err x_5) < 0))))) (by kernel_rfl) (by rw [hb13])) ?_
      refine EVO.p1 (aB true) ?_
      refine EVO.s1 ?_
      refine EVO.s1 ?_
      refine EVO.p1 (aB true) ?_
      refine EVO.done ?_
      refine CQ.n1 [21, 22, 23, 32] (mkS 34 0 [(21, sI64 b.Err), (22, aI64 (b.Err.length : Int)), (23, aI64 x_5), (32, aB true)]) [] ?_
      refine CQ.cT (by kernel_rfl) ?_
      refine CQ.seq ?_
      refine CQ.r0 fine ?_
      refine EVO.p1 (aI64 2) ?_
      refine EVO.done ?_
      refine CQ.ret ?_
      obtain rfl := Option.some.inj hr
      exact ⟨rfl, FinQ.ret (vs := [aI64 2]) (by kernel_rfl) (Sn.pure rfl)⟩
     ·replace hr := cd_f hb13 hr
      refine CQ.r0 fine ?_
      refine EVO.p1 (aI64 (gt b.Err x_5)) ?_
      refine EVO.p0 (v := aB false) (Eq.trans (b := some (.pure (aB (decide ((gt b.Err x_5) < 0))))) (by kernel_rfl) (by rw [hb13])) ?_
      refine EVO.p1 (aB false) ?_
      refine EVO.q1 (aI64 (gt b.Err x_5)) ?_
      refine EVO.q1 (aB (decide ((gt b.Err x_5) > 1048576))) ?_
      refine EVO.p1 (aB (decide ((gt b.Err x_5) > 1048576))) ?_
      refine EVO.done ?_
      refine CQ.n1 [21, 22, 23, 32] (mkS 34 0 [(21, sI64 b.Err), (22, aI64 (b.Err.length : Int)), (23, aI64 x_5), (32, aB (decide ((gt b.Err x_5) > 1048576)))]) [] ?_
      refine CQ.cond (t := decide ((gt b.Err x_5) > 1048576)) (by kernel_rfl) (fun hb14 => ?_) (fun hb14 => ?_)
      ·replace hr := cd_t hb14 hr
       refine CQ.seq ?_
       refine CQ.r0 fine ?_
       refine EVO.p1 (aI64 2) ?_
       refine EVO.done ?_
       refine CQ.ret ?_
       obtain rfl := Option.some.inj hr
       exact ⟨rfl, FinQ.ret (vs := [aI64 2]) (by kernel_rfl) (Sn.pure rfl)⟩
      ·replace hr := cd_f hb14 hr
       refine CQ.skip ?_
       refine CQ.pop ?_
       refine CQ.r0 fine ?_
       refine EVO.p1 (aI64 (wrapF .i64 (x_5 + 1))) ?_
       refine EVO.p1 (aI64 (wrapF .i64 (x_5 + 1))) ?_
       refine EVO.done ?_
       exact loopF_back (wrapF .i64 (x_5 + 1)) hr ((Wk.gc [21, 22, 23] [] rfl trivial).to (by kernel_rfl))
    ·replace hr := cd_f hb11 hr
     refine CQ.leave rfl ?_
     obtain rfl := Option.some.inj hr
     exact ⟨rfl, ((Wk.gc [] [] rfl trivial).to (by kernel_rfl))⟩
   ·rcases o15 with ⟨⟩ | r0
    ·rintro x st' hq17
     clear hL16
     obtain ⟨rfl, hq17⟩ := hq17
     refine CQ_exit _ rfl ?_
     refine CQ.wk hq17 ?_
     refine CQ.seq ?_
     refine CQ.r0 fine ?_
     refine EVO.p1 (aI64 0) ?_
     refine EVO.done ?_
     refine CQ.ret ?_
     obtain rfl := Option.some.inj hr
     exact FinQ.r1 [aI64 0]
    ·rintro x st' hq17
     clear hL16
     obtain ⟨rfl, hq17⟩ := hq17
     obtain rfl := Option.some.inj hr
     exact CQ_ret _ hq17

theorem fiduciallaw59_fits_ok (n : Nat) (l : List api_Banded) (r : Int) (hr : fiduciallaw59_fits n l = some r) : FnOk Tryz.prog 15 [slT api_Banded.c l] (.at (.int .i64 r)) := by
 unfold fiduciallaw59_fits at hr
 refine FnOk.body fine Tryz.func15 (c := (Tryz.f15.body).getD .skip) rfl (s := mkS 68 0 [(0, slT api_Banded.c l)]) (by kernel_rfl) (rs := [.tmp 2]) rfl ?_
 unfold Tryz.f15
 simp only [Option.getD_some]
 refine CQ.seq ?_
 refine CQ.r0 fine ?_
 refine EVO.p1 (aI64 0) ?_
 refine EVO.done ?_
 refine CQ.n1 [0] (mkS 68 0 [(0, slT api_Banded.c l)]) [] ?_
 refine CQ.seq ?_
 refine CQ.seq ?_
 refine CQ.r0 fine ?_
 refine EVO.p1 (slT api_Banded.c l) ?_
 refine EVO.p1 (aI64 (l.length : Int)) ?_
 refine EVO.p1 (aI64 0) ?_
 refine EVO.done ?_
 refine CQ.block ?_
 replace hr := bd hr; obtain ⟨o13, hL14, hr⟩ := hr
 refine CQ.loopO (σ := fun z0 => match z0 with | x_1 => ⟨mkS 68 0 [(0, slT api_Banded.c l), (10, slT api_Banded.c l), (11, aI64 (l.length : Int)), (12, aI64 x_1)], []⟩) (Q := fun x st' => match (generalizing := false) o13 with | .inl _ => x = .exit 0 ∧ Wk st' ⟨mkS 68 0 [(0, slT api_Banded.c l)], []⟩ | .inr (r0) => x = .ret ∧ FinQ Tryz.prog [.tmp 2] (aI64 r0) .ret st') hL14 ((Wk.gc [0, 10, 11, 12] [] rfl trivial).to (by kernel_rfl)) ?_ ?_
 ·clear hr
  rintro m x_1 hr
  show CQ _ _ _ _ ⟨_, _⟩
  refine CQ.seq ?_
  refine CQ.r0 fine ?_
  refine EVO.p1 (aB (decide (x_1 < (l.length : Int)))) ?_
  refine EVO.done ?_
  refine CQ.seq ?_
  refine CQ.cond (t := decide (x_1 < (l.length : Int))) (by kernel_rfl) (fun hb8 => ?_) (fun hb8 => ?_)
  ·replace hr := cd_t hb8 hr
   refine CQ.skip ?_
   refine CQ.seq ?_
   refine CQ.block ?_
   refine CQ.seq ?_
   replace hr := gd hr; obtain ⟨hg9, hr⟩ := hr
   refine CQ.r0 fine ?_
   refine EVO.p0 (v := .pp (l.flatMap api_Banded.c) (x_1.toNat * 7)) (Eq.trans (b := ORes.ofP (guardV (inR x_1 l.length) (.pp (l.flatMap api_Banded.c) (x_1.toNat * 7)))) (by kernel_rfl) (ofP_guard hg9)) ?_
   refine EVO.p0 (v := .agg (api_Banded.c (gt l x_1))) (Eq.trans (b := ORes.ofP (guardV (decide (7 ≤ ((l.flatMap api_Banded.c).drop (x_1.toNat * 7)).length)) (.agg (((l.flatMap api_Banded.c).drop (x_1.toNat * 7)).take 7)))) (by kernel_rfl) (flat_load api_Banded.len (inR_lt hg9) (by decide) (by omega : x_1.toNat * 7 = x_1.toNat * 7 + 0) (by kernel_rfl))) ?_
   refine EVO.e1 (.hp 0 0) [(0, .own [aI64 0, aI64 0, aI64 0, aI64 0, aI64 0, .at (.slice none 0 0), .at (.slice none 0 0)])] ?_
   refine EVO.e1 (.unk) [(0, .own (api_Banded.c (gt l x_1)))] ?_
   refine EVO.done ?_
   refine CQ.n1 [0, 4, 10, 11, 12] (mkS 68 0 [(0, slT api_Banded.c l), (4, .hp 0 0), (10, slT api_Banded.c l), (11, aI64 (l.length : Int)), (12, aI64 x_1)]) [.own (api_Banded.c (gt l x_1))] ?_
   refine CQ.seq ?_
   replace hr := bd hr; obtain ⟨v10, hc11, hr⟩ := hr
   refine CQ.region fine (callOf_1 51 [.agg (api_Banded.c (gt l x_1))] [.own (api_Banded.c (gt l x_1))] (.loc (aI64 v10) [] [] 0) (callOk_val (l := []) (args' := [.agg (api_Banded.c (gt l x_1))]) rfl (SnL.cons (Sn.pure rfl) SnL.nil) (fiduciallaw59_check_ok n (gt l x_1) v10 hc11))) ?_
   refine EVO.p1 (.agg (api_Banded.c (gt l x_1))) ?_
   refine EVO.c0 (by kernel_rfl) (callOf_at (by kernel_rfl)) ?_
   refine EVO.p1 (aI64 v10) ?_
   refine EVO.done ?_
   refine CQ.n1 [0, 5, 10, 11, 12] (mkS 68 0 [(0, slT api_Banded.c l), (5, aI64 v10), (10, slT api_Banded.c l), (11, aI64 (l.length : Int)), (12, aI64 x_1)]) [.own (api_Banded.c (gt l x_1))] ?_
   refine CQ.seq ?_
   refine CQ.r0 fine ?_
   refine EVO.p1 (aI64 v10) ?_
   refine EVO.p1 (aB ((v10 : Int) != 0)) ?_
   refine EVO.done ?_
   refine CQ.n1 [0, 5, 10, 11, 12, 19] (mkS 68 0 [(0, slT api_Banded.c l), (5, aI64 v10), (10, slT api_Banded.c l), (11, aI64 (l.length : Int)), (12, aI64 x_1), (19, aB ((v10 : Int) != 0))]) [.own (api_Banded.c (gt l x_1))] ?_
   refine CQ.cond (t := (v10 : Int) != 0) (by kernel_rfl) (fun hb12 => ?_) (fun hb12 => ?_)
   ·replace hr := cd_t hb12 hr
    refine CQ.seq ?_
    refine CQ.r0 fine ?_
    refine EVO.p1 (aI64 v10) ?_
    refine EVO.p1 (aI64 v10) ?_
    refine EVO.done ?_
    refine CQ.ret ?_
    obtain rfl := Option.some.inj hr
    exact ⟨rfl, FinQ.ret (vs := [aI64 v10]) (by kernel_rfl) (Sn.pure rfl)⟩
   ·replace hr := cd_f hb12 hr
    refine CQ.skip ?_
    refine CQ.pop ?_
    refine CQ.r0 fine ?_
    refine EVO.p1 (aI64 (wrapF .i64 (x_1 + 1))) ?_
    refine EVO.p1 (aI64 (wrapF .i64 (x_1 + 1))) ?_
    refine EVO.done ?_
    exact loopF_back (wrapF .i64 (x_1 + 1)) hr ((Wk.gc [0, 10, 11, 12] [] rfl trivial).to (by kernel_rfl))
  ·replace hr := cd_f hb8 hr
   refine CQ.leave rfl ?_
   obtain rfl := Option.some.inj hr
   exact ⟨rfl, ((Wk.gc [0] [] rfl trivial).to (by kernel_rfl))⟩
 ·rcases o13 with ⟨⟩ | r0
  ·rintro x st' hq15
   clear hL14
   obtain ⟨rfl, hq15⟩ := hq15
   refine CQ_exit _ rfl ?_
   refine CQ.wk hq15 ?_
   refine CQ.seq ?_
   refine CQ.seq ?_
   refine CQ.r0 fine ?_
   refine EVO.p1 (slT api_Banded.c l) ?_
   refine EVO.p1 (aI64 (l.length : Int)) ?_
   refine EVO.p1 (aI64 0) ?_
   refine EVO.done ?_
   refine CQ.block ?_
   replace hr := bd hr; obtain ⟨o34, hL35, hr⟩ := hr
   refine CQ.loopO (σ := fun z0 => match z0 with | x_16 => ⟨mkS 68 0 [(0, slT api_Banded.c l), (22, slT api_Banded.c l), (23, aI64 (l.length : Int)), (24, aI64 x_16)], []⟩) (Q := fun x st' => match (generalizing := false) o34 with | .inl _ => x = .exit 2 ∧ Wk st' ⟨mkS 68 0 [], []⟩ | .inr (r0) => x = .ret ∧ FinQ Tryz.prog [.tmp 2] (aI64 r0) .ret st') hL35 ((Wk.gc [0, 22, 23, 24] [] rfl trivial).to (by kernel_rfl)) ?_ ?_
   ·clear hr
    rintro m x_16 hr
    show CQ _ _ _ _ ⟨_, _⟩
    refine CQ.seq ?_
    refine CQ.r0 fine ?_
    refine EVO.p1 (aB (decide (x_16 < (l.length : Int)))) ?_
    refine EVO.done ?_
    refine CQ.seq ?_
    refine CQ.cond (t := decide (x_16 < (l.length : Int))) (by kernel_rfl) (fun hb26 => ?_) (fun hb26 => ?_)
    ·replace hr := cd_t hb26 hr
     refine CQ.skip ?_
     refine CQ.seq ?_
     refine CQ.block ?_
     refine CQ.seq ?_
     replace hr := gd hr; obtain ⟨hg27, hr⟩ := hr
     refine CQ.r0 fine ?_
     refine EVO.p0 (v := .pp (l.flatMap api_Banded.c) (x_16.toNat * 7)) (Eq.trans (b := ORes.ofP (guardV (inR x_16 l.length) (.pp (l.flatMap api_Banded.c) (x_16.toNat * 7)))) (by kernel_rfl) (ofP_guard hg27)) ?_
     refine EVO.p0 (v := .agg (api_Banded.c (gt l x_16))) (Eq.trans (b := ORes.ofP (guardV (decide (7 ≤ ((l.flatMap api_Banded.c).drop (x_16.toNat * 7)).length)) (.agg (((l.flatMap api_Banded.c).drop (x_16.toNat * 7)).take 7)))) (by kernel_rfl) (flat_load api_Banded.len (inR_lt hg27) (by decide) (by omega : x_16.toNat * 7 = x_16.toNat * 7 + 0) (by kernel_rfl))) ?_
     refine EVO.e1 (.hp 0 0) [(0, .own [aI64 0, aI64 0, aI64 0, aI64 0, aI64 0, .at (.slice none 0 0), .at (.slice none 0 0)])] ?_
     refine EVO.e1 (.unk) [(0, .own (api_Banded.c (gt l x_16)))] ?_
     refine EVO.done ?_
     refine CQ.n1 [0, 7, 22, 23, 24] (mkS 68 0 [(0, slT api_Banded.c l), (7, .hp 0 0), (22, slT api_Banded.c l), (23, aI64 (l.length : Int)), (24, aI64 x_16)]) [.own (api_Banded.c (gt l x_16))] ?_
     refine CQ.seq ?_
     replace hr := gd hr; obtain ⟨hg28, hr⟩ := hr
     refine CQ.regionT fine callOf_nil ?_
     refine EVT.p1 (slT api_Banded.c l) ?_
     refine EVT.pure (v := .pp (l.flatMap api_Banded.c) ((0 : Int).toNat * 7)) (by kernel_rfl) (Eq.trans (b := ORes.ofP (guardV (inR 0 l.length) (.pp (l.flatMap api_Banded.c) ((0 : Int).toNat * 7)))) (by kernel_rfl) (ofP_guard hg28)) (by kernel_rfl) ?_
     refine EVT.p1 (.pp (l.flatMap api_Banded.c) ((0 : Int).toNat * 7 + 0)) ?_
     refine EVT.pure (v := .agg (api_Grid.c (gt l 0).Grid)) (by kernel_rfl) (Eq.trans (b := ORes.ofP (guardV (decide (6 ≤ ((l.flatMap api_Banded.c).drop ((0 : Int).toNat * 7 + 0)).length)) (.agg (((l.flatMap api_Banded.c).drop ((0 : Int).toNat * 7 + 0)).take 6)))) (by kernel_rfl) (flat_load api_Banded.len (inR_lt hg28) (by decide) (by omega : (0 : Int).toNat * 7 + 0 = (0 : Int).toNat * 7 + 0) (by kernel_rfl))) (by kernel_rfl) ?_
     refine EVT.p1 (.hp 0 0) ?_
     refine EVT.p1 (.agg (api_Grid.c (gt l x_16).Grid)) ?_
     refine EVT.e1 (.hp 1 0) [(1, .own [aI64 0, aI64 0, aI64 0, aI64 0, aI64 0, .at (.slice none 0 0)])] ?_
     refine EVT.e1 (.hp 2 0) [(2, .own [aI64 0, aI64 0, aI64 0, aI64 0, aI64 0, .at (.slice none 0 0)])] ?_
     refine EVT.e1 (.unk) [(1, .own (api_Grid.c (gt l 0).Grid))] ?_
     refine EVT.e1 (.unk) [(2, .own (api_Grid.c (gt l x_16).Grid))] ?_
     refine EVT.done ⟨by kernel_rfl, ?_⟩
     refine CQ.n1 [0, 8, 9, 22, 23, 24] (mkS 68 0 [(0, slT api_Banded.c l), (8, .hp 1 0), (9, .hp 2 0), (22, slT api_Banded.c l), (23, aI64 (l.length : Int)), (24, aI64 x_16)]) [.own (api_Banded.c (gt l x_16)), .own (api_Grid.c (gt l 0).Grid), .own (api_Grid.c (gt l x_16).Grid)] ?_
     refine CQ.seq ?_
     rcases Bool.eq_false_or_eq_true (((gt l 0).Grid.X0 : Int) != (gt l x_16).Grid.X0) with hb29 | hb29
     ·replace hr := cd_t hb29 hr
      refine CQ.r0 fine ?_
      refine EVO.p1 (.hp 1 0) ?_
      refine EVO.p1 (aI64 (gt l 0).Grid.X0) ?_
      refine EVO.p1 (.hp 2 0) ?_
      refine EVO.p1 (aI64 (gt l x_16).Grid.X0) ?_
      refine EVO.p0 (v := aB true) (Eq.trans (b := some (.pure (aB (((gt l 0).Grid.X0 : Int) != (gt l x_16).Grid.X0)))) (by kernel_rfl) (by rw [hb29])) ?_
      refine EVO.p1 (aB true) ?_
      refine EVO.s1 ?_
      refine EVO.s1 ?_
      refine EVO.s1 ?_
      refine EVO.s1 ?_
      refine EVO.s1 ?_
      refine EVO.p1 (aB true) ?_
      refine EVO.p1 (aB true) ?_
      refine EVO.s1 ?_
      refine EVO.s1 ?_
      refine EVO.s1 ?_
      refine EVO.s1 ?_
      refine EVO.s1 ?_
      refine EVO.p1 (aB true) ?_
      refine EVO.p1 (aB true) ?_
      refine EVO.s1 ?_
      refine EVO.s1 ?_
      refine EVO.s1 ?_
      refine EVO.s1 ?_
      refine EVO.s1 ?_
      refine EVO.p1 (aB true) ?_
      refine EVO.p1 (aB true) ?_
      refine EVO.s1 ?_
      refine EVO.s1 ?_
      refine EVO.s1 ?_
      refine EVO.s1 ?_
      refine EVO.s1 ?_
      refine EVO.p1 (aB true) ?_
      refine EVO.done ?_
      refine CQ.n1 [0, 22, 23, 24, 66] (mkS 68 0 [(0, slT api_Banded.c l), (22, slT api_Banded.c l), (23, aI64 (l.length : Int)), (24, aI64 x_16), (66, aB true)]) [.own (api_Banded.c (gt l x_16)), .own (api_Grid.c (gt l 0).Grid), .own (api_Grid.c (gt l x_16).Grid)] ?_
      refine CQ.cT (by kernel_rfl) ?_
      refine CQ.seq ?_
      refine CQ.r0 fine ?_
      refine EVO.p1 (aI64 4) ?_
      refine EVO.done ?_
      refine CQ.ret ?_
      obtain rfl := Option.some.inj hr
      exact ⟨rfl, FinQ.ret (vs := [aI64 4]) (by kernel_rfl) (Sn.pure rfl)⟩
     ·replace hr := cd_f hb29 hr
      rcases Bool.eq_false_or_eq_true (((gt l 0).Grid.Y0 : Int) != (gt l x_16).Grid.Y0) with hb30 | hb30
      ·replace hr := cd_t hb30 hr
       refine CQ.r0 fine ?_
       refine EVO.p1 (.hp 1 0) ?_
       refine EVO.p1 (aI64 (gt l 0).Grid.X0) ?_
       refine EVO.p1 (.hp 2 0) ?_
       refine EVO.p1 (aI64 (gt l x_16).Grid.X0) ?_
       refine EVO.p0 (v := aB false) (Eq.trans (b := some (.pure (aB (((gt l 0).Grid.X0 : Int) != (gt l x_16).Grid.X0)))) (by kernel_rfl) (by rw [hb29])) ?_
       refine EVO.p1 (aB false) ?_
       refine EVO.q1 (.hp 1 1) ?_
       refine EVO.q1 (aI64 (gt l 0).Grid.Y0) ?_
       refine EVO.q1 (.hp 2 1) ?_
       refine EVO.q1 (aI64 (gt l x_16).Grid.Y0) ?_
       refine EVO.pure (v := aB true) (by kernel_rfl) (Eq.trans (b := some (.pure (aB (((gt l 0).Grid.Y0 : Int) != (gt l x_16).Grid.Y0)))) (by kernel_rfl) (by rw [hb30])) ?_
       refine EVO.p1 (aB true) ?_
       refine EVO.p1 (aB true) ?_
       refine EVO.s1 ?_
       refine EVO.s1 ?_
       refine EVO.s1 ?_
       refine EVO.s1 ?_
       refine EVO.s1 ?_
       refine EVO.p1 (aB true) ?_
       refine EVO.p1 (aB true) ?_
       refine EVO.s1 ?_
       refine EVO.s1 ?_
       refine EVO.s1 ?_
       refine EVO.s1 ?_
       refine EVO.s1 ?_
       refine EVO.p1 (aB true) ?_
       refine EVO.p1 (aB true) ?_
       refine EVO.s1 ?_
       refine EVO.s1 ?_
       refine EVO.s1 ?_
       refine EVO.s1 ?_
       refine EVO.s1 ?_
       refine EVO.p1 (aB true) ?_
       refine EVO.done ?_
       refine CQ.n1 [0, 22, 23, 24, 66] (mkS 68 0 [(0, slT api_Banded.c l), (22, slT api_Banded.c l), (23, aI64 (l.length : Int)), (24, aI64 x_16), (66, aB true)]) [.own (api_Banded.c (gt l x_16)), .own (api_Grid.c (gt l 0).Grid), .own (api_Grid.c (gt l x_16).Grid)] ?_
       refine CQ.cT (by kernel_rfl) ?_
       refine CQ.seq ?_
       refine CQ.r0 fine ?_
       refine EVO.p1 (aI64 4) ?_
       refine EVO.done ?_
       refine CQ.ret ?_
       obtain rfl := Option.some.inj hr
       exact ⟨rfl, FinQ.ret (vs := [aI64 4]) (by kernel_rfl) (Sn.pure rfl)⟩
      ·replace hr := cd_f hb30 hr
       rcases Bool.eq_false_or_eq_true (((gt l 0).Grid.Step : Int) != (gt l x_16).Grid.Step) with hb31 | hb31
       ·replace hr := cd_t hb31 hr
        refine CQ.r0 fine ?_
        refine EVO.p1 (.hp 1 0) ?_
        refine EVO.p1 (aI64 (gt l 0).Grid.X0) ?_
        refine EVO.p1 (.hp 2 0) ?_
        refine EVO.p1 (aI64 (gt l x_16).Grid.X0) ?_
        refine EVO.p0 (v := aB false) (Eq.trans (b := some (.pure (aB (((gt l 0).Grid.X0 : Int) != (gt l x_16).Grid.X0)))) (by kernel_rfl) (by rw [hb29])) ?_
        refine EVO.p1 (aB false) ?_
        refine EVO.q1 (.hp 1 1) ?_
        refine EVO.q1 (aI64 (gt l 0).Grid.Y0) ?_
        refine EVO.q1 (.hp 2 1) ?_
        refine EVO.q1 (aI64 (gt l x_16).Grid.Y0) ?_
        refine EVO.pure (v := aB false) (by kernel_rfl) (Eq.trans (b := some (.pure (aB (((gt l 0).Grid.Y0 : Int) != (gt l x_16).Grid.Y0)))) (by kernel_rfl) (by rw [hb30])) ?_
        refine EVO.p1 (aB false) ?_
        refine EVO.p1 (aB false) ?_
        refine EVO.q1 (.hp 1 2) ?_
        refine EVO.q1 (aI64 (gt l 0).Grid.Step) ?_
        refine EVO.q1 (.hp 2 2) ?_
        refine EVO.q1 (aI64 (gt l x_16).Grid.Step) ?_
        refine EVO.pure (v := aB true) (by kernel_rfl) (Eq.trans (b := some (.pure (aB (((gt l 0).Grid.Step : Int) != (gt l x_16).Grid.Step)))) (by kernel_rfl) (by rw [hb31])) ?_
        refine EVO.p1 (aB true) ?_
        refine EVO.p1 (aB true) ?_
        refine EVO.s1 ?_
        refine EVO.s1 ?_
        refine EVO.s1 ?_
        refine EVO.s1 ?_
        refine EVO.s1 ?_
        refine EVO.p1 (aB true) ?_
        refine EVO.p1 (aB true) ?_
        refine EVO.s1 ?_
        refine EVO.s1 ?_
        refine EVO.s1 ?_
        refine EVO.s1 ?_
        refine EVO.s1 ?_
        refine EVO.p1 (aB true) ?_
        refine EVO.done ?_
        refine CQ.n1 [0, 22, 23, 24, 66] (mkS 68 0 [(0, slT api_Banded.c l), (22, slT api_Banded.c l), (23, aI64 (l.length : Int)), (24, aI64 x_16), (66, aB true)]) [.own (api_Banded.c (gt l x_16)), .own (api_Grid.c (gt l 0).Grid), .own (api_Grid.c (gt l x_16).Grid)] ?_
        refine CQ.cT (by kernel_rfl) ?_
        refine CQ.seq ?_
        refine CQ.r0 fine ?_
        refine EVO.p1 (aI64 4) ?_
        refine EVO.done ?_
        refine CQ.ret ?_
        obtain rfl := Option.some.inj hr
        exact ⟨rfl, FinQ.ret (vs := [aI64 4]) (by kernel_rfl) (Sn.pure rfl)⟩
       ·replace hr := cd_f hb31 hr
        rcases Bool.eq_false_or_eq_true (((gt l 0).Grid.Width : Int) != (gt l x_16).Grid.Width) with hb32 | hb32
        ·replace hr := cd_t hb32 hr
         refine CQ.r0 fine ?_
         refine EVO.p1 (.hp 1 0) ?_
         refine EVO.p1 (aI64 (gt l 0).Grid.X0) ?_
         refine EVO.p1 (.hp 2 0) ?_
         refine EVO.p1 (aI64 (gt l x_16).Grid.X0) ?_
         refine EVO.p0 (v := aB false) (Eq.trans (b := some (.pure (aB (((gt l 0).Grid.X0 : Int) != (gt l x_16).Grid.X0)))) (by kernel_rfl) (by rw [hb29])) ?_
         refine EVO.p1 (aB false) ?_
         refine EVO.q1 (.hp 1 1) ?_
         refine EVO.q1 (aI64 (gt l 0).Grid.Y0) ?_
         refine EVO.q1 (.hp 2 1) ?_
         refine EVO.q1 (aI64 (gt l x_16).Grid.Y0) ?_
         refine EVO.pure (v := aB false) (by kernel_rfl) (Eq.trans (b := some (.pure (aB (((gt l 0).Grid.Y0 : Int) != (gt l x_16).Grid.Y0)))) (by kernel_rfl) (by rw [hb30])) ?_
         refine EVO.p1 (aB false) ?_
         refine EVO.p1 (aB false) ?_
         refine EVO.q1 (.hp 1 2) ?_
         refine EVO.q1 (aI64 (gt l 0).Grid.Step) ?_
         refine EVO.q1 (.hp 2 2) ?_
         refine EVO.q1 (aI64 (gt l x_16).Grid.Step) ?_
         refine EVO.pure (v := aB false) (by kernel_rfl) (Eq.trans (b := some (.pure (aB (((gt l 0).Grid.Step : Int) != (gt l x_16).Grid.Step)))) (by kernel_rfl) (by rw [hb31])) ?_
         refine EVO.p1 (aB false) ?_
         refine EVO.p1 (aB false) ?_
         refine EVO.q1 (.hp 1 3) ?_
         refine EVO.q1 (aI64 (gt l 0).Grid.Width) ?_
         refine EVO.q1 (.hp 2 3) ?_
         refine EVO.q1 (aI64 (gt l x_16).Grid.Width) ?_
         refine EVO.pure (v := aB true) (by kernel_rfl) (Eq.trans (b := some (.pure (aB (((gt l 0).Grid.Width : Int) != (gt l x_16).Grid.Width)))) (by kernel_rfl) (by rw [hb32])) ?_
         refine EVO.p1 (aB true) ?_
         refine EVO.p1 (aB true) ?_
         refine EVO.s1 ?_
         refine EVO.s1 ?_
         refine EVO.s1 ?_
         refine EVO.s1 ?_
         refine EVO.s1 ?_
         refine EVO.p1 (aB true) ?_
         refine EVO.done ?_
         refine CQ.n1 [0, 22, 23, 24, 66] (mkS 68 0 [(0, slT api_Banded.c l), (22, slT api_Banded.c l), (23, aI64 (l.length : Int)), (24, aI64 x_16), (66, aB true)]) [.own (api_Banded.c (gt l x_16)), .own (api_Grid.c (gt l 0).Grid), .own (api_Grid.c (gt l x_16).Grid)] ?_
         refine CQ.cT (by kernel_rfl) ?_
         refine CQ.seq ?_
         refine CQ.r0 fine ?_
         refine EVO.p1 (aI64 4) ?_
         refine EVO.done ?_
         refine CQ.ret ?_
         obtain rfl := Option.some.inj hr
         exact ⟨rfl, FinQ.ret (vs := [aI64 4]) (by kernel_rfl) (Sn.pure rfl)⟩
        ·replace hr := cd_f hb32 hr
         refine CQ.r0 fine ?_
         refine EVO.p1 (.hp 1 0) ?_
         refine EVO.p1 (aI64 (gt l 0).Grid.X0) ?_
         refine EVO.p1 (.hp 2 0) ?_
         refine EVO.p1 (aI64 (gt l x_16).Grid.X0) ?_
         refine EVO.p0 (v := aB false) (Eq.trans (b := some (.pure (aB (((gt l 0).Grid.X0 : Int) != (gt l x_16).Grid.X0)))) (by kernel_rfl) (by rw [hb29])) ?_
         refine EVO.p1 (aB false) ?_
         refine EVO.q1 (.hp 1 1) ?_
         refine EVO.q1 (aI64 (gt l 0).Grid.Y0) ?_
         refine EVO.q1 (.hp 2 1) ?_
         refine EVO.q1 (aI64 (gt l x_16).Grid.Y0) ?_
         refine EVO.pure (v := aB false) (by kernel_rfl) (Eq.trans (b := some (.pure (aB (((gt l 0).Grid.Y0 : Int) != (gt l x_16).Grid.Y0)))) (by kernel_rfl) (by rw [hb30])) ?_
         refine EVO.p1 (aB false) ?_
         refine EVO.p1 (aB false) ?_
         refine EVO.q1 (.hp 1 2) ?_
         refine EVO.q1 (aI64 (gt l 0).Grid.Step) ?_
         refine EVO.q1 (.hp 2 2) ?_
         refine EVO.q1 (aI64 (gt l x_16).Grid.Step) ?_
         refine EVO.pure (v := aB false) (by kernel_rfl) (Eq.trans (b := some (.pure (aB (((gt l 0).Grid.Step : Int) != (gt l x_16).Grid.Step)))) (by kernel_rfl) (by rw [hb31])) ?_
         refine EVO.p1 (aB false) ?_
         refine EVO.p1 (aB false) ?_
         refine EVO.q1 (.hp 1 3) ?_
         refine EVO.q1 (aI64 (gt l 0).Grid.Width) ?_
         refine EVO.q1 (.hp 2 3) ?_
         refine EVO.q1 (aI64 (gt l x_16).Grid.Width) ?_
         refine EVO.pure (v := aB false) (by kernel_rfl) (Eq.trans (b := some (.pure (aB (((gt l 0).Grid.Width : Int) != (gt l x_16).Grid.Width)))) (by kernel_rfl) (by rw [hb32])) ?_
         refine EVO.p1 (aB false) ?_
         refine EVO.p1 (aB false) ?_
         refine EVO.q1 (.hp 1 4) ?_
         refine EVO.q1 (aI64 (gt l 0).Grid.Height) ?_
         refine EVO.q1 (.hp 2 4) ?_
         refine EVO.q1 (aI64 (gt l x_16).Grid.Height) ?_
         refine EVO.q1 (aB (((gt l 0).Grid.Height : Int) != (gt l x_16).Grid.Height)) ?_
         refine EVO.p1 (aB (((gt l 0).Grid.Height : Int) != (gt l x_16).Grid.Height)) ?_
         refine EVO.done ?_
         refine CQ.n1 [0, 22, 23, 24, 66] (mkS 68 0 [(0, slT api_Banded.c l), (22, slT api_Banded.c l), (23, aI64 (l.length : Int)), (24, aI64 x_16), (66, aB (((gt l 0).Grid.Height : Int) != (gt l x_16).Grid.Height))]) [.own (api_Banded.c (gt l x_16)), .own (api_Grid.c (gt l 0).Grid), .own (api_Grid.c (gt l x_16).Grid)] ?_
         refine CQ.cond (t := ((gt l 0).Grid.Height : Int) != (gt l x_16).Grid.Height) (by kernel_rfl) (fun hb33 => ?_) (fun hb33 => ?_)
         ·replace hr := cd_t hb33 hr
          refine CQ.seq ?_
          refine CQ.r0 fine ?_
          refine EVO.p1 (aI64 4) ?_
          refine EVO.done ?_
          refine CQ.ret ?_
          obtain rfl := Option.some.inj hr
          exact ⟨rfl, FinQ.ret (vs := [aI64 4]) (by kernel_rfl) (Sn.pure rfl)⟩
         ·replace hr := cd_f hb33 hr
          refine CQ.skip ?_
          refine CQ.pop ?_
          refine CQ.r0 fine ?_
          refine EVO.p1 (aI64 (wrapF .i64 (x_16 + 1))) ?_
          refine EVO.p1 (aI64 (wrapF .i64 (x_16 + 1))) ?_
          refine EVO.done ?_
          exact loopF_back (wrapF .i64 (x_16 + 1)) hr ((Wk.gc [0, 22, 23, 24] [] rfl trivial).to (by kernel_rfl))
    ·replace hr := cd_f hb26 hr
     refine CQ.leave rfl ?_
     obtain rfl := Option.some.inj hr
     exact ⟨rfl, ((Wk.gc [] [] rfl trivial).to (by kernel_rfl))⟩
   ·rcases o34 with ⟨⟩ | r0
    ·rintro x st' hq36
     clear hL35
     obtain ⟨rfl, hq36⟩ := hq36
     refine CQ_exit _ rfl ?_
     refine CQ.wk hq36 ?_
     refine CQ.seq ?_
     refine CQ.r0 fine ?_
     refine EVO.p1 (aI64 0) ?_
     refine EVO.done ?_
     refine CQ.ret ?_
     obtain rfl := Option.some.inj hr
     exact FinQ.r1 [aI64 0]
    ·rintro x st' hq36
     clear hL35
     obtain ⟨rfl, hq36⟩ := hq36
     obtain rfl := Option.some.inj hr
     exact CQ_ret _ hq36
  ·rintro x st' hq15
   clear hL14
   obtain ⟨rfl, hq15⟩ := hq15
   obtain rfl := Option.some.inj hr
   exact CQ_ret _ hq15

theorem fiduciallaw59_both_ok (n : Nat) (a : api_Banded) (b : api_Banded) (k : Int) (r : Int × Int × Bool) (hr : fiduciallaw59_both n a b k = some r) : FnOk Tryz.prog 19 [.agg [.at (.int .i64 a.Grid.X0), .at (.int .i64 a.Grid.Y0), .at (.int .i64 a.Grid.Step), .at (.int .i64 a.Grid.Width), .at (.int .i64 a.Grid.Height), slT (iC .i64) a.Grid.Z, slT (iC .i64) a.Err], .agg [.at (.int .i64 b.Grid.X0), .at (.int .i64 b.Grid.Y0), .at (.int .i64 b.Grid.Step), .at (.int .i64 b.Grid.Width), .at (.int .i64 b.Grid.Height), slT (iC .i64) b.Grid.Z, slT (iC .i64) b.Err], .at (.int .i64 k)] (.tup [.at (.int .i64 r.1), .at (.int .i64 r.2.1), .at (.bool r.2.2)]) := by
 unfold fiduciallaw59_both at hr
 refine FnOk.body fine Tryz.func19 (c := (Tryz.f19.body).getD .skip) rfl (s := mkS 43 0 [(0, .agg (api_Banded.c a)), (1, .agg (api_Banded.c b)), (2, aI64 k)]) (by kernel_rfl) (rs := [.tmp 6, .tmp 7, .tmp 8]) rfl ?_
 unfold Tryz.f19
 simp only [Option.getD_some]
 refine CQ.seq ?_
 refine CQ.r0 fine ?_
 refine EVO.e1 (.hp 0 0) [(0, .own (api_Banded.c a))] ?_
 refine EVO.e1 (.hp 1 0) [(1, .own (api_Banded.c b))] ?_
 refine EVO.p1 (aI64 0) ?_
 refine EVO.p1 (aI64 0) ?_
 refine EVO.p1 (aB false) ?_
 refine EVO.done ?_
 refine CQ.n1 [2, 3, 4] (mkS 43 0 [(2, aI64 k), (3, .hp 0 0), (4, .hp 1 0)]) [.own (api_Banded.c a), .own (api_Banded.c b)] ?_
 refine CQ.seq ?_
 replace hr := gd hr; obtain ⟨hg1, hr⟩ := hr
 replace hr := gd hr; obtain ⟨hg2, hr⟩ := hr
 refine CQ.regionT fine callOf_nil ?_
 refine EVT.p1 (.hp 0 0) ?_
 refine EVT.p1 (.hp 0 5) ?_
 refine EVT.p1 (sI64 a.Grid.Z) ?_
 refine EVT.p1 (aI64 k) ?_
 refine EVT.pure (v := .pp (a.Grid.Z.flatMap (iC .i64)) (k.toNat * 1)) (by kernel_rfl) (Eq.trans (b := ORes.ofP (guardV (inR k a.Grid.Z.length) (.pp (a.Grid.Z.flatMap (iC .i64)) (k.toNat * 1)))) (by kernel_rfl) (ofP_guard hg1)) (by kernel_rfl) ?_
 refine EVT.pure (v := aI64 (gt a.Grid.Z k)) (by kernel_rfl) (Eq.trans (b := ORes.ofP ((a.Grid.Z.flatMap (iC .i64))[k.toNat * 1]?)) (by kernel_rfl) (ofP_some (flat_get (iC_len _) (inR_lt hg1) (by decide : 0 < 1) (by omega : k.toNat * 1 = k.toNat * 1 + 0) (by kernel_rfl)))) (by kernel_rfl) ?_
 refine EVT.p1 (.hp 1 0) ?_
 refine EVT.p1 (.hp 1 5) ?_
 refine EVT.p1 (sI64 b.Grid.Z) ?_
 refine EVT.p1 (aI64 k) ?_
 refine EVT.pure (v := .pp (b.Grid.Z.flatMap (iC .i64)) (k.toNat * 1)) (by kernel_rfl) (Eq.trans (b := ORes.ofP (guardV (inR k b.Grid.Z.length) (.pp (b.Grid.Z.flatMap (iC .i64)) (k.toNat * 1)))) (by kernel_rfl) (ofP_guard hg2)) (by kernel_rfl) ?_
 refine EVT.pure (v := aI64 (gt b.Grid.Z k)) (by kernel_rfl) (Eq.trans (b := ORes.ofP ((b.Grid.Z.flatMap (iC .i64))[k.toNat * 1]?)) (by kernel_rfl) (ofP_some (flat_get (iC_len _) (inR_lt hg2) (by decide : 0 < 1) (by omega : k.toNat * 1 = k.toNat * 1 + 0) (by kernel_rfl)))) (by kernel_rfl) ?_
 refine EVT.p1 (aI64 (gt a.Grid.Z k)) ?_
 refine EVT.p1 (aI64 (gt b.Grid.Z k)) ?_
 refine EVT.done ⟨by kernel_rfl, ?_⟩
 refine CQ.n1 [2, 3, 4, 9, 10] (mkS 43 0 [(2, aI64 k), (3, .hp 0 0), (4, .hp 1 0), (9, aI64 (gt a.Grid.Z k)), (10, aI64 (gt b.Grid.Z k))]) [.own (api_Banded.c a), .own (api_Banded.c b)] ?_
 refine CQ.seq ?_
 replace hr := gd hr; obtain ⟨hg3, hr⟩ := hr
 replace hr := gd hr; obtain ⟨hg4, hr⟩ := hr
 rcases Bool.eq_false_or_eq_true (((gt a.Grid.Z k) : Int) != (-2147483648)) with hb5 | hb5
 ·replace hr := cd_t hb5 hr
  refine CQ.regionT fine callOf_nil ?_
  refine EVT.p1 (aI64 (gt b.Grid.Z k)) ?_
  refine EVT.p1 (aI64 (gt a.Grid.Z k)) ?_
  refine EVT.p1 (aI64 (wrapF .i64 ((gt b.Grid.Z k) - (gt a.Grid.Z k)))) ?_
  refine EVT.p1 (.hp 0 6) ?_
  refine EVT.p1 (sI64 a.Err) ?_
  refine EVT.p1 (aI64 k) ?_
  refine EVT.pure (v := .pp (a.Err.flatMap (iC .i64)) (k.toNat * 1)) (by kernel_rfl) (Eq.trans (b := ORes.ofP (guardV (inR k a.Err.length) (.pp (a.Err.flatMap (iC .i64)) (k.toNat * 1)))) (by kernel_rfl) (ofP_guard hg3)) (by kernel_rfl) ?_
  refine EVT.pure (v := aI64 (gt a.Err k)) (by kernel_rfl) (Eq.trans (b := ORes.ofP ((a.Err.flatMap (iC .i64))[k.toNat * 1]?)) (by kernel_rfl) (ofP_some (flat_get (iC_len _) (inR_lt hg3) (by decide : 0 < 1) (by omega : k.toNat * 1 = k.toNat * 1 + 0) (by kernel_rfl)))) (by kernel_rfl) ?_
  refine EVT.p1 (.hp 1 6) ?_
  refine EVT.p1 (sI64 b.Err) ?_
  refine EVT.p1 (aI64 k) ?_
  refine EVT.pure (v := .pp (b.Err.flatMap (iC .i64)) (k.toNat * 1)) (by kernel_rfl) (Eq.trans (b := ORes.ofP (guardV (inR k b.Err.length) (.pp (b.Err.flatMap (iC .i64)) (k.toNat * 1)))) (by kernel_rfl) (ofP_guard hg4)) (by kernel_rfl) ?_
  refine EVT.pure (v := aI64 (gt b.Err k)) (by kernel_rfl) (Eq.trans (b := ORes.ofP ((b.Err.flatMap (iC .i64))[k.toNat * 1]?)) (by kernel_rfl) (ofP_some (flat_get (iC_len _) (inR_lt hg4) (by decide : 0 < 1) (by omega : k.toNat * 1 = k.toNat * 1 + 0) (by kernel_rfl)))) (by kernel_rfl) ?_
  refine EVT.p1 (aI64 (wrapF .i64 ((gt a.Err k) + (gt b.Err k)))) ?_
  refine EVT.p1 (aI64 (gt a.Grid.Z k)) ?_
  refine EVT.pure (v := aB true) (by kernel_rfl) (Eq.trans (b := some (.pure (aB (((gt a.Grid.Z k) : Int) != (-2147483648))))) (by kernel_rfl) (by rw [hb5])) (by kernel_rfl) ?_
  refine EVT.p1 (aB true) ?_
  refine EVT.p1 (aI64 (gt b.Grid.Z k)) ?_
  refine EVT.p1 (aB (((gt b.Grid.Z k) : Int) != (-2147483648))) ?_
  refine EVT.p1 (aB (((gt b.Grid.Z k) : Int) != (-2147483648))) ?_
  refine EVT.p1 (aI64 (wrapF .i64 ((gt b.Grid.Z k) - (gt a.Grid.Z k)))) ?_
  refine EVT.p1 (aI64 (wrapF .i64 ((gt a.Err k) + (gt b.Err k)))) ?_
  refine EVT.p1 (aB (((gt b.Grid.Z k) : Int) != (-2147483648))) ?_
  refine EVT.done ⟨by kernel_rfl, ?_⟩
  refine CQ.ret ?_
  obtain rfl := Option.some.inj hr
  exact FinQ.ret (vs := [aI64 (wrapF .i64 ((gt b.Grid.Z k) - (gt a.Grid.Z k))), aI64 (wrapF .i64 ((gt a.Err k) + (gt b.Err k))), aB (((gt b.Grid.Z k) : Int) != (-2147483648))]) (by kernel_rfl) (Sn.tup (SnL.cons (Sn.pure rfl) (SnL.cons (Sn.pure rfl) (SnL.cons (Sn.pure rfl) SnL.nil))))
 ·replace hr := cd_f hb5 hr
  refine CQ.regionT fine callOf_nil ?_
  refine EVT.p1 (aI64 (gt b.Grid.Z k)) ?_
  refine EVT.p1 (aI64 (gt a.Grid.Z k)) ?_
  refine EVT.p1 (aI64 (wrapF .i64 ((gt b.Grid.Z k) - (gt a.Grid.Z k)))) ?_
  refine EVT.p1 (.hp 0 6) ?_
  refine EVT.p1 (sI64 a.Err) ?_
  refine EVT.p1 (aI64 k) ?_
  refine EVT.pure (v := .pp (a.Err.flatMap (iC .i64)) (k.toNat * 1)) (by kernel_rfl) (Eq.trans (b := ORes.ofP (guardV (inR k a.Err.length) (.pp (a.Err.flatMap (iC .i64)) (k.toNat * 1)))) (by kernel_rfl) (ofP_guard hg3)) (by kernel_rfl) ?_
  refine EVT.pure (v := aI64 (gt a.Err k)) (by kernel_rfl) (Eq.trans (b := ORes.ofP ((a.Err.flatMap (iC .i64))[k.toNat * 1]?)) (by kernel_rfl) (ofP_some (flat_get (iC_len _) (inR_lt hg3) (by decide : 0 < 1) (by omega : k.toNat * 1 = k.toNat * 1 + 0) (by kernel_rfl)))) (by kernel_rfl) ?_
  refine EVT.p1 (.hp 1 6) ?_
  refine EVT.p1 (sI64 b.Err) ?_
  refine EVT.p1 (aI64 k) ?_
  refine EVT.pure (v := .pp (b.Err.flatMap (iC .i64)) (k.toNat * 1)) (by kernel_rfl) (Eq.trans (b := ORes.ofP (guardV (inR k b.Err.length) (.pp (b.Err.flatMap (iC .i64)) (k.toNat * 1)))) (by kernel_rfl) (ofP_guard hg4)) (by kernel_rfl) ?_
  refine EVT.pure (v := aI64 (gt b.Err k)) (by kernel_rfl) (Eq.trans (b := ORes.ofP ((b.Err.flatMap (iC .i64))[k.toNat * 1]?)) (by kernel_rfl) (ofP_some (flat_get (iC_len _) (inR_lt hg4) (by decide : 0 < 1) (by omega : k.toNat * 1 = k.toNat * 1 + 0) (by kernel_rfl)))) (by kernel_rfl) ?_
  refine EVT.p1 (aI64 (wrapF .i64 ((gt a.Err k) + (gt b.Err k)))) ?_
  refine EVT.p1 (aI64 (gt a.Grid.Z k)) ?_
  refine EVT.pure (v := aB false) (by kernel_rfl) (Eq.trans (b := some (.pure (aB (((gt a.Grid.Z k) : Int) != (-2147483648))))) (by kernel_rfl) (by rw [hb5])) (by kernel_rfl) ?_
  refine EVT.p1 (aB false) ?_
  refine EVT.s1 ?_
  refine EVT.s1 ?_
  refine EVT.p1 (aB false) ?_
  refine EVT.p1 (aI64 (wrapF .i64 ((gt b.Grid.Z k) - (gt a.Grid.Z k)))) ?_
  refine EVT.p1 (aI64 (wrapF .i64 ((gt a.Err k) + (gt b.Err k)))) ?_
  refine EVT.p1 (aB false) ?_
  refine EVT.done ⟨by kernel_rfl, ?_⟩
  refine CQ.ret ?_
  obtain rfl := Option.some.inj hr
  exact FinQ.ret (vs := [aI64 (wrapF .i64 ((gt b.Grid.Z k) - (gt a.Grid.Z k))), aI64 (wrapF .i64 ((gt a.Err k) + (gt b.Err k))), aB false]) (by kernel_rfl) (Sn.tup (SnL.cons (Sn.pure rfl) (SnL.cons (Sn.pure rfl) (SnL.cons (Sn.pure rfl) SnL.nil))))

theorem fiduciallaw59_verdict_ok (n : Nat) (a : api_Banded) (b : api_Banded) (k : Int) (r : Int) (hr : fiduciallaw59_verdict n a b k = some r) : FnOk Tryz.prog 27 [.agg [.at (.int .i64 a.Grid.X0), .at (.int .i64 a.Grid.Y0), .at (.int .i64 a.Grid.Step), .at (.int .i64 a.Grid.Width), .at (.int .i64 a.Grid.Height), slT (iC .i64) a.Grid.Z, slT (iC .i64) a.Err], .agg [.at (.int .i64 b.Grid.X0), .at (.int .i64 b.Grid.Y0), .at (.int .i64 b.Grid.Step), .at (.int .i64 b.Grid.Width), .at (.int .i64 b.Grid.Height), slT (iC .i64) b.Grid.Z, slT (iC .i64) b.Err], .at (.int .i64 k)] (.at (.int .i64 r)) := by
 unfold fiduciallaw59_verdict at hr
 refine FnOk.body fine Tryz.func27 (c := (Tryz.f27.body).getD .skip) rfl (s := mkS 30 0 [(0, .agg (api_Banded.c a)), (1, .agg (api_Banded.c b)), (2, aI64 k)]) (by kernel_rfl) (rs := [.tmp 6]) rfl ?_
 unfold Tryz.f27
 simp only [Option.getD_some]
 refine CQ.seq ?_
 refine CQ.r0 fine ?_
 refine EVO.e1 (.hp 0 0) [(0, .own (api_Banded.c a))] ?_
 refine EVO.e1 (.hp 1 0) [(1, .own (api_Banded.c b))] ?_
 refine EVO.p1 (aI64 0) ?_
 refine EVO.done ?_
 refine CQ.n1 [2, 3, 4] (mkS 30 0 [(2, aI64 k), (3, .hp 0 0), (4, .hp 1 0)]) [.own (api_Banded.c a), .own (api_Banded.c b)] ?_
 refine CQ.seq ?_
 replace hr := bd hr; obtain ⟨v1, hc2, hr⟩ := hr
 refine CQ.region fine (callOf_1 19 [.agg (api_Banded.c a), .agg (api_Banded.c b), aI64 k] [.own (api_Banded.c a), .own (api_Banded.c b)] (.loc (.tup [aI64 v1.1, aI64 v1.2.1, aB v1.2.2]) [] [] 0) (callOk_val (l := []) (args' := [.agg (api_Banded.c a), .agg (api_Banded.c b), aI64 k]) rfl (SnL.cons (Sn.pure rfl) (SnL.cons (Sn.pure rfl) (SnL.cons (Sn.pure rfl) SnL.nil))) (fiduciallaw59_both_ok n a b k v1 hc2))) ?_
 refine EVO.p1 (.agg (api_Banded.c a)) ?_
 refine EVO.p1 (.agg (api_Banded.c b)) ?_
 refine EVO.p1 (aI64 k) ?_
 refine EVO.c0 (by kernel_rfl) (callOf_at (by kernel_rfl)) ?_
 refine EVO.p1 (.tup [aI64 v1.1, aI64 v1.2.1, aB v1.2.2]) ?_
 refine EVO.p1 (aI64 v1.1) ?_
 refine EVO.p1 (aI64 v1.2.1) ?_
 refine EVO.p1 (aB v1.2.2) ?_
 refine EVO.p1 (aI64 v1.1) ?_
 refine EVO.p1 (aI64 v1.2.1) ?_
 refine EVO.p1 (aB v1.2.2) ?_
 refine EVO.done ?_
 refine CQ.n1 [7, 8, 9] (mkS 30 0 [(7, aI64 v1.1), (8, aI64 v1.2.1), (9, aB v1.2.2)]) [.own (api_Banded.c a), .own (api_Banded.c b)] ?_
 refine CQ.seq ?_
 refine CQ.block ?_
 refine CQ.seq ?_
 refine CQ.r0 fine ?_
 refine EVO.p1 (aB v1.2.2) ?_
 refine EVO.p1 (aB (!v1.2.2)) ?_
 refine EVO.p1 (aB (!v1.2.2)) ?_
 refine EVO.done ?_
 refine CQ.n1 [7, 8, 18] (mkS 30 0 [(7, aI64 v1.1), (8, aI64 v1.2.1), (18, aB (!v1.2.2))]) [.own (api_Banded.c a), .own (api_Banded.c b)] ?_
 refine CQ.cond (t := !v1.2.2) (by kernel_rfl) (fun hb3 => ?_) (fun hb3 => ?_)
 ·replace hr := cd_t hb3 hr
  refine CQ.seq ?_
  refine CQ.r0 fine ?_
  refine EVO.p1 (aI64 3) ?_
  refine EVO.done ?_
  refine CQ.ret ?_
  obtain rfl := Option.some.inj hr
  exact FinQ.r1 [aI64 3]
 ·replace hr := cd_f hb3 hr
  refine CQ.seq ?_
  refine CQ.r0 fine ?_
  refine EVO.p1 (aI64 v1.1) ?_
  refine EVO.p1 (aI64 v1.2.1) ?_
  refine EVO.p1 (aB (decide (v1.1 > v1.2.1))) ?_
  refine EVO.p1 (aB (decide (v1.1 > v1.2.1))) ?_
  refine EVO.done ?_
  refine CQ.n1 [7, 8, 21] (mkS 30 0 [(7, aI64 v1.1), (8, aI64 v1.2.1), (21, aB (decide (v1.1 > v1.2.1)))]) [.own (api_Banded.c a), .own (api_Banded.c b)] ?_
  refine CQ.cond (t := decide (v1.1 > v1.2.1)) (by kernel_rfl) (fun hb4 => ?_) (fun hb4 => ?_)
  ·replace hr := cd_t hb4 hr
   refine CQ.seq ?_
   refine CQ.r0 fine ?_
   refine EVO.p1 (aI64 1) ?_
   refine EVO.done ?_
   refine CQ.ret ?_
   obtain rfl := Option.some.inj hr
   exact FinQ.r1 [aI64 1]
  ·replace hr := cd_f hb4 hr
   refine CQ.seq ?_
   refine CQ.r0 fine ?_
   refine EVO.p1 (aI64 v1.1) ?_
   refine EVO.p1 (aI64 v1.2.1) ?_
   refine EVO.p0 (v := aI64 (wrapF .i64 (0 - v1.2.1))) (Eq.trans (b := some (.pure (aI64 (IntKind.wrap .i64 (0 - v1.2.1))))) (by kernel_rfl) wrap_at) ?_
   refine EVO.p1 (aB (decide (v1.1 < (wrapF .i64 (0 - v1.2.1))))) ?_
   refine EVO.p1 (aB (decide (v1.1 < (wrapF .i64 (0 - v1.2.1))))) ?_
   refine EVO.done ?_
   refine CQ.n1 [25] (mkS 30 0 [(25, aB (decide (v1.1 < (wrapF .i64 (0 - v1.2.1)))))]) [.own (api_Banded.c a), .own (api_Banded.c b)] ?_
   refine CQ.cond (t := decide (v1.1 < (wrapF .i64 (0 - v1.2.1)))) (by kernel_rfl) (fun hb5 => ?_) (fun hb5 => ?_)
   ·replace hr := cd_t hb5 hr
    refine CQ.seq ?_
    refine CQ.r0 fine ?_
    refine EVO.p1 (aI64 2) ?_
    refine EVO.done ?_
    refine CQ.ret ?_
    obtain rfl := Option.some.inj hr
    exact FinQ.r1 [aI64 2]
   ·replace hr := cd_f hb5 hr
    refine CQ.skip ?_
    refine CQ.pop ?_
    refine CQ.seq ?_
    refine CQ.r0 fine ?_
    refine EVO.p1 (aI64 0) ?_
    refine EVO.done ?_
    refine CQ.ret ?_
    obtain rfl := Option.some.inj hr
    exact FinQ.r1 [aI64 0]
end Go.L
