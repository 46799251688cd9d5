/- The program's functions compute what the plain Lean programs compute, part 2; printed by a program. -/
import Derived.Test.YtlajgmapmocpbaaGreatCompLP1
import Derived.Test.YtlajgmapmocpbaaGreatL0b
import Derived.Test.YtlajgmapmocpbaaGreatChecked
import Derived.KernelRfl
set_option linter.unusedVariables false
set_option linter.unusedSimpArgs false
set_option maxRecDepth 100000
namespace Go.L
open Go Go.Eng Go.Proofs
theorem fraction_Valid_ok (n : Nat) (x' : api_Rat) (r : Bool) (hr : fraction_Valid n x' = some r) : FnOk Tryz.prog 138 [.agg [.at (.bool x'.Num.Negative), slT (iC .u32) x'.Num.Groups, .at (.bool x'.Den.Negative), slT (iC .u32) x'.Den.Groups]] (.at (.bool r)) := by
 unfold fraction_Valid at hr
 refine FnOk.body fine Tryz.func138 (c := (Tryz.f138.body).getD .skip) rfl (s := mkS 27 0 [(0, .agg (api_Rat.c x'))]) (by kernel_rfl) (rs := [.tmp 2]) rfl ?_
 unfold Tryz.f138
 simp only [Option.getD_some]
 refine CQ.seq ?_
 refine CQ.r0 fine ?_
 refine EVO.e1 (.hp 0 0) [(0, .own (api_Rat.c x'))] ?_
 refine EVO.p1 (aB false) ?_
 refine EVO.done ?_
 refine CQ.n1 [1] (mkS 27 0 [(1, .hp 0 0)]) [.own (api_Rat.c x')] ?_
 refine CQ.seq ?_
 refine CQ.seq ?_
 replace hr := bd hr; obtain ⟨v1, hc2, hr⟩ := hr
 rcases Bool.eq_false_or_eq_true (!v1) with hb3 | hb3
 ·replace hr := cd_t hb3 hr
  refine CQ.region fine (callOf_1 135 [.agg (api_Int.c x'.Num)] [.own (api_Rat.c x')] (.loc (aB v1) [] [] 0) (callOk_val (l := []) (args' := [.agg (api_Int.c x'.Num)]) rfl (SnL.cons (Sn.pure rfl) SnL.nil) (integer_Valid_ok n x'.Num v1 hc2))) ?_
  refine EVO.p1 (.hp 0 0) ?_
  refine EVO.p1 (.agg (api_Int.c x'.Num)) ?_
  refine EVO.c0 (by kernel_rfl) (callOf_at (by kernel_rfl)) ?_
  refine EVO.p0 (v := aB true) (Eq.trans (b := some (.pure (aB (!v1)))) (by kernel_rfl) (by rw [hb3])) ?_
  refine EVO.p1 (aB true) ?_
  refine EVO.s1 ?_
  refine EVO.s1 ?_
  refine EVO.s1 ?_
  refine EVO.s1 ?_
  refine EVO.p1 (aB true) ?_
  refine EVO.p1 (aB true) ?_
  refine EVO.s1 ?_
  refine EVO.s1 ?_
  refine EVO.s1 ?_
  refine EVO.s1 ?_
  refine EVO.p1 (aB true) ?_
  refine EVO.done ?_
  refine CQ.n1 [1, 18] (mkS 27 0 [(1, .hp 0 0), (18, aB true)]) [.own (api_Rat.c x')] ?_
  refine CQ.cT (by kernel_rfl) ?_
  refine CQ.seq ?_
  refine CQ.r0 fine ?_
  refine EVO.p1 (aB false) ?_
  refine EVO.done ?_
  refine CQ.ret ?_
  obtain rfl := Option.some.inj hr
  exact FinQ.r1 [aB false]
 ·replace hr := cd_f hb3 hr
  replace hr := bd hr; obtain ⟨v4, hc5, hr⟩ := hr
  rcases Bool.eq_false_or_eq_true (!v4) with hb6 | hb6
  ·replace hr := cd_t hb6 hr
   refine CQ.region fine (callOf_ok [{ f := 135, args := [.agg (api_Int.c x'.Num)], H := [.own (api_Rat.c x')], r := .loc (aB v1) [] [] 0 : CE }, { f := 135, args := [.agg (api_Int.c x'.Den)], H := [.own (api_Rat.c x')], r := .loc (aB v4) [] [] 0 : CE }] (List.forall_mem_cons.2 ⟨(callOk_val (l := []) (args' := [.agg (api_Int.c x'.Num)]) rfl (SnL.cons (Sn.pure rfl) SnL.nil) (integer_Valid_ok n x'.Num v1 hc2)), (List.forall_mem_cons.2 ⟨(callOk_val (l := []) (args' := [.agg (api_Int.c x'.Den)]) rfl (SnL.cons (Sn.pure rfl) SnL.nil) (integer_Valid_ok n x'.Den v4 hc5)), ce0⟩)⟩)) ?_
   refine EVO.p1 (.hp 0 0) ?_
   refine EVO.p1 (.agg (api_Int.c x'.Num)) ?_
   refine EVO.c0 (by kernel_rfl) (callOf_at (by kernel_rfl)) ?_
   refine EVO.p0 (v := aB false) (Eq.trans (b := some (.pure (aB (!v1)))) (by kernel_rfl) (by rw [hb3])) ?_
   refine EVO.p1 (aB false) ?_
   refine EVO.q1 (.hp 0 2) ?_
   refine EVO.q1 (.agg (api_Int.c x'.Den)) ?_
   refine EVO.cal (by kernel_rfl) (by kernel_rfl) (callOf_skip (fun _ h => by obtain e0 := integer_Valid_inj h; rw [show v4 = v1 from Option.some.inj (hc5.symm.trans ((show integer_Valid n x'.Den = integer_Valid n x'.Num from (congr rfl e0)).trans hc2))]) (callOf_at (by kernel_rfl))) ?_
   refine EVO.pure (v := aB true) (by kernel_rfl) (Eq.trans (b := some (.pure (aB (!v4)))) (by kernel_rfl) (by rw [hb6])) ?_
   refine EVO.p1 (aB true) ?_
   refine EVO.p1 (aB true) ?_
   refine EVO.s1 ?_
   refine EVO.s1 ?_
   refine EVO.s1 ?_
   refine EVO.s1 ?_
   refine EVO.p1 (aB true) ?_
   refine EVO.done ?_
   refine CQ.n1 [1, 18] (mkS 27 0 [(1, .hp 0 0), (18, aB true)]) [.own (api_Rat.c x')] ?_
   refine CQ.cT (by kernel_rfl) ?_
   refine CQ.seq ?_
   refine CQ.r0 fine ?_
   refine EVO.p1 (aB false) ?_
   refine EVO.done ?_
   refine CQ.ret ?_
   obtain rfl := Option.some.inj hr
   exact FinQ.r1 [aB false]
  ·replace hr := cd_f hb6 hr
   replace hr := bd hr; obtain ⟨v7, hc8, hr⟩ := hr
   refine CQ.region fine (callOf_ok [{ f := 135, args := [.agg (api_Int.c x'.Num)], H := [.own (api_Rat.c x')], r := .loc (aB v1) [] [] 0 : CE }, { f := 135, args := [.agg (api_Int.c x'.Den)], H := [.own (api_Rat.c x')], r := .loc (aB v4) [] [] 0 : CE }, { f := 69, args := [.agg (api_Int.c x'.Den)], H := [.own (api_Rat.c x')], r := .loc (aI64 v7) [] [] 0 : CE }] (List.forall_mem_cons.2 ⟨(callOk_val (l := []) (args' := [.agg (api_Int.c x'.Num)]) rfl (SnL.cons (Sn.pure rfl) SnL.nil) (integer_Valid_ok n x'.Num v1 hc2)), (List.forall_mem_cons.2 ⟨(callOk_val (l := []) (args' := [.agg (api_Int.c x'.Den)]) rfl (SnL.cons (Sn.pure rfl) SnL.nil) (integer_Valid_ok n x'.Den v4 hc5)), (List.forall_mem_cons.2 ⟨(callOk_val (l := []) (args' := [.agg (api_Int.c x'.Den)]) rfl (SnL.cons (Sn.pure rfl) SnL.nil) (integer_Sign_ok n x'.Den v7 hc8)), ce0⟩)⟩)⟩)) ?_
   refine EVO.p1 (.hp 0 0) ?_
   refine EVO.p1 (.agg (api_Int.c x'.Num)) ?_
   refine EVO.c0 (by kernel_rfl) (callOf_at (by kernel_rfl)) ?_
   refine EVO.p0 (v := aB false) (Eq.trans (b := some (.pure (aB (!v1)))) (by kernel_rfl) (by rw [hb3])) ?_
   refine EVO.p1 (aB false) ?_
   refine EVO.q1 (.hp 0 2) ?_
   refine EVO.q1 (.agg (api_Int.c x'.Den)) ?_
   refine EVO.cal (by kernel_rfl) (by kernel_rfl) (callOf_skip (fun _ h => by obtain e0 := integer_Valid_inj h; rw [show v4 = v1 from Option.some.inj (hc5.symm.trans ((show integer_Valid n x'.Den = integer_Valid n x'.Num from (congr rfl e0)).trans hc2))]) (callOf_at (by kernel_rfl))) ?_
   refine EVO.pure (v := aB false) (by kernel_rfl) (Eq.trans (b := some (.pure (aB (!v4)))) (by kernel_rfl) (by rw [hb6])) ?_
   refine EVO.p1 (aB false) ?_
   refine EVO.p1 (aB false) ?_
   refine EVO.q1 (.hp 0 2) ?_
   refine EVO.q1 (.agg (api_Int.c x'.Den)) ?_
   refine EVO.cal (by kernel_rfl) (by kernel_rfl) (callOf_skip (fun h _ => absurd (show (69 : Nat) = 135 from h) (by decide)) (callOf_skip (fun h _ => absurd (show (69 : Nat) = 135 from h) (by decide)) (callOf_at (by kernel_rfl)))) ?_
   refine EVO.q1 (aB (decide (v7 ≤ 0))) ?_
   refine EVO.p1 (aB (decide (v7 ≤ 0))) ?_
   refine EVO.done ?_
   refine CQ.n1 [1, 18] (mkS 27 0 [(1, .hp 0 0), (18, aB (decide (v7 ≤ 0)))]) [.own (api_Rat.c x')] ?_
   refine CQ.cond (t := decide (v7 ≤ 0)) (by kernel_rfl) (fun hb9 => ?_) (fun hb9 => ?_)
   ·replace hr := cd_t hb9 hr
    refine CQ.seq ?_
    refine CQ.r0 fine ?_
    refine EVO.p1 (aB false) ?_
    refine EVO.done ?_
    refine CQ.ret ?_
    obtain rfl := Option.some.inj hr
    exact FinQ.r1 [aB false]
   ·replace hr := cd_f hb9 hr
    refine CQ.skip ?_
    refine CQ.seq ?_
    replace hr := bd hr; obtain ⟨v10, hc11, hr⟩ := hr
    replace hr := bd hr; obtain ⟨v12, hc13, hr⟩ := hr
    replace hr := bd hr; obtain ⟨v14, hc15, hr⟩ := hr
    refine CQ.region fine (callOf_ok [{ f := 141, args := [.agg (api_Int.c x'.Num), .agg (api_Int.c x'.Den)], H := [.own (api_Rat.c x')], r := .loc (.agg (api_Int.c v10)) [] [] 0 : CE }, { f := 64, args := [aI64 1], H := [.own (api_Rat.c x')], r := .loc (.agg (api_Int.c v12)) [] [] 0 : CE }, { f := 155, args := [.agg (api_Int.c v10), .agg (api_Int.c v12)], H := [.own (api_Rat.c x')], r := .loc (aI64 v14) [] [] 0 : CE }] (List.forall_mem_cons.2 ⟨(callOk_ref (l := []) (args' := [.agg (api_Int.c x'.Num), .agg (api_Int.c x'.Den)]) (SnL.cons (Sn.pure rfl) (SnL.cons (Sn.pure rfl) SnL.nil)) (integer_Gcd_ok n x'.Num x'.Den v10 hc11)), (List.forall_mem_cons.2 ⟨(callOk_ref (l := []) (args' := [aI64 1]) (SnL.cons (Sn.pure rfl) SnL.nil) (integer_Of_ok n 1 v12 hc13)), (List.forall_mem_cons.2 ⟨(callOk_val (l := []) (args' := [.agg (api_Int.c v10), .agg (api_Int.c v12)]) rfl (SnL.cons (Sn.pure rfl) (SnL.cons (Sn.pure rfl) SnL.nil)) (integer_Compare_ok n v10 v12 v14 hc15)), ce0⟩)⟩)⟩)) ?_
    refine EVO.p1 (.hp 0 0) ?_
    refine EVO.p1 (.agg (api_Int.c x'.Num)) ?_
    refine EVO.p1 (.hp 0 2) ?_
    refine EVO.p1 (.agg (api_Int.c x'.Den)) ?_
    refine EVO.c0 (by kernel_rfl) (callOf_at (by kernel_rfl)) ?_
    refine EVO.c0 (by kernel_rfl) (callOf_skip (fun h _ => absurd (show (64 : Nat) = 141 from h) (by decide)) (callOf_at (by kernel_rfl))) ?_
    refine EVO.c0 (by kernel_rfl) (callOf_skip (fun h _ => absurd (show (155 : Nat) = 141 from h) (by decide)) (callOf_skip (fun h _ => absurd (show (155 : Nat) = 64 from h) (by decide)) (callOf_at (by kernel_rfl)))) ?_
    refine EVO.p1 (aB ((v14 : Int) == 0)) ?_
    refine EVO.p1 (aB ((v14 : Int) == 0)) ?_
    refine EVO.done ?_
    refine CQ.ret ?_
    obtain rfl := Option.some.inj hr
    exact FinQ.r1 [aB ((v14 : Int) == 0)]

theorem integer_Neg_inj {x' : api_Int} {x'_ : api_Int} (h : ([.agg [.at (.bool x'.Negative), slT (iC .u32) x'.Groups]] : List AV) = [.agg [.at (.bool x'_.Negative), slT (iC .u32) x'_.Groups]]) : x' = x'_ := by
 obtain ⟨_, _⟩ := x'
 obtain ⟨_, _⟩ := x'_
 simp only [List.cons.injEq, AV.agg.injEq, AV.at.injEq, Value.int.injEq, Value.bool.injEq, AV.fn.injEq, AV.pp.injEq, true_and, and_true, slT_inj_int] at h
 simp_all
theorem integer_Neg_ok (n : Nat) (x' : api_Int) (r : api_Int) (hr : integer_Neg n x' = some r) : FnOk Tryz.prog 140 [.agg [.at (.bool x'.Negative), slT (iC .u32) x'.Groups]] (.agg [.at (.bool r.Negative), slT (iC .u32) r.Groups]) := by
 unfold integer_Neg at hr
 refine FnOk.body fine Tryz.func140 (c := (Tryz.f140.body).getD .skip) rfl (s := mkS 10 0 [(0, .agg (api_Int.c x'))]) (by kernel_rfl) (rs := [.cell 2 35]) rfl ?_
 unfold Tryz.f140
 simp only [Option.getD_some]
 refine CQ.seq ?_
 refine CQ.r0 fine ?_
 refine EVO.e1 (.hp 0 0) [(0, .own (api_Int.c x'))] ?_
 refine EVO.e1 (.hp 1 0) [(1, .own [aB false, .at (.slice none 0 0)])] ?_
 refine EVO.done ?_
 refine CQ.n1 [1, 2] (mkS 10 0 [(1, .hp 0 0), (2, .hp 1 0)]) [.own (api_Int.c x'), .own [aB false, .at (.slice none 0 0)]] ?_
 refine CQ.seq ?_
 replace hr := bd hr; obtain ⟨v1, hc2, hr⟩ := hr
 replace hr := bd hr; obtain ⟨v3, hc4, hr⟩ := hr
 replace hr := bd hr; obtain ⟨v5, hc6, hr⟩ := hr
 refine CQ.regionT fine (callOf_ok [{ f := 106, args := [.agg (api_Int.c x')], H := [.own (api_Int.c x'), .own [aB false, .at (.slice none 0 0)]], r := .loc (sU32 v1) [] [] 0 : CE }, { f := 156, args := [sU32 v1], H := [.own (api_Int.c x'), .own [aB false, .at (.slice none 0 0)]], r := .loc (sU32 v3) [] [] 0 : CE }, { f := 103, args := [aB (!x'.Negative), sU32 v3], H := [.own (api_Int.c x'), .own [aB false, .at (.slice none 0 0)]], r := .loc (.agg (api_Int.c v5)) [] [] 0 : CE }] (List.forall_mem_cons.2 ⟨(callOk_ref (l := []) (args' := [.agg (api_Int.c x')]) (SnL.cons (Sn.pure rfl) SnL.nil) (integer_groups_ok n x' v1 hc2)), (List.forall_mem_cons.2 ⟨(callOk_ref (l := []) (args' := [sU32 v1]) (SnL.cons (Sn.pure rfl) SnL.nil) (slices_Clone_uint32_uint32_ok n v1 v3 hc4)), (List.forall_mem_cons.2 ⟨(callOk_ref (l := []) (args' := [aB (!x'.Negative), sU32 v3]) (SnL.cons (Sn.pure rfl) (SnL.cons (Sn.pure rfl) SnL.nil)) (integer_made_ok n (!x'.Negative) v3 v5 hc6)), ce0⟩)⟩)⟩)) ?_
 refine EVT.p1 (.hp 0 0) ?_
 refine EVT.p1 (aB x'.Negative) ?_
 refine EVT.p1 (aB (!x'.Negative)) ?_
 refine EVT.p1 (.agg (api_Int.c x')) ?_
 refine EVT.cal (by kernel_rfl) (by kernel_rfl) (callOf_at (by kernel_rfl)) (by kernel_rfl) ?_
 refine EVT.cal (by kernel_rfl) (by kernel_rfl) (callOf_skip (fun h _ => absurd (show (156 : Nat) = 106 from h) (by decide)) (callOf_at (by kernel_rfl))) (by kernel_rfl) ?_
 refine EVT.cal (by kernel_rfl) (by kernel_rfl) (callOf_skip (fun h _ => absurd (show (103 : Nat) = 106 from h) (by decide)) (callOf_skip (fun h _ => absurd (show (103 : Nat) = 156 from h) (by decide)) (callOf_at (by kernel_rfl)))) (by kernel_rfl) ?_
 refine EVT.e1 (.unk) [(1, .own (api_Int.c v5))] ?_
 refine EVT.done ⟨by kernel_rfl, ?_⟩
 refine CQ.ret ?_
 obtain rfl := Option.some.inj hr
 exact FinQ.r1 [.agg (api_Int.c v5)]

theorem fraction_copied_ok (n : Nat) (x' : api_Rat) (r : api_Rat) (hr : fraction_copied n x' = some r) : FnOk Tryz.prog 139 [.agg [.at (.bool x'.Num.Negative), slT (iC .u32) x'.Num.Groups, .at (.bool x'.Den.Negative), slT (iC .u32) x'.Den.Groups]] (.agg [.at (.bool r.Num.Negative), slT (iC .u32) r.Num.Groups, .at (.bool r.Den.Negative), slT (iC .u32) r.Den.Groups]) := by
 unfold fraction_copied at hr
 refine FnOk.body fine Tryz.func139 (c := (Tryz.f139.body).getD .skip) rfl (s := mkS 12 0 [(0, .agg (api_Rat.c x'))]) (by kernel_rfl) (rs := [.cell 2 37]) rfl ?_
 unfold Tryz.f139
 simp only [Option.getD_some]
 refine CQ.seq ?_
 refine CQ.r0 fine ?_
 refine EVO.e1 (.hp 0 0) [(0, .own (api_Rat.c x'))] ?_
 refine EVO.e1 (.hp 1 0) [(1, .own [aB false, .at (.slice none 0 0), aB false, .at (.slice none 0 0)])] ?_
 refine EVO.done ?_
 refine CQ.n1 [1, 2] (mkS 12 0 [(1, .hp 0 0), (2, .hp 1 0)]) [.own (api_Rat.c x'), .own [aB false, .at (.slice none 0 0), aB false, .at (.slice none 0 0)]] ?_
 refine CQ.seq ?_
 replace hr := bd hr; obtain ⟨v1, hc2, hr⟩ := hr
 replace hr := bd hr; obtain ⟨v3, hc4, hr⟩ := hr
 replace hr := bd hr; obtain ⟨v5, hc6, hr⟩ := hr
 replace hr := bd hr; obtain ⟨v7, hc8, hr⟩ := hr
 refine CQ.regionT fine (callOf_ok [{ f := 140, args := [.agg (api_Int.c x'.Num)], H := [.own (api_Rat.c x'), .own [aB false, .at (.slice none 0 0), aB false, .at (.slice none 0 0)]], r := .loc (.agg (api_Int.c v1)) [] [] 0 : CE }, { f := 140, args := [.agg (api_Int.c v1)], H := [.own (api_Rat.c x'), .own [aB false, .at (.slice none 0 0), aB false, .at (.slice none 0 0)]], r := .loc (.agg (api_Int.c v3)) [] [] 0 : CE }, { f := 140, args := [.agg (api_Int.c x'.Den)], H := [.own (api_Rat.c x'), .own [aB false, .at (.slice none 0 0), aB false, .at (.slice none 0 0)]], r := .loc (.agg (api_Int.c v5)) [] [] 0 : CE }, { f := 140, args := [.agg (api_Int.c v5)], H := [.own (api_Rat.c x'), .own [aB false, .at (.slice none 0 0), aB false, .at (.slice none 0 0)]], r := .loc (.agg (api_Int.c v7)) [] [] 0 : CE }] (List.forall_mem_cons.2 ⟨(callOk_ref (l := []) (args' := [.agg (api_Int.c x'.Num)]) (SnL.cons (Sn.pure rfl) SnL.nil) (integer_Neg_ok n x'.Num v1 hc2)), (List.forall_mem_cons.2 ⟨(callOk_ref (l := []) (args' := [.agg (api_Int.c v1)]) (SnL.cons (Sn.pure rfl) SnL.nil) (integer_Neg_ok n v1 v3 hc4)), (List.forall_mem_cons.2 ⟨(callOk_ref (l := []) (args' := [.agg (api_Int.c x'.Den)]) (SnL.cons (Sn.pure rfl) SnL.nil) (integer_Neg_ok n x'.Den v5 hc6)), (List.forall_mem_cons.2 ⟨(callOk_ref (l := []) (args' := [.agg (api_Int.c v5)]) (SnL.cons (Sn.pure rfl) SnL.nil) (integer_Neg_ok n v5 v7 hc8)), ce0⟩)⟩)⟩)⟩)) ?_
 refine EVT.p1 (.hp 0 0) ?_
 refine EVT.p1 (.agg (api_Int.c x'.Num)) ?_
 refine EVT.cal (by kernel_rfl) (by kernel_rfl) (callOf_at (by kernel_rfl)) (by kernel_rfl) ?_
 refine EVT.cal (by kernel_rfl) (by kernel_rfl) (callOf_skip (fun _ h => by obtain e0 := integer_Neg_inj h; rw [show v3 = v1 from Option.some.inj (hc4.symm.trans ((show integer_Neg n v1 = integer_Neg n x'.Num from (congr rfl e0)).trans hc2))]) (callOf_at (by kernel_rfl))) (by kernel_rfl) ?_
 refine EVT.p1 (.hp 0 2) ?_
 refine EVT.p1 (.agg (api_Int.c x'.Den)) ?_
 refine EVT.cal (by kernel_rfl) (by kernel_rfl) (callOf_skip (fun _ h => by obtain e0 := integer_Neg_inj h; rw [show v5 = v1 from Option.some.inj (hc6.symm.trans ((show integer_Neg n x'.Den = integer_Neg n x'.Num from (congr rfl e0)).trans hc2))]) (callOf_skip (fun _ h => by obtain e0 := integer_Neg_inj h; rw [show v5 = v3 from Option.some.inj (hc6.symm.trans ((show integer_Neg n x'.Den = integer_Neg n v1 from (congr rfl e0)).trans hc4))]) (callOf_at (by kernel_rfl)))) (by kernel_rfl) ?_
 refine EVT.cal (by kernel_rfl) (by kernel_rfl) (callOf_skip (fun _ h => by obtain e0 := integer_Neg_inj h; rw [show v7 = v1 from Option.some.inj (hc8.symm.trans ((show integer_Neg n v5 = integer_Neg n x'.Num from (congr rfl e0)).trans hc2))]) (callOf_skip (fun _ h => by obtain e0 := integer_Neg_inj h; rw [show v7 = v3 from Option.some.inj (hc8.symm.trans ((show integer_Neg n v5 = integer_Neg n v1 from (congr rfl e0)).trans hc4))]) (callOf_skip (fun _ h => by obtain e0 := integer_Neg_inj h; rw [show v7 = v5 from Option.some.inj (hc8.symm.trans ((show integer_Neg n v5 = integer_Neg n x'.Den from (congr rfl e0)).trans hc6))]) (callOf_at (by kernel_rfl))))) (by kernel_rfl) ?_
 refine EVT.p1 (.agg [aB v3.Negative, sU32 v3.Groups, aB v7.Negative, sU32 v7.Groups]) ?_
 refine EVT.e1 (.unk) [(1, .own [aB v3.Negative, sU32 v3.Groups, aB v7.Negative, sU32 v7.Groups])] ?_
 refine EVT.done ⟨by kernel_rfl, ?_⟩
 refine CQ.ret ?_
 obtain rfl := Option.some.inj hr
 exact FinQ.r1 [.agg [aB v3.Negative, sU32 v3.Groups, aB v7.Negative, sU32 v7.Groups]]

theorem fraction_Value_inj {x' : api_Rat} {x'_ : api_Rat} (h : ([.agg [.at (.bool x'.Num.Negative), slT (iC .u32) x'.Num.Groups, .at (.bool x'.Den.Negative), slT (iC .u32) x'.Den.Groups]] : List AV) = [.agg [.at (.bool x'_.Num.Negative), slT (iC .u32) x'_.Num.Groups, .at (.bool x'_.Den.Negative), slT (iC .u32) x'_.Den.Groups]]) : x' = x'_ := by
 obtain ⟨⟨_, _⟩, ⟨_, _⟩⟩ := x'
 obtain ⟨⟨_, _⟩, ⟨_, _⟩⟩ := x'_
 simp only [List.cons.injEq, AV.agg.injEq, AV.at.injEq, Value.int.injEq, Value.bool.injEq, AV.fn.injEq, AV.pp.injEq, true_and, and_true, slT_inj_int] at h
 simp_all
theorem fraction_Value_ok (n : Nat) (x' : api_Rat) (r : api_Rat) (hr : fraction_Value n x' = some r) : FnOk Tryz.prog 116 [.agg [.at (.bool x'.Num.Negative), slT (iC .u32) x'.Num.Groups, .at (.bool x'.Den.Negative), slT (iC .u32) x'.Den.Groups]] (.agg [.at (.bool r.Num.Negative), slT (iC .u32) r.Num.Groups, .at (.bool r.Den.Negative), slT (iC .u32) r.Den.Groups]) := by
 unfold fraction_Value at hr
 refine FnOk.body fine Tryz.func116 (c := (Tryz.f116.body).getD .skip) rfl (s := mkS 8 0 [(0, .agg (api_Rat.c x'))]) (by kernel_rfl) (rs := [.cell 2 37]) rfl ?_
 unfold Tryz.f116
 simp only [Option.getD_some]
 refine CQ.seq ?_
 refine CQ.r0 fine ?_
 refine EVO.e1 (.hp 0 0) [(0, .own (api_Rat.c x'))] ?_
 refine EVO.e1 (.hp 1 0) [(1, .own [aB false, .at (.slice none 0 0), aB false, .at (.slice none 0 0)])] ?_
 refine EVO.done ?_
 refine CQ.n1 [1, 2] (mkS 8 0 [(1, .hp 0 0), (2, .hp 1 0)]) [.own (api_Rat.c x'), .own [aB false, .at (.slice none 0 0), aB false, .at (.slice none 0 0)]] ?_
 refine CQ.seq ?_
 refine CQ.seq ?_
 replace hr := bd hr; obtain ⟨v1, hc2, hr⟩ := hr
 refine CQ.region fine (callOf_1 138 [.agg (api_Rat.c x')] [.own (api_Rat.c x'), .own [aB false, .at (.slice none 0 0), aB false, .at (.slice none 0 0)]] (.loc (aB v1) [] [] 0) (callOk_val (l := []) (args' := [.agg (api_Rat.c x')]) rfl (SnL.cons (Sn.pure rfl) SnL.nil) (fraction_Valid_ok n x' v1 hc2))) ?_
 refine EVO.p1 (.agg (api_Rat.c x')) ?_
 refine EVO.c0 (by kernel_rfl) (callOf_at (by kernel_rfl)) ?_
 refine EVO.done ?_
 refine CQ.n1 [1, 2, 4] (mkS 8 0 [(1, .hp 0 0), (2, .hp 1 0), (4, aB v1)]) [.own (api_Rat.c x'), .own [aB false, .at (.slice none 0 0), aB false, .at (.slice none 0 0)]] ?_
 refine CQ.cond (t := v1) (by kernel_rfl) (fun hb3 => ?_) (fun hb3 => ?_)
 ·replace hr := cd_t hb3 hr
  refine CQ.seq ?_
  replace hr := bd hr; obtain ⟨v4, hc5, hr⟩ := hr
  refine CQ.region fine (callOf_1 139 [.agg (api_Rat.c x')] [.own (api_Rat.c x'), .own [aB false, .at (.slice none 0 0), aB false, .at (.slice none 0 0)]] (.loc (.agg (api_Rat.c v4)) [] [] 0) (callOk_ref (l := []) (args' := [.agg (api_Rat.c x')]) (SnL.cons (Sn.pure rfl) SnL.nil) (fraction_copied_ok n x' v4 hc5))) ?_
  refine EVO.p1 (.agg (api_Rat.c x')) ?_
  refine EVO.c0 (by kernel_rfl) (callOf_at (by kernel_rfl)) ?_
  refine EVO.e1 (.unk) [(1, .own (api_Rat.c v4))] ?_
  refine EVO.done ?_
  refine CQ.ret ?_
  obtain rfl := Option.some.inj hr
  exact FinQ.r1 [.agg (api_Rat.c v4)]
 ·replace hr := cd_f hb3 hr
  refine CQ.skip ?_
  refine CQ.seq ?_
  replace hr := bd hr; obtain ⟨v6, hc7, hr⟩ := hr
  refine CQ.region fine (callOf_1 80 [aI64 0] [.own (api_Rat.c x'), .own [aB false, .at (.slice none 0 0), aB false, .at (.slice none 0 0)]] (.loc (.agg (api_Rat.c v6)) [] [] 0) (callOk_ref (l := []) (args' := [aI64 0]) (SnL.cons (Sn.pure rfl) SnL.nil) (fraction_Whole_ok n 0 v6 hc7))) ?_
  refine EVO.c0 (by kernel_rfl) (callOf_at (by kernel_rfl)) ?_
  refine EVO.e1 (.unk) [(1, .own (api_Rat.c v6))] ?_
  refine EVO.done ?_
  refine CQ.ret ?_
  obtain rfl := Option.some.inj hr
  exact FinQ.r1 [.agg (api_Rat.c v6)]

theorem integer_Mul_inj {x' : api_Int} {y : api_Int} {x'_ : api_Int} {y_ : api_Int} (h : ([.agg [.at (.bool x'.Negative), slT (iC .u32) x'.Groups], .agg [.at (.bool y.Negative), slT (iC .u32) y.Groups]] : List AV) = [.agg [.at (.bool x'_.Negative), slT (iC .u32) x'_.Groups], .agg [.at (.bool y_.Negative), slT (iC .u32) y_.Groups]]) : x' = x'_ ∧ y = y_ := by
 obtain ⟨_, _⟩ := x'
 obtain ⟨_, _⟩ := x'_
 obtain ⟨_, _⟩ := y
 obtain ⟨_, _⟩ := y_
 simp only [List.cons.injEq, AV.agg.injEq, AV.at.injEq, Value.int.injEq, Value.bool.injEq, AV.fn.injEq, AV.pp.injEq, true_and, and_true, slT_inj_int] at h
 simp_all
theorem integer_Mul_ok (n : Nat) (x' : api_Int) (y : api_Int) (r : api_Int) (hr : integer_Mul n x' y = some r) : FnOk Tryz.prog 67 [.agg [.at (.bool x'.Negative), slT (iC .u32) x'.Groups], .agg [.at (.bool y.Negative), slT (iC .u32) y.Groups]] (.agg [.at (.bool r.Negative), slT (iC .u32) r.Groups]) := by
 unfold integer_Mul at hr
 refine FnOk.body fine Tryz.func67 (c := (Tryz.f67.body).getD .skip) rfl (s := mkS 16 0 [(0, .agg (api_Int.c x')), (1, .agg (api_Int.c y))]) (by kernel_rfl) (rs := [.cell 4 35]) rfl ?_
 unfold Tryz.f67
 simp only [Option.getD_some]
 refine CQ.seq ?_
 refine CQ.r0 fine ?_
 refine EVO.e1 (.hp 0 0) [(0, .own (api_Int.c x'))] ?_
 refine EVO.e1 (.hp 1 0) [(1, .own (api_Int.c y))] ?_
 refine EVO.e1 (.hp 2 0) [(2, .own [aB false, .at (.slice none 0 0)])] ?_
 refine EVO.done ?_
 refine CQ.n1 [2, 3, 4] (mkS 16 0 [(2, .hp 0 0), (3, .hp 1 0), (4, .hp 2 0)]) [.own (api_Int.c x'), .own (api_Int.c y), .own [aB false, .at (.slice none 0 0)]] ?_
 refine CQ.seq ?_
 replace hr := bd hr; obtain ⟨v1, hc2, hr⟩ := hr
 replace hr := bd hr; obtain ⟨v3, hc4, hr⟩ := hr
 replace hr := bd hr; obtain ⟨v5, hc6, hr⟩ := hr
 replace hr := bd hr; obtain ⟨v7, hc8, hr⟩ := hr
 refine CQ.regionT fine (callOf_ok [{ f := 106, args := [.agg (api_Int.c x')], H := [.own (api_Int.c x'), .own (api_Int.c y), .own [aB false, .at (.slice none 0 0)]], r := .loc (sU32 v1) [] [] 0 : CE }, { f := 106, args := [.agg (api_Int.c y)], H := [.own (api_Int.c x'), .own (api_Int.c y), .own [aB false, .at (.slice none 0 0)]], r := .loc (sU32 v3) [] [] 0 : CE }, { f := 107, args := [sU32 v1, sU32 v3], H := [.own (api_Int.c x'), .own (api_Int.c y), .own [aB false, .at (.slice none 0 0)]], r := .loc (sU32 v5) [] [] 0 : CE }, { f := 103, args := [aB (x'.Negative != y.Negative), sU32 v5], H := [.own (api_Int.c x'), .own (api_Int.c y), .own [aB false, .at (.slice none 0 0)]], r := .loc (.agg (api_Int.c v7)) [] [] 0 : CE }] (List.forall_mem_cons.2 ⟨(callOk_ref (l := []) (args' := [.agg (api_Int.c x')]) (SnL.cons (Sn.pure rfl) SnL.nil) (integer_groups_ok n x' v1 hc2)), (List.forall_mem_cons.2 ⟨(callOk_ref (l := []) (args' := [.agg (api_Int.c y)]) (SnL.cons (Sn.pure rfl) SnL.nil) (integer_groups_ok n y v3 hc4)), (List.forall_mem_cons.2 ⟨(callOk_ref (l := []) (args' := [sU32 v1, sU32 v3]) (SnL.cons (Sn.pure rfl) (SnL.cons (Sn.pure rfl) SnL.nil)) (integer_times_ok n v1 v3 v5 hc6)), (List.forall_mem_cons.2 ⟨(callOk_ref (l := []) (args' := [aB (x'.Negative != y.Negative), sU32 v5]) (SnL.cons (Sn.pure rfl) (SnL.cons (Sn.pure rfl) SnL.nil)) (integer_made_ok n (x'.Negative != y.Negative) v5 v7 hc8)), ce0⟩)⟩)⟩)⟩)) ?_
 refine EVT.p1 (.hp 0 0) ?_
 refine EVT.p1 (aB x'.Negative) ?_
 refine EVT.p1 (.hp 1 0) ?_
 refine EVT.p1 (aB y.Negative) ?_
 refine EVT.p1 (aB (x'.Negative != y.Negative)) ?_
 refine EVT.p1 (.agg (api_Int.c x')) ?_
 refine EVT.cal (by kernel_rfl) (by kernel_rfl) (callOf_at (by kernel_rfl)) (by kernel_rfl) ?_
 refine EVT.p1 (.agg (api_Int.c y)) ?_
 refine EVT.cal (by kernel_rfl) (by kernel_rfl) (callOf_skip (fun _ h => by obtain e0 := integer_groups_inj h; rw [show v3 = v1 from Option.some.inj (hc4.symm.trans ((show integer_groups n y = integer_groups n x' from (congr rfl e0)).trans hc2))]) (callOf_at (by kernel_rfl))) (by kernel_rfl) ?_
 refine EVT.cal (by kernel_rfl) (by kernel_rfl) (callOf_skip (fun h _ => absurd (show (107 : Nat) = 106 from h) (by decide)) (callOf_skip (fun h _ => absurd (show (107 : Nat) = 106 from h) (by decide)) (callOf_at (by kernel_rfl)))) (by kernel_rfl) ?_
 refine EVT.cal (by kernel_rfl) (by kernel_rfl) (callOf_skip (fun h _ => absurd (show (103 : Nat) = 106 from h) (by decide)) (callOf_skip (fun h _ => absurd (show (103 : Nat) = 106 from h) (by decide)) (callOf_skip (fun h _ => absurd (show (103 : Nat) = 107 from h) (by decide)) (callOf_at (by kernel_rfl))))) (by kernel_rfl) ?_
 refine EVT.e1 (.unk) [(2, .own (api_Int.c v7))] ?_
 refine EVT.done ⟨by kernel_rfl, ?_⟩
 refine CQ.ret ?_
 obtain rfl := Option.some.inj hr
 exact FinQ.r1 [.agg (api_Int.c v7)]

theorem integer_at_inj {g : List Int} {i : Int} {g_ : List Int} {i_ : Int} (h : ([slT (iC .u32) g, .at (.int .i64 i)] : List AV) = [slT (iC .u32) g_, .at (.int .i64 i_)]) : g = g_ ∧ i = i_ := by
 simp only [List.cons.injEq, AV.agg.injEq, AV.at.injEq, Value.int.injEq, Value.bool.injEq, AV.fn.injEq, AV.pp.injEq, true_and, and_true, slT_inj_int] at h
 simp_all
theorem integer_at_ok (n : Nat) (g : List Int) (i : Int) (r : Int) (hr : integer_at n g i = some r) : FnOk Tryz.prog 150 [slT (iC .u32) g, .at (.int .i64 i)] (.at (.int .u32 r)) := by
 unfold integer_at at hr
 refine FnOk.body fine Tryz.func150 (c := (Tryz.f150.body).getD .skip) rfl (s := mkS 13 0 [(0, sU32 g), (1, aI64 i)]) (by kernel_rfl) (rs := [.tmp 4]) rfl ?_
 unfold Tryz.f150
 simp only [Option.getD_some]
 refine CQ.seq ?_
 refine CQ.r0 fine ?_
 refine EVO.p1 (aU32 0) ?_
 refine EVO.done ?_
 refine CQ.n1 [0, 1] (mkS 13 0 [(0, sU32 g), (1, aI64 i)]) [] ?_
 refine CQ.seq ?_
 refine CQ.seq ?_
 refine CQ.r0 fine ?_
 refine EVO.p1 (aI64 i) ?_
 refine EVO.p1 (sU32 g) ?_
 refine EVO.p1 (aI64 (g.length : Int)) ?_
 refine EVO.p1 (aB (decide (i < (g.length : Int)))) ?_
 refine EVO.done ?_
 refine CQ.n1 [0, 1, 8] (mkS 13 0 [(0, sU32 g), (1, aI64 i), (8, aB (decide (i < (g.length : Int))))]) [] ?_
 refine CQ.cond (t := decide (i < (g.length : Int))) (by kernel_rfl) (fun hb1 => ?_) (fun hb1 => ?_)
 ·replace hr := cd_t hb1 hr
  refine CQ.seq ?_
  replace hr := gd hr; obtain ⟨hg2, hr⟩ := hr
  refine CQ.r0 fine ?_
  refine EVO.p1 (sU32 g) ?_
  refine EVO.p1 (aI64 i) ?_
  refine EVO.p0 (v := .pp (g.flatMap (iC .u32)) (i.toNat * 1)) (Eq.trans (b := ORes.ofP (guardV (inR i g.length) (.pp (g.flatMap (iC .u32)) (i.toNat * 1)))) (by kernel_rfl) (ofP_guard hg2)) ?_
  refine EVO.p0 (v := aU32 (gt g i)) (Eq.trans (b := ORes.ofP ((g.flatMap (iC .u32))[i.toNat * 1]?)) (by kernel_rfl) (ofP_some (flat_get (iC_len _) (inR_lt hg2) (by decide : 0 < 1) (by omega : i.toNat * 1 = i.toNat * 1 + 0) (by kernel_rfl)))) ?_
  refine EVO.p1 (aU32 (gt g i)) ?_
  refine EVO.done ?_
  refine CQ.ret ?_
  obtain rfl := Option.some.inj hr
  exact FinQ.r1 [aU32 (gt g i)]
 ·replace hr := cd_f hb1 hr
  refine CQ.skip ?_
  refine CQ.seq ?_
  refine CQ.r0 fine ?_
  refine EVO.p1 (aU32 0) ?_
  refine EVO.done ?_
  refine CQ.ret ?_
  obtain rfl := Option.some.inj hr
  exact FinQ.r1 [aU32 0]

theorem integer_plus_ok (n : Nat) (a : List Int) (b : List Int) (r : List Int) (hr : integer_plus n a b = some r) : FnOk Tryz.prog 132 [slT (iC .u32) a, slT (iC .u32) b] (slT (iC .u32) r) := by
 unfold integer_plus at hr
 refine FnOk.body fine Tryz.func132 (c := (Tryz.f132.body).getD .skip) rfl (s := mkS 41 0 [(0, sU32 a), (1, sU32 b)]) (by kernel_rfl) (rs := [.tmp 4]) rfl ?_
 unfold Tryz.f132
 simp only [Option.getD_some]
 refine CQ.seq ?_
 refine CQ.r0 fine ?_
 refine EVO.p1 (.at (.slice none 0 0)) ?_
 refine EVO.done ?_
 refine CQ.n1 [0, 1] (mkS 41 0 [(0, sU32 a), (1, sU32 b)]) [] ?_
 refine CQ.seq ?_
 replace hr := gd hr; obtain ⟨hg1, hr⟩ := hr
 replace hr := gd hr; obtain ⟨hg2, hr⟩ := hr
 replace hr := gd hr; obtain ⟨hg3, hr⟩ := hr
 refine CQ.r0 fine ?_
 refine EVO.p1 (sU32 a) ?_
 refine EVO.p1 (aI64 (a.length : Int)) ?_
 refine EVO.p1 (sU32 b) ?_
 refine EVO.p1 (aI64 (b.length : Int)) ?_
 refine EVO.p1 (aI64 (mx (a.length : Int) (b.length : Int))) ?_
 refine EVO.p1 (aI64 (wrapF .i64 ((mx (a.length : Int) (b.length : Int)) + 1))) ?_
 refine EVO.e0 (v := .hs 0 0 (List.replicate (wrapF .i64 ((mx (a.length : Int) (b.length : Int)) + 1)).toNat (0 : Int)).length 1) (ws := [(0, .own ((List.replicate (wrapF .i64 ((mx (a.length : Int) (b.length : Int)) + 1)).toNat (0 : Int)).flatMap (iC .u32)))]) (Eq.trans (b := guardO (decide (0 ≤ (wrapF .i64 ((mx (a.length : Int) (b.length : Int)) + 1))) && decide ((wrapF .i64 ((mx (a.length : Int) (b.length : Int)) + 1)) ≤ (wrapF .i64 ((mx (a.length : Int) (b.length : Int)) + 1))) && decide ((4 : Int) * (wrapF .i64 ((mx (a.length : Int) (b.length : Int)) + 1)) ≤ 281474976710656) && decide ((wrapF .i64 ((mx (a.length : Int) (b.length : Int)) + 1)) ≤ 9223372036854775807) && true && true && true) (some (.eff (.hs 0 0 (wrapF .i64 ((mx (a.length : Int) (b.length : Int)) + 1)).toNat 1) [(0, .own (zerosA [aU32 0] (wrapF .i64 ((mx (a.length : Int) (b.length : Int)) + 1)).toNat))]))) (by kernel_rfl) (make_own (c := (iC .u32)) (z := 0) rfl hg1 hg2 hg3)) ?_
 refine EVO.p1 (.hs 0 0 (List.replicate (wrapF .i64 ((mx (a.length : Int) (b.length : Int)) + 1)).toNat (0 : Int)).length 1) ?_
 refine EVO.done ?_
 refine CQ.n1 [0, 1, 5] (mkS 41 0 [(0, sU32 a), (1, sU32 b), (5, .hs 0 0 (List.replicate (wrapF .i64 ((mx (a.length : Int) (b.length : Int)) + 1)).toNat (0 : Int)).length 1)]) [.own ((List.replicate (wrapF .i64 ((mx (a.length : Int) (b.length : Int)) + 1)).toNat (0 : Int)).flatMap (iC .u32))] ?_
 refine CQ.seq ?_
 refine CQ.r0 fine ?_
 refine EVO.p1 (aU32 0) ?_
 refine EVO.done ?_
 refine CQ.seq ?_
 refine CQ.seq ?_
 refine CQ.r0 fine ?_
 refine EVO.p1 (.hs 0 0 (List.replicate (wrapF .i64 ((mx (a.length : Int) (b.length : Int)) + 1)).toNat (0 : Int)).length 1) ?_
 refine EVO.p1 (aI64 ((List.replicate (wrapF .i64 ((mx (a.length : Int) (b.length : Int)) + 1)).toNat (0 : Int)).length : Int)) ?_
 refine EVO.p1 (aI64 0) ?_
 refine EVO.done ?_
 refine CQ.n1 [0, 1, 5, 6, 17, 18] (mkS 41 0 [(0, sU32 a), (1, sU32 b), (5, .hs 0 0 (List.replicate (wrapF .i64 ((mx (a.length : Int) (b.length : Int)) + 1)).toNat (0 : Int)).length 1), (6, aU32 0), (17, aI64 ((List.replicate (wrapF .i64 ((mx (a.length : Int) (b.length : Int)) + 1)).toNat (0 : Int)).length : Int)), (18, aI64 0)]) [.own ((List.replicate (wrapF .i64 ((mx (a.length : Int) (b.length : Int)) + 1)).toNat (0 : Int)).flatMap (iC .u32))] ?_
 refine CQ.block ?_
 replace hr := bd hr; obtain ⟨out_15, hL26, hr⟩ := hr
 refine CQ.loopO (σ := fun z0 => match z0 with | (out_4, carry_5, x_6) => ⟨mkS 41 0 [(0, sU32 a), (1, sU32 b), (5, .hs 0 0 out_4.length 1), (6, aU32 carry_5), (17, aI64 ((List.replicate (wrapF .i64 ((mx (a.length : Int) (b.length : Int)) + 1)).toNat (0 : Int)).length : Int)), (18, aI64 x_6)], [.own (out_4.flatMap (iC .u32))]⟩) (Q := fun x st' => x = .exit 0 ∧ Wk st' ⟨mkS 41 0 [(5, .hs 0 0 out_15.length 1)], [.own (out_15.flatMap (iC .u32))]⟩) hL26 ((Wk.gc [0, 1, 5, 6, 17, 18] [(0, false)] rfl ⟨ids_flat (iC_pure _) _, trivial⟩).to (by kernel_rfl)) ?_ ?_
 ·clear hr
  rintro m ⟨out_4, carry_5, x_6⟩ hr
  show CQ _ _ _ _ ⟨_, _⟩
  refine CQ.seq ?_
  refine CQ.r0 fine ?_
  refine EVO.p1 (aB (decide (x_6 < ((List.replicate (wrapF .i64 ((mx (a.length : Int) (b.length : Int)) + 1)).toNat (0 : Int)).length : Int)))) ?_
  refine EVO.done ?_
  refine CQ.seq ?_
  refine CQ.cond (t := decide (x_6 < ((List.replicate (wrapF .i64 ((mx (a.length : Int) (b.length : Int)) + 1)).toNat (0 : Int)).length : Int))) (by kernel_rfl) (fun hb17 => ?_) (fun hb17 => ?_)
  ·replace hr := cd_t hb17 hr
   refine CQ.skip ?_
   refine CQ.seq ?_
   refine CQ.block ?_
   refine CQ.seq ?_
   refine CQ.r0 fine ?_
   refine EVO.p1 (aI64 x_6) ?_
   refine EVO.p1 (aI64 x_6) ?_
   refine EVO.done ?_
   refine CQ.n1 [0, 1, 5, 6, 7, 17, 18] (mkS 41 0 [(0, sU32 a), (1, sU32 b), (5, .hs 0 0 out_4.length 1), (6, aU32 carry_5), (7, aI64 x_6), (17, aI64 ((List.replicate (wrapF .i64 ((mx (a.length : Int) (b.length : Int)) + 1)).toNat (0 : Int)).length : Int)), (18, aI64 x_6)]) [.own (out_4.flatMap (iC .u32))] ?_
   refine CQ.seq ?_
   replace hr := bd hr; obtain ⟨v18, hc19, hr⟩ := hr
   replace hr := bd hr; obtain ⟨v20, hc21, hr⟩ := hr
   refine CQ.region fine (callOf_ok [{ f := 150, args := [sU32 a, aI64 x_6], H := [.own (out_4.flatMap (iC .u32))], r := .loc (aU32 v18) [] [] 0 : CE }, { f := 150, args := [sU32 b, aI64 x_6], H := [.own (out_4.flatMap (iC .u32))], r := .loc (aU32 v20) [] [] 0 : CE }] (List.forall_mem_cons.2 ⟨(callOk_val (l := []) (args' := [sU32 a, aI64 x_6]) rfl (SnL.cons (Sn.pure rfl) (SnL.cons (Sn.pure rfl) SnL.nil)) (integer_at_ok n a x_6 v18 hc19)), (List.forall_mem_cons.2 ⟨(callOk_val (l := []) (args' := [sU32 b, aI64 x_6]) rfl (SnL.cons (Sn.pure rfl) (SnL.cons (Sn.pure rfl) SnL.nil)) (integer_at_ok n b x_6 v20 hc21)), ce0⟩)⟩)) ?_
   refine EVO.p1 (sU32 a) ?_
   refine EVO.p1 (aI64 x_6) ?_
   refine EVO.c0 (by kernel_rfl) (callOf_at (by kernel_rfl)) ?_
   refine EVO.p1 (sU32 b) ?_
   refine EVO.p1 (aI64 x_6) ?_
   refine EVO.c0 (by kernel_rfl) (callOf_skip (fun _ h => by obtain ⟨e0, e1⟩ := integer_at_inj h; rw [show v20 = v18 from Option.some.inj (hc21.symm.trans ((show integer_at n b x_6 = integer_at n a x_6 from (congr (congr rfl e0) e1)).trans hc19))]) (callOf_at (by kernel_rfl))) ?_
   refine EVO.p1 (aU32 (wrapF .u32 (v18 + v20))) ?_
   refine EVO.p1 (aU32 carry_5) ?_
   refine EVO.p1 (aU32 (wrapF .u32 ((wrapF .u32 (v18 + v20)) + carry_5))) ?_
   refine EVO.p1 (aU32 (wrapF .u32 ((wrapF .u32 (v18 + v20)) + carry_5))) ?_
   refine EVO.done ?_
   refine CQ.n1 [0, 1, 5, 7, 8, 17, 18] (mkS 41 0 [(0, sU32 a), (1, sU32 b), (5, .hs 0 0 out_4.length 1), (7, aI64 x_6), (8, aU32 (wrapF .u32 ((wrapF .u32 (v18 + v20)) + carry_5))), (17, aI64 ((List.replicate (wrapF .i64 ((mx (a.length : Int) (b.length : Int)) + 1)).toNat (0 : Int)).length : Int)), (18, aI64 x_6)]) [.own (out_4.flatMap (iC .u32))] ?_
   refine CQ.seq ?_
   refine CQ.r0 fine ?_
   refine EVO.p1 (aU32 0) ?_
   refine EVO.done ?_
   refine CQ.seq ?_
   refine CQ.seq ?_
   refine CQ.r0 fine ?_
   refine EVO.p1 (aU32 (wrapF .u32 ((wrapF .u32 (v18 + v20)) + carry_5))) ?_
   refine EVO.p1 (aB (decide ((wrapF .u32 ((wrapF .u32 (v18 + v20)) + carry_5)) ≥ 1000000000))) ?_
   refine EVO.done ?_
   refine CQ.n1 [0, 1, 5, 6, 7, 8, 17, 18, 31] (mkS 41 0 [(0, sU32 a), (1, sU32 b), (5, .hs 0 0 out_4.length 1), (6, aU32 0), (7, aI64 x_6), (8, aU32 (wrapF .u32 ((wrapF .u32 (v18 + v20)) + carry_5))), (17, aI64 ((List.replicate (wrapF .i64 ((mx (a.length : Int) (b.length : Int)) + 1)).toNat (0 : Int)).length : Int)), (18, aI64 x_6), (31, aB (decide ((wrapF .u32 ((wrapF .u32 (v18 + v20)) + carry_5)) ≥ 1000000000)))]) [.own (out_4.flatMap (iC .u32))] ?_
   refine CQ.cond (t := decide ((wrapF .u32 ((wrapF .u32 (v18 + v20)) + carry_5)) ≥ 1000000000)) (by kernel_rfl) (fun hb22 => ?_) (fun hb22 => ?_)
   ·replace hr := cd_t hb22 hr
    refine CQ.r0 fine ?_
    refine EVO.p1 (aU32 (wrapF .u32 ((wrapF .u32 (v18 + v20)) + carry_5))) ?_
    refine EVO.p1 (aU32 (wrapF .u32 ((wrapF .u32 ((wrapF .u32 (v18 + v20)) + carry_5)) - 1000000000))) ?_
    refine EVO.p1 (aU32 (wrapF .u32 ((wrapF .u32 ((wrapF .u32 (v18 + v20)) + carry_5)) - 1000000000))) ?_
    refine EVO.p1 (aU32 1) ?_
    refine EVO.done ?_
    refine CQ.n1 [0, 1, 5, 6, 7, 8, 17, 18] (mkS 41 0 [(0, sU32 a), (1, sU32 b), (5, .hs 0 0 out_4.length 1), (6, aU32 1), (7, aI64 x_6), (8, aU32 (wrapF .u32 ((wrapF .u32 ((wrapF .u32 (v18 + v20)) + carry_5)) - 1000000000))), (17, aI64 ((List.replicate (wrapF .i64 ((mx (a.length : Int) (b.length : Int)) + 1)).toNat (0 : Int)).length : Int)), (18, aI64 x_6)]) [.own (out_4.flatMap (iC .u32))] ?_
    replace hr := gd hr; obtain ⟨hg23, hr⟩ := hr
    refine CQ.r0 fine ?_
    refine EVO.p1 (.hs 0 0 out_4.length 1) ?_
    refine EVO.p1 (aI64 x_6) ?_
    refine EVO.p1 (aU32 (wrapF .u32 ((wrapF .u32 ((wrapF .u32 (v18 + v20)) + carry_5)) - 1000000000))) ?_
    refine EVO.p0 (v := .hp 0 (0 + x_6.toNat * 1)) (Eq.trans (b := ORes.ofP (guardV (inR x_6 out_4.length) (.hp 0 (0 + x_6.toNat * 1)))) (by kernel_rfl) (ofP_guard hg23)) ?_
    refine EVO.e0 (v := .unk) (ws := [(0, .own ((out_4.set x_6.toNat (wrapF .u32 ((wrapF .u32 ((wrapF .u32 (v18 + v20)) + carry_5)) - 1000000000))).flatMap (iC .u32)))]) (Eq.trans (b := stO (decide ((0 + x_6.toNat * 1) + 1 ≤ (out_4.flatMap (iC .u32)).length) && true) [(0, .own (setCells (out_4.flatMap (iC .u32)) (0 + x_6.toNat * 1) [aU32 (wrapF .u32 ((wrapF .u32 ((wrapF .u32 (v18 + v20)) + carry_5)) - 1000000000))]))]) (by kernel_rfl) (stO_t (and_t (flat_fits (iC_len _) (inR_lt hg23) (Nat.le_of_ble_eq_true rfl) (by omega : 0 + x_6.toNat * 1 = x_6.toNat * 1 + 0))) (congrArg Blk.own (flat_set (iC_len _) (inR_lt hg23) (Nat.le_of_ble_eq_true rfl) (by omega : 0 + x_6.toNat * 1 = x_6.toNat * 1 + 0) (by kernel_rfl))))) ?_
    refine EVO.done ?_
    refine CQ.pop ?_
    refine CQ.r0 fine ?_
    refine EVO.p1 (aI64 (wrapF .i64 (x_6 + 1))) ?_
    refine EVO.p1 (aI64 (wrapF .i64 (x_6 + 1))) ?_
    refine EVO.done ?_
    exact loopF_back (out_4.set x_6.toNat (wrapF .u32 ((wrapF .u32 ((wrapF .u32 (v18 + v20)) + carry_5)) - 1000000000)), 1, wrapF .i64 (x_6 + 1)) hr ((Wk.relen 5 (b := 0) (es := 1) (len := out_4.length) (out_4.set x_6.toNat (wrapF .u32 ((wrapF .u32 ((wrapF .u32 (v18 + v20)) + carry_5)) - 1000000000))).length (by kernel_rfl) (by simp)).trans ((Wk.gc [0, 1, 5, 6, 17, 18] [(0, false)] rfl ⟨ids_flat (iC_pure _) _, trivial⟩).to (by kernel_rfl)))
   ·replace hr := cd_f hb22 hr
    refine CQ.skip ?_
    replace hr := gd hr; obtain ⟨hg24, hr⟩ := hr
    refine CQ.r0 fine ?_
    refine EVO.p1 (.hs 0 0 out_4.length 1) ?_
    refine EVO.p1 (aI64 x_6) ?_
    refine EVO.p1 (aU32 (wrapF .u32 ((wrapF .u32 (v18 + v20)) + carry_5))) ?_
    refine EVO.p0 (v := .hp 0 (0 + x_6.toNat * 1)) (Eq.trans (b := ORes.ofP (guardV (inR x_6 out_4.length) (.hp 0 (0 + x_6.toNat * 1)))) (by kernel_rfl) (ofP_guard hg24)) ?_
    refine EVO.e0 (v := .unk) (ws := [(0, .own ((out_4.set x_6.toNat (wrapF .u32 ((wrapF .u32 (v18 + v20)) + carry_5))).flatMap (iC .u32)))]) (Eq.trans (b := stO (decide ((0 + x_6.toNat * 1) + 1 ≤ (out_4.flatMap (iC .u32)).length) && true) [(0, .own (setCells (out_4.flatMap (iC .u32)) (0 + x_6.toNat * 1) [aU32 (wrapF .u32 ((wrapF .u32 (v18 + v20)) + carry_5))]))]) (by kernel_rfl) (stO_t (and_t (flat_fits (iC_len _) (inR_lt hg24) (Nat.le_of_ble_eq_true rfl) (by omega : 0 + x_6.toNat * 1 = x_6.toNat * 1 + 0))) (congrArg Blk.own (flat_set (iC_len _) (inR_lt hg24) (Nat.le_of_ble_eq_true rfl) (by omega : 0 + x_6.toNat * 1 = x_6.toNat * 1 + 0) (by kernel_rfl))))) ?_
    refine EVO.done ?_
    refine CQ.pop ?_
    refine CQ.r0 fine ?_
    refine EVO.p1 (aI64 (wrapF .i64 (x_6 + 1))) ?_
    refine EVO.p1 (aI64 (wrapF .i64 (x_6 + 1))) ?_
    refine EVO.done ?_
    exact loopF_back (out_4.set x_6.toNat (wrapF .u32 ((wrapF .u32 (v18 + v20)) + carry_5)), 0, wrapF .i64 (x_6 + 1)) hr ((Wk.relen 5 (b := 0) (es := 1) (len := out_4.length) (out_4.set x_6.toNat (wrapF .u32 ((wrapF .u32 (v18 + v20)) + carry_5))).length (by kernel_rfl) (by simp)).trans ((Wk.gc [0, 1, 5, 6, 17, 18] [(0, false)] rfl ⟨ids_flat (iC_pure _) _, trivial⟩).to (by kernel_rfl)))
  ·replace hr := cd_f hb17 hr
   refine CQ.leave rfl ?_
   obtain rfl := Option.some.inj hr
   exact ⟨rfl, ((Wk.gc [5] [(0, false)] rfl ⟨ids_flat (iC_pure _) _, trivial⟩).to (by kernel_rfl))⟩
 ·rintro x st' hq27
  clear hL26
  obtain ⟨rfl, hq27⟩ := hq27
  refine CQ_exit _ rfl ?_
  refine CQ.wk hq27 ?_
  refine CQ.seq ?_
  replace hr := bd hr; obtain ⟨v28, hc29, hr⟩ := hr
  refine CQ.region fine (callOf_1 131 [.hs 0 0 out_15.length 1] [.own (out_15.flatMap (iC .u32))] (.loc (sU32 v28) [(0, .fix (out_15.flatMap (iC .u32)))] [0] 0) (callOk_ref (l := [0]) (args' := [sU32 out_15]) (SnL.cons (Sn.hs rfl (.inl rfl) (SnC.pure (ids_flat (iC_pure _) _)) (fun h => flat_nil0 h)) SnL.nil) (integer_trim_ok n out_15 v28 hc29))) ?_
  refine EVO.p1 (.hs 0 0 out_15.length 1) ?_
  refine EVO.c0 (by kernel_rfl) (callOf_at (by kernel_rfl)) ?_
  refine EVO.p1 (sU32 v28) ?_
  refine EVO.done ?_
  refine CQ.ret ?_
  obtain rfl := Option.some.inj hr
  exact FinQ.r1 [sU32 v28]

theorem integer_minus_ok (n : Nat) (a : List Int) (b : List Int) (r : List Int) (hr : integer_minus n a b = some r) : FnOk Tryz.prog 134 [slT (iC .u32) a, slT (iC .u32) b] (slT (iC .u32) r) := by
 unfold integer_minus at hr
 refine FnOk.body fine Tryz.func134 (c := (Tryz.f134.body).getD .skip) rfl (s := mkS 50 0 [(0, sU32 a), (1, sU32 b)]) (by kernel_rfl) (rs := [.tmp 4]) rfl ?_
 unfold Tryz.f134
 simp only [Option.getD_some]
 refine CQ.seq ?_
 refine CQ.r0 fine ?_
 refine EVO.p1 (.at (.slice none 0 0)) ?_
 refine EVO.done ?_
 refine CQ.n1 [0, 1] (mkS 50 0 [(0, sU32 a), (1, sU32 b)]) [] ?_
 refine CQ.seq ?_
 replace hr := gd hr; obtain ⟨hg1, hr⟩ := hr
 replace hr := gd hr; obtain ⟨hg2, hr⟩ := hr
 replace hr := gd hr; obtain ⟨hg3, hr⟩ := hr
 refine CQ.r0 fine ?_
 refine EVO.p1 (sU32 a) ?_
 refine EVO.p1 (aI64 (a.length : Int)) ?_
 refine EVO.e0 (v := .hs 0 0 (List.replicate (a.length : Int).toNat (0 : Int)).length 1) (ws := [(0, .own ((List.replicate (a.length : Int).toNat (0 : Int)).flatMap (iC .u32)))]) (Eq.trans (b := guardO (decide (0 ≤ (a.length : Int)) && decide ((a.length : Int) ≤ (a.length : Int)) && decide ((4 : Int) * (a.length : Int) ≤ 281474976710656) && decide ((a.length : Int) ≤ 9223372036854775807) && true && true && true) (some (.eff (.hs 0 0 (a.length : Int).toNat 1) [(0, .own (zerosA [aU32 0] (a.length : Int).toNat))]))) (by kernel_rfl) (make_own (c := (iC .u32)) (z := 0) rfl hg1 hg2 hg3)) ?_
 refine EVO.p1 (.hs 0 0 (List.replicate (a.length : Int).toNat (0 : Int)).length 1) ?_
 refine EVO.done ?_
 refine CQ.n1 [0, 1, 5] (mkS 50 0 [(0, sU32 a), (1, sU32 b), (5, .hs 0 0 (List.replicate (a.length : Int).toNat (0 : Int)).length 1)]) [.own ((List.replicate (a.length : Int).toNat (0 : Int)).flatMap (iC .u32))] ?_
 refine CQ.seq ?_
 refine CQ.r0 fine ?_
 refine EVO.p1 (aU32 0) ?_
 refine EVO.done ?_
 refine CQ.seq ?_
 refine CQ.seq ?_
 refine CQ.r0 fine ?_
 refine EVO.p1 (.hs 0 0 (List.replicate (a.length : Int).toNat (0 : Int)).length 1) ?_
 refine EVO.p1 (aI64 ((List.replicate (a.length : Int).toNat (0 : Int)).length : Int)) ?_
 refine EVO.p1 (aI64 0) ?_
 refine EVO.done ?_
 refine CQ.n1 [0, 1, 5, 6, 13, 14] (mkS 50 0 [(0, sU32 a), (1, sU32 b), (5, .hs 0 0 (List.replicate (a.length : Int).toNat (0 : Int)).length 1), (6, aU32 0), (13, aI64 ((List.replicate (a.length : Int).toNat (0 : Int)).length : Int)), (14, aI64 0)]) [.own ((List.replicate (a.length : Int).toNat (0 : Int)).flatMap (iC .u32))] ?_
 refine CQ.block ?_
 replace hr := bd hr; obtain ⟨out_14, hL24, hr⟩ := hr
 refine CQ.loopO (σ := fun z0 => match z0 with | (out_4, borrow_5, x_6) => ⟨mkS 50 0 [(0, sU32 a), (1, sU32 b), (5, .hs 0 0 out_4.length 1), (6, aU32 borrow_5), (13, aI64 ((List.replicate (a.length : Int).toNat (0 : Int)).length : Int)), (14, aI64 x_6)], [.own (out_4.flatMap (iC .u32))]⟩) (Q := fun x st' => x = .exit 0 ∧ Wk st' ⟨mkS 50 0 [(5, .hs 0 0 out_14.length 1)], [.own (out_14.flatMap (iC .u32))]⟩) hL24 ((Wk.gc [0, 1, 5, 6, 13, 14] [(0, false)] rfl ⟨ids_flat (iC_pure _) _, trivial⟩).to (by kernel_rfl)) ?_ ?_
 ·clear hr
  rintro m ⟨out_4, borrow_5, x_6⟩ hr
  show CQ _ _ _ _ ⟨_, _⟩
  refine CQ.seq ?_
  refine CQ.r0 fine ?_
  refine EVO.p1 (aB (decide (x_6 < ((List.replicate (a.length : Int).toNat (0 : Int)).length : Int)))) ?_
  refine EVO.done ?_
  refine CQ.seq ?_
  refine CQ.cond (t := decide (x_6 < ((List.replicate (a.length : Int).toNat (0 : Int)).length : Int))) (by kernel_rfl) (fun hb16 => ?_) (fun hb16 => ?_)
  ·replace hr := cd_t hb16 hr
   refine CQ.skip ?_
   refine CQ.seq ?_
   refine CQ.block ?_
   refine CQ.seq ?_
   refine CQ.r0 fine ?_
   refine EVO.p1 (aI64 x_6) ?_
   refine EVO.p1 (aI64 x_6) ?_
   refine EVO.done ?_
   refine CQ.n1 [0, 1, 5, 6, 7, 13, 14] (mkS 50 0 [(0, sU32 a), (1, sU32 b), (5, .hs 0 0 out_4.length 1), (6, aU32 borrow_5), (7, aI64 x_6), (13, aI64 ((List.replicate (a.length : Int).toNat (0 : Int)).length : Int)), (14, aI64 x_6)]) [.own (out_4.flatMap (iC .u32))] ?_
   refine CQ.seq ?_
   replace hr := bd hr; obtain ⟨v17, hc18, hr⟩ := hr
   refine CQ.region fine (callOf_1 150 [sU32 b, aI64 x_6] [.own (out_4.flatMap (iC .u32))] (.loc (aU32 v17) [] [] 0) (callOk_val (l := []) (args' := [sU32 b, aI64 x_6]) rfl (SnL.cons (Sn.pure rfl) (SnL.cons (Sn.pure rfl) SnL.nil)) (integer_at_ok n b x_6 v17 hc18))) ?_
   refine EVO.p1 (sU32 b) ?_
   refine EVO.p1 (aI64 x_6) ?_
   refine EVO.c0 (by kernel_rfl) (callOf_at (by kernel_rfl)) ?_
   refine EVO.p1 (aU32 borrow_5) ?_
   refine EVO.p1 (aU32 (wrapF .u32 (v17 + borrow_5))) ?_
   refine EVO.p1 (aU32 (wrapF .u32 (v17 + borrow_5))) ?_
   refine EVO.done ?_
   refine CQ.n1 [0, 1, 5, 7, 8, 13, 14] (mkS 50 0 [(0, sU32 a), (1, sU32 b), (5, .hs 0 0 out_4.length 1), (7, aI64 x_6), (8, aU32 (wrapF .u32 (v17 + borrow_5))), (13, aI64 ((List.replicate (a.length : Int).toNat (0 : Int)).length : Int)), (14, aI64 x_6)]) [.own (out_4.flatMap (iC .u32))] ?_
   refine CQ.seq ?_
   refine CQ.r0 fine ?_
   refine EVO.p1 (aU32 0) ?_
   refine EVO.done ?_
   refine CQ.seq ?_
   replace hr := gd hr; obtain ⟨hg19, hr⟩ := hr
   refine CQ.r0 fine ?_
   refine EVO.p1 (sU32 a) ?_
   refine EVO.p1 (aI64 x_6) ?_
   refine EVO.p0 (v := .pp (a.flatMap (iC .u32)) (x_6.toNat * 1)) (Eq.trans (b := ORes.ofP (guardV (inR x_6 a.length) (.pp (a.flatMap (iC .u32)) (x_6.toNat * 1)))) (by kernel_rfl) (ofP_guard hg19)) ?_
   refine EVO.p0 (v := aU32 (gt a x_6)) (Eq.trans (b := ORes.ofP ((a.flatMap (iC .u32))[x_6.toNat * 1]?)) (by kernel_rfl) (ofP_some (flat_get (iC_len _) (inR_lt hg19) (by decide : 0 < 1) (by omega : x_6.toNat * 1 = x_6.toNat * 1 + 0) (by kernel_rfl)))) ?_
   refine EVO.p1 (aU32 (wrapF .u32 (v17 + borrow_5))) ?_
   refine EVO.p1 (aB (decide ((gt a x_6) < (wrapF .u32 (v17 + borrow_5))))) ?_
   refine EVO.done ?_
   refine CQ.n1 [0, 1, 5, 6, 7, 8, 13, 14, 27] (mkS 50 0 [(0, sU32 a), (1, sU32 b), (5, .hs 0 0 out_4.length 1), (6, aU32 0), (7, aI64 x_6), (8, aU32 (wrapF .u32 (v17 + borrow_5))), (13, aI64 ((List.replicate (a.length : Int).toNat (0 : Int)).length : Int)), (14, aI64 x_6), (27, aB (decide ((gt a x_6) < (wrapF .u32 (v17 + borrow_5)))))]) [.own (out_4.flatMap (iC .u32))] ?_
   refine CQ.cond (t := decide ((gt a x_6) < (wrapF .u32 (v17 + borrow_5)))) (by kernel_rfl) (fun hb20 => ?_) (fun hb20 => ?_)
   ·replace hr := cd_t hb20 hr
    replace hr := gd hr; obtain ⟨hg21, hr⟩ := hr
    refine CQ.r0 fine ?_
    refine EVO.p1 (.hs 0 0 out_4.length 1) ?_
    refine EVO.p1 (aI64 x_6) ?_
    refine EVO.p1 (sU32 a) ?_
    refine EVO.p1 (aI64 x_6) ?_
    refine EVO.p0 (v := .pp (a.flatMap (iC .u32)) (x_6.toNat * 1)) (Eq.trans (b := ORes.ofP (guardV (inR x_6 a.length) (.pp (a.flatMap (iC .u32)) (x_6.toNat * 1)))) (by kernel_rfl) (ofP_guard hg19)) ?_
    refine EVO.p0 (v := aU32 (gt a x_6)) (Eq.trans (b := ORes.ofP ((a.flatMap (iC .u32))[x_6.toNat * 1]?)) (by kernel_rfl) (ofP_some (flat_get (iC_len _) (inR_lt hg19) (by decide : 0 < 1) (by omega : x_6.toNat * 1 = x_6.toNat * 1 + 0) (by kernel_rfl)))) ?_
    refine EVO.p1 (aU32 (wrapF .u32 ((gt a x_6) + 1000000000))) ?_
    refine EVO.p1 (aU32 (wrapF .u32 (v17 + borrow_5))) ?_
    refine EVO.p1 (aU32 (wrapF .u32 ((wrapF .u32 ((gt a x_6) + 1000000000)) - (wrapF .u32 (v17 + borrow_5))))) ?_
    refine EVO.p0 (v := .hp 0 (0 + x_6.toNat * 1)) (Eq.trans (b := ORes.ofP (guardV (inR x_6 out_4.length) (.hp 0 (0 + x_6.toNat * 1)))) (by kernel_rfl) (ofP_guard hg21)) ?_
    refine EVO.e0 (v := .unk) (ws := [(0, .own ((out_4.set x_6.toNat (wrapF .u32 ((wrapF .u32 ((gt a x_6) + 1000000000)) - (wrapF .u32 (v17 + borrow_5))))).flatMap (iC .u32)))]) (Eq.trans (b := stO (decide ((0 + x_6.toNat * 1) + 1 ≤ (out_4.flatMap (iC .u32)).length) && true) [(0, .own (setCells (out_4.flatMap (iC .u32)) (0 + x_6.toNat * 1) [aU32 (wrapF .u32 ((wrapF .u32 ((gt a x_6) + 1000000000)) - (wrapF .u32 (v17 + borrow_5))))]))]) (by kernel_rfl) (stO_t (and_t (flat_fits (iC_len _) (inR_lt hg21) (Nat.le_of_ble_eq_true rfl) (by omega : 0 + x_6.toNat * 1 = x_6.toNat * 1 + 0))) (congrArg Blk.own (flat_set (iC_len _) (inR_lt hg21) (Nat.le_of_ble_eq_true rfl) (by omega : 0 + x_6.toNat * 1 = x_6.toNat * 1 + 0) (by kernel_rfl))))) ?_
    refine EVO.p1 (aU32 1) ?_
    refine EVO.done ?_
    refine CQ.pop ?_
    refine CQ.r0 fine ?_
    refine EVO.p1 (aI64 (wrapF .i64 (x_6 + 1))) ?_
    refine EVO.p1 (aI64 (wrapF .i64 (x_6 + 1))) ?_
    refine EVO.done ?_
    exact loopF_back (out_4.set x_6.toNat (wrapF .u32 ((wrapF .u32 ((gt a x_6) + 1000000000)) - (wrapF .u32 (v17 + borrow_5)))), 1, wrapF .i64 (x_6 + 1)) hr ((Wk.relen 5 (b := 0) (es := 1) (len := out_4.length) (out_4.set x_6.toNat (wrapF .u32 ((wrapF .u32 ((gt a x_6) + 1000000000)) - (wrapF .u32 (v17 + borrow_5))))).length (by kernel_rfl) (by simp)).trans ((Wk.gc [0, 1, 5, 6, 13, 14] [(0, false)] rfl ⟨ids_flat (iC_pure _) _, trivial⟩).to (by kernel_rfl)))
   ·replace hr := cd_f hb20 hr
    replace hr := gd hr; obtain ⟨hg22, hr⟩ := hr
    refine CQ.r0 fine ?_
    refine EVO.p1 (.hs 0 0 out_4.length 1) ?_
    refine EVO.p1 (aI64 x_6) ?_
    refine EVO.p1 (sU32 a) ?_
    refine EVO.p1 (aI64 x_6) ?_
    refine EVO.p0 (v := .pp (a.flatMap (iC .u32)) (x_6.toNat * 1)) (Eq.trans (b := ORes.ofP (guardV (inR x_6 a.length) (.pp (a.flatMap (iC .u32)) (x_6.toNat * 1)))) (by kernel_rfl) (ofP_guard hg19)) ?_
    refine EVO.p0 (v := aU32 (gt a x_6)) (Eq.trans (b := ORes.ofP ((a.flatMap (iC .u32))[x_6.toNat * 1]?)) (by kernel_rfl) (ofP_some (flat_get (iC_len _) (inR_lt hg19) (by decide : 0 < 1) (by omega : x_6.toNat * 1 = x_6.toNat * 1 + 0) (by kernel_rfl)))) ?_
    refine EVO.p1 (aU32 (wrapF .u32 (v17 + borrow_5))) ?_
    refine EVO.p1 (aU32 (wrapF .u32 ((gt a x_6) - (wrapF .u32 (v17 + borrow_5))))) ?_
    refine EVO.p0 (v := .hp 0 (0 + x_6.toNat * 1)) (Eq.trans (b := ORes.ofP (guardV (inR x_6 out_4.length) (.hp 0 (0 + x_6.toNat * 1)))) (by kernel_rfl) (ofP_guard hg22)) ?_
    refine EVO.e0 (v := .unk) (ws := [(0, .own ((out_4.set x_6.toNat (wrapF .u32 ((gt a x_6) - (wrapF .u32 (v17 + borrow_5))))).flatMap (iC .u32)))]) (Eq.trans (b := stO (decide ((0 + x_6.toNat * 1) + 1 ≤ (out_4.flatMap (iC .u32)).length) && true) [(0, .own (setCells (out_4.flatMap (iC .u32)) (0 + x_6.toNat * 1) [aU32 (wrapF .u32 ((gt a x_6) - (wrapF .u32 (v17 + borrow_5))))]))]) (by kernel_rfl) (stO_t (and_t (flat_fits (iC_len _) (inR_lt hg22) (Nat.le_of_ble_eq_true rfl) (by omega : 0 + x_6.toNat * 1 = x_6.toNat * 1 + 0))) (congrArg Blk.own (flat_set (iC_len _) (inR_lt hg22) (Nat.le_of_ble_eq_true rfl) (by omega : 0 + x_6.toNat * 1 = x_6.toNat * 1 + 0) (by kernel_rfl))))) ?_
    refine EVO.done ?_
    refine CQ.pop ?_
    refine CQ.r0 fine ?_
    refine EVO.p1 (aI64 (wrapF .i64 (x_6 + 1))) ?_
    refine EVO.p1 (aI64 (wrapF .i64 (x_6 + 1))) ?_
    refine EVO.done ?_
    exact loopF_back (out_4.set x_6.toNat (wrapF .u32 ((gt a x_6) - (wrapF .u32 (v17 + borrow_5)))), 0, wrapF .i64 (x_6 + 1)) hr ((Wk.relen 5 (b := 0) (es := 1) (len := out_4.length) (out_4.set x_6.toNat (wrapF .u32 ((gt a x_6) - (wrapF .u32 (v17 + borrow_5))))).length (by kernel_rfl) (by simp)).trans ((Wk.gc [0, 1, 5, 6, 13, 14] [(0, false)] rfl ⟨ids_flat (iC_pure _) _, trivial⟩).to (by kernel_rfl)))
  ·replace hr := cd_f hb16 hr
   refine CQ.leave rfl ?_
   obtain rfl := Option.some.inj hr
   exact ⟨rfl, ((Wk.gc [5] [(0, false)] rfl ⟨ids_flat (iC_pure _) _, trivial⟩).to (by kernel_rfl))⟩
 ·rintro x st' hq25
  clear hL24
  obtain ⟨rfl, hq25⟩ := hq25
  refine CQ_exit _ rfl ?_
  refine CQ.wk hq25 ?_
  refine CQ.seq ?_
  replace hr := bd hr; obtain ⟨v26, hc27, hr⟩ := hr
  refine CQ.region fine (callOf_1 131 [.hs 0 0 out_14.length 1] [.own (out_14.flatMap (iC .u32))] (.loc (sU32 v26) [(0, .fix (out_14.flatMap (iC .u32)))] [0] 0) (callOk_ref (l := [0]) (args' := [sU32 out_14]) (SnL.cons (Sn.hs rfl (.inl rfl) (SnC.pure (ids_flat (iC_pure _) _)) (fun h => flat_nil0 h)) SnL.nil) (integer_trim_ok n out_14 v26 hc27))) ?_
  refine EVO.p1 (.hs 0 0 out_14.length 1) ?_
  refine EVO.c0 (by kernel_rfl) (callOf_at (by kernel_rfl)) ?_
  refine EVO.p1 (sU32 v26) ?_
  refine EVO.done ?_
  refine CQ.ret ?_
  obtain rfl := Option.some.inj hr
  exact FinQ.r1 [sU32 v26]

theorem integer_Divide_ok (n : Nat) (x' : api_Int) (y : api_Int) (r : api_Int × api_Int × Int) (hr : integer_Divide n x' y = some r) : FnOk Tryz.prog 142 [.agg [.at (.bool x'.Negative), slT (iC .u32) x'.Groups], .agg [.at (.bool y.Negative), slT (iC .u32) y.Groups]] (.tup [.agg [.at (.bool r.1.Negative), slT (iC .u32) r.1.Groups], .agg [.at (.bool r.2.1.Negative), slT (iC .u32) r.2.1.Groups], .at (.int .i64 r.2.2)]) := by
 unfold integer_Divide at hr
 refine FnOk.body fine Tryz.func142 (c := (Tryz.f142.body).getD .skip) rfl (s := mkS 55 0 [(0, .agg (api_Int.c x')), (1, .agg (api_Int.c y))]) (by kernel_rfl) (rs := [.cell 4 35, .cell 5 35, .tmp 6]) rfl ?_
 unfold Tryz.f142
 simp only [Option.getD_some]
 refine CQ.seq ?_
 refine CQ.r0 fine ?_
 refine EVO.e1 (.hp 0 0) [(0, .own (api_Int.c x'))] ?_
 refine EVO.e1 (.hp 1 0) [(1, .own (api_Int.c y))] ?_
 refine EVO.e1 (.hp 2 0) [(2, .own [aB false, .at (.slice none 0 0)])] ?_
 refine EVO.e1 (.hp 3 0) [(3, .own [aB false, .at (.slice none 0 0)])] ?_
 refine EVO.p1 (aI64 0) ?_
 refine EVO.done ?_
 refine CQ.n1 [2, 3, 4, 5] (mkS 55 0 [(2, .hp 0 0), (3, .hp 1 0), (4, .hp 2 0), (5, .hp 3 0)]) [.own (api_Int.c x'), .own (api_Int.c y), .own [aB false, .at (.slice none 0 0)], .own [aB false, .at (.slice none 0 0)]] ?_
 refine CQ.seq ?_
 replace hr := bd hr; obtain ⟨v1, hc2, hr⟩ := hr
 replace hr := bd hr; obtain ⟨v3, hc4, hr⟩ := hr
 refine CQ.regionT fine (callOf_ok [{ f := 106, args := [.agg (api_Int.c x')], H := [.own (api_Int.c x'), .own (api_Int.c y), .own [aB false, .at (.slice none 0 0)], .own [aB false, .at (.slice none 0 0)]], r := .loc (sU32 v1) [] [] 0 : CE }, { f := 106, args := [.agg (api_Int.c y)], H := [.own (api_Int.c x'), .own (api_Int.c y), .own [aB false, .at (.slice none 0 0)], .own [aB false, .at (.slice none 0 0)]], r := .loc (sU32 v3) [] [] 0 : CE }] (List.forall_mem_cons.2 ⟨(callOk_ref (l := []) (args' := [.agg (api_Int.c x')]) (SnL.cons (Sn.pure rfl) SnL.nil) (integer_groups_ok n x' v1 hc2)), (List.forall_mem_cons.2 ⟨(callOk_ref (l := []) (args' := [.agg (api_Int.c y)]) (SnL.cons (Sn.pure rfl) SnL.nil) (integer_groups_ok n y v3 hc4)), ce0⟩)⟩)) ?_
 refine EVT.p1 (.agg (api_Int.c x')) ?_
 refine EVT.cal (by kernel_rfl) (by kernel_rfl) (callOf_at (by kernel_rfl)) (by kernel_rfl) ?_
 refine EVT.p1 (.agg (api_Int.c y)) ?_
 refine EVT.cal (by kernel_rfl) (by kernel_rfl) (callOf_skip (fun _ h => by obtain e0 := integer_groups_inj h; rw [show v3 = v1 from Option.some.inj (hc4.symm.trans ((show integer_groups n y = integer_groups n x' from (congr rfl e0)).trans hc2))]) (callOf_at (by kernel_rfl))) (by kernel_rfl) ?_
 refine EVT.p1 (sU32 v1) ?_
 refine EVT.p1 (sU32 v3) ?_
 refine EVT.done ⟨by kernel_rfl, ?_⟩
 refine CQ.n1 [2, 3, 4, 5, 7, 8] (mkS 55 0 [(2, .hp 0 0), (3, .hp 1 0), (4, .hp 2 0), (5, .hp 3 0), (7, sU32 v1), (8, sU32 v3)]) [.own (api_Int.c x'), .own (api_Int.c y), .own [aB false, .at (.slice none 0 0)], .own [aB false, .at (.slice none 0 0)]] ?_
 refine CQ.seq ?_
 refine CQ.seq ?_
 refine CQ.r0 fine ?_
 refine EVO.p1 (sU32 v3) ?_
 refine EVO.p1 (aI64 (v3.length : Int)) ?_
 refine EVO.p1 (aB (((v3.length : Int) : Int) == 0)) ?_
 refine EVO.done ?_
 refine CQ.n1 [2, 3, 4, 5, 7, 8, 17] (mkS 55 0 [(2, .hp 0 0), (3, .hp 1 0), (4, .hp 2 0), (5, .hp 3 0), (7, sU32 v1), (8, sU32 v3), (17, aB (((v3.length : Int) : Int) == 0))]) [.own (api_Int.c x'), .own (api_Int.c y), .own [aB false, .at (.slice none 0 0)], .own [aB false, .at (.slice none 0 0)]] ?_
 refine CQ.cond (t := ((v3.length : Int) : Int) == 0) (by kernel_rfl) (fun hb5 => ?_) (fun hb5 => ?_)
 ·replace hr := cd_t hb5 hr
  refine CQ.seq ?_
  refine CQ.r0 fine ?_
  refine EVO.p1 (.agg [aB false, .at (.slice none 0 0)]) ?_
  refine EVO.p1 (.agg [aB false, .at (.slice none 0 0)]) ?_
  refine EVO.e1 (.unk) [(2, .own [aB false, .at (.slice none 0 0)])] ?_
  refine EVO.e1 (.unk) [(3, .own [aB false, .at (.slice none 0 0)])] ?_
  refine EVO.p1 (aI64 14) ?_
  refine EVO.done ?_
  refine CQ.ret ?_
  obtain rfl := Option.some.inj hr
  exact FinQ.ret (vs := [.agg [aB false, .at (.slice none 0 0)], .agg [aB false, .at (.slice none 0 0)], aI64 14]) (by kernel_rfl) (Sn.tup (SnL.cons (Sn.agg (SnL.cons (Sn.pure rfl) (SnL.cons Sn.nilsl SnL.nil))) (SnL.cons (Sn.agg (SnL.cons (Sn.pure rfl) (SnL.cons Sn.nilsl SnL.nil))) (SnL.cons (Sn.pure rfl) SnL.nil))))
 ·replace hr := cd_f hb5 hr
  refine CQ.skip ?_
  refine CQ.seq ?_
  replace hr := bd hr; obtain ⟨v6, hc7, hr⟩ := hr
  refine CQ.region fine (callOf_1 158 [sU32 v1, sU32 v3] [.own (api_Int.c x'), .own (api_Int.c y), .own [aB false, .at (.slice none 0 0)], .own [aB false, .at (.slice none 0 0)]] (.loc (.tup [sU32 v6.1, sU32 v6.2]) [] [] 0) (callOk_ref (l := []) (args' := [sU32 v1, sU32 v3]) (SnL.cons (Sn.pure rfl) (SnL.cons (Sn.pure rfl) SnL.nil)) (integer_over_ok n v1 v3 v6 hc7))) ?_
  refine EVO.p1 (sU32 v1) ?_
  refine EVO.p1 (sU32 v3) ?_
  refine EVO.c0 (by kernel_rfl) (callOf_at (by kernel_rfl)) ?_
  refine EVO.p1 (.tup [sU32 v6.1, sU32 v6.2]) ?_
  refine EVO.p1 (sU32 v6.1) ?_
  refine EVO.p1 (sU32 v6.2) ?_
  refine EVO.p1 (sU32 v6.1) ?_
  refine EVO.p1 (sU32 v6.2) ?_
  refine EVO.done ?_
  refine CQ.n1 [2, 3, 4, 5, 8, 9, 10] (mkS 55 0 [(2, .hp 0 0), (3, .hp 1 0), (4, .hp 2 0), (5, .hp 3 0), (8, sU32 v3), (9, sU32 v6.1), (10, sU32 v6.2)]) [.own (api_Int.c x'), .own (api_Int.c y), .own [aB false, .at (.slice none 0 0)], .own [aB false, .at (.slice none 0 0)]] ?_
  refine CQ.seq ?_
  replace hr := bd hr; obtain ⟨v8, hc9, hr⟩ := hr
  refine CQ.region fine (callOf_1 156 [sU32 v6.2] [.own (api_Int.c x'), .own (api_Int.c y), .own [aB false, .at (.slice none 0 0)], .own [aB false, .at (.slice none 0 0)]] (.loc (sU32 v8) [] [] 0) (callOk_ref (l := []) (args' := [sU32 v6.2]) (SnL.cons (Sn.pure rfl) SnL.nil) (slices_Clone_uint32_uint32_ok n v6.2 v8 hc9))) ?_
  refine EVO.p1 (sU32 v6.2) ?_
  refine EVO.c0 (by kernel_rfl) (callOf_at (by kernel_rfl)) ?_
  refine EVO.p1 (sU32 v8) ?_
  refine EVO.done ?_
  refine CQ.n1 [2, 3, 4, 5, 8, 9, 10] (mkS 55 0 [(2, .hp 0 0), (3, .hp 1 0), (4, .hp 2 0), (5, .hp 3 0), (8, sU32 v3), (9, sU32 v6.1), (10, sU32 v8)]) [.own (api_Int.c x'), .own (api_Int.c y), .own [aB false, .at (.slice none 0 0)], .own [aB false, .at (.slice none 0 0)]] ?_
  refine CQ.seq ?_
  refine CQ.seq ?_
  rcases Bool.eq_false_or_eq_true (decide ((v8.length : Int) > 0)) with hb10 | hb10
  ·replace hr := cd_t hb10 hr
   refine CQ.r0 fine ?_
   refine EVO.p1 (sU32 v8) ?_
   refine EVO.p1 (aI64 (v8.length : Int)) ?_
   refine EVO.p0 (v := aB true) (Eq.trans (b := some (.pure (aB (decide ((v8.length : Int) > 0))))) (by kernel_rfl) (by rw [hb10])) ?_
   refine EVO.p1 (aB true) ?_
   refine EVO.q1 (.hp 0 0) ?_
   refine EVO.q1 (aB x'.Negative) ?_
   refine EVO.q1 (.hp 1 0) ?_
   refine EVO.q1 (aB y.Negative) ?_
   refine EVO.q1 (aB (x'.Negative != y.Negative)) ?_
   refine EVO.p1 (aB (x'.Negative != y.Negative)) ?_
   refine EVO.done ?_
   refine CQ.n1 [2, 3, 4, 5, 8, 9, 10, 37] (mkS 55 0 [(2, .hp 0 0), (3, .hp 1 0), (4, .hp 2 0), (5, .hp 3 0), (8, sU32 v3), (9, sU32 v6.1), (10, sU32 v8), (37, aB (x'.Negative != y.Negative))]) [.own (api_Int.c x'), .own (api_Int.c y), .own [aB false, .at (.slice none 0 0)], .own [aB false, .at (.slice none 0 0)]] ?_
   refine CQ.cond (t := x'.Negative != y.Negative) (by kernel_rfl) (fun hb11 => ?_) (fun hb11 => ?_)
   ·replace hr := cd_t hb11 hr
    replace hr := bd hr; obtain ⟨v12, hc13, hr⟩ := hr
    replace hr := bd hr; obtain ⟨v14, hc15, hr⟩ := hr
    refine CQ.region fine (callOf_ok [{ f := 132, args := [sU32 v6.1, .hs 4 0 1 1], H := [.own (api_Int.c x'), .own (api_Int.c y), .own [aB false, .at (.slice none 0 0)], .own [aB false, .at (.slice none 0 0)], .own [aU32 1]], r := .loc (sU32 v12) [(4, .fix [aU32 1])] [4] 0 : CE }, { f := 134, args := [sU32 v3, sU32 v8], H := [.own (api_Int.c x'), .own (api_Int.c y), .own [aB false, .at (.slice none 0 0)], .own [aB false, .at (.slice none 0 0)], .fix [aU32 1]], r := .loc (sU32 v14) [] [] 0 : CE }] (List.forall_mem_cons.2 ⟨(callOk_ref (l := [4]) (args' := [sU32 v6.1, sU32 [1]]) (SnL.cons (Sn.pure rfl) (SnL.cons (Sn.hs rfl (.inl rfl) (SnC.cons (Sn.pure rfl) SnC.nil) (fun h => nomatch h)) SnL.nil)) (integer_plus_ok n v6.1 [1] v12 hc13)), (List.forall_mem_cons.2 ⟨(callOk_ref (l := []) (args' := [sU32 v3, sU32 v8]) (SnL.cons (Sn.pure rfl) (SnL.cons (Sn.pure rfl) SnL.nil)) (integer_minus_ok n v3 v8 v14 hc15)), ce0⟩)⟩)) ?_
    refine EVO.p1 (sU32 v6.1) ?_
    refine EVO.e1 (.hs 4 0 1 1) [(4, .own [aU32 1])] ?_
    refine EVO.c0 (by kernel_rfl) (callOf_at (by kernel_rfl)) ?_
    refine EVO.p1 (sU32 v3) ?_
    refine EVO.p1 (sU32 v8) ?_
    refine EVO.c0 (by kernel_rfl) (callOf_skip (fun h _ => absurd (show (134 : Nat) = 132 from h) (by decide)) (callOf_at (by kernel_rfl))) ?_
    refine EVO.p1 (sU32 v12) ?_
    refine EVO.p1 (sU32 v14) ?_
    refine EVO.done ?_
    refine CQ.n1 [2, 3, 4, 5, 9, 10] (mkS 55 0 [(2, .hp 0 0), (3, .hp 1 0), (4, .hp 2 0), (5, .hp 3 0), (9, sU32 v12), (10, sU32 v14)]) [.own (api_Int.c x'), .own (api_Int.c y), .own [aB false, .at (.slice none 0 0)], .own [aB false, .at (.slice none 0 0)], .fix [aU32 1]] ?_
    refine CQ.seq ?_
    replace hr := bd hr; obtain ⟨v16, hc17, hr⟩ := hr
    replace hr := bd hr; obtain ⟨v18, hc19, hr⟩ := hr
    refine CQ.regionT fine (callOf_ok [{ f := 103, args := [aB true, sU32 v12], H := [.own (api_Int.c x'), .own (api_Int.c y), .own [aB false, .at (.slice none 0 0)], .own [aB false, .at (.slice none 0 0)], .fix [aU32 1]], r := .loc (.agg (api_Int.c v16)) [] [] 0 : CE }, { f := 103, args := [aB y.Negative, sU32 v14], H := [.own (api_Int.c x'), .own (api_Int.c y), .own [aB false, .at (.slice none 0 0)], .own [aB false, .at (.slice none 0 0)], .fix [aU32 1]], r := .loc (.agg (api_Int.c v18)) [] [] 0 : CE }] (List.forall_mem_cons.2 ⟨(callOk_ref (l := []) (args' := [aB true, sU32 v12]) (SnL.cons (Sn.pure rfl) (SnL.cons (Sn.pure rfl) SnL.nil)) (integer_made_ok n true v12 v16 hc17)), (List.forall_mem_cons.2 ⟨(callOk_ref (l := []) (args' := [aB y.Negative, sU32 v14]) (SnL.cons (Sn.pure rfl) (SnL.cons (Sn.pure rfl) SnL.nil)) (integer_made_ok n y.Negative v14 v18 hc19)), ce0⟩)⟩)) ?_
    refine EVT.p1 (.hp 0 0) ?_
    refine EVT.p1 (aB x'.Negative) ?_
    refine EVT.p1 (.hp 1 0) ?_
    refine EVT.p1 (aB y.Negative) ?_
    refine EVT.pure (v := aB true) (by kernel_rfl) (Eq.trans (b := some (.pure (aB (x'.Negative != y.Negative)))) (by kernel_rfl) (by rw [hb11])) (by kernel_rfl) ?_
    refine EVT.p1 (sU32 v12) ?_
    refine EVT.cal (by kernel_rfl) (by kernel_rfl) (callOf_at (by kernel_rfl)) (by kernel_rfl) ?_
    refine EVT.p1 (.hp 1 0) ?_
    refine EVT.p1 (aB y.Negative) ?_
    refine EVT.p1 (sU32 v14) ?_
    refine EVT.cal (by kernel_rfl) (by kernel_rfl) (callOf_skip (fun _ h => by obtain ⟨e0, e1⟩ := integer_made_inj h; rw [show v18 = v16 from Option.some.inj (hc19.symm.trans ((show integer_made n y.Negative v14 = integer_made n true v12 from (congr (congr rfl e0) e1)).trans hc17))]) (callOf_at (by kernel_rfl))) (by kernel_rfl) ?_
    refine EVT.e1 (.unk) [(2, .own (api_Int.c v16))] ?_
    refine EVT.e1 (.unk) [(3, .own (api_Int.c v18))] ?_
    refine EVT.p1 (aI64 0) ?_
    refine EVT.done ⟨by kernel_rfl, ?_⟩
    refine CQ.ret ?_
    obtain rfl := Option.some.inj hr
    exact FinQ.ret (vs := [.agg (api_Int.c v16), .agg (api_Int.c v18), aI64 0]) (by kernel_rfl) (Sn.tup (SnL.cons (Sn.pure rfl) (SnL.cons (Sn.pure rfl) (SnL.cons (Sn.pure rfl) SnL.nil))))
   ·replace hr := cd_f hb11 hr
    refine CQ.skip ?_
    refine CQ.seq ?_
    replace hr := bd hr; obtain ⟨v20, hc21, hr⟩ := hr
    replace hr := bd hr; obtain ⟨v22, hc23, hr⟩ := hr
    refine CQ.regionT fine (callOf_ok [{ f := 103, args := [aB false, sU32 v6.1], H := [.own (api_Int.c x'), .own (api_Int.c y), .own [aB false, .at (.slice none 0 0)], .own [aB false, .at (.slice none 0 0)]], r := .loc (.agg (api_Int.c v20)) [] [] 0 : CE }, { f := 103, args := [aB y.Negative, sU32 v8], H := [.own (api_Int.c x'), .own (api_Int.c y), .own [aB false, .at (.slice none 0 0)], .own [aB false, .at (.slice none 0 0)]], r := .loc (.agg (api_Int.c v22)) [] [] 0 : CE }] (List.forall_mem_cons.2 ⟨(callOk_ref (l := []) (args' := [aB false, sU32 v6.1]) (SnL.cons (Sn.pure rfl) (SnL.cons (Sn.pure rfl) SnL.nil)) (integer_made_ok n false v6.1 v20 hc21)), (List.forall_mem_cons.2 ⟨(callOk_ref (l := []) (args' := [aB y.Negative, sU32 v8]) (SnL.cons (Sn.pure rfl) (SnL.cons (Sn.pure rfl) SnL.nil)) (integer_made_ok n y.Negative v8 v22 hc23)), ce0⟩)⟩)) ?_
    refine EVT.p1 (.hp 0 0) ?_
    refine EVT.p1 (aB x'.Negative) ?_
    refine EVT.p1 (.hp 1 0) ?_
    refine EVT.p1 (aB y.Negative) ?_
    refine EVT.pure (v := aB false) (by kernel_rfl) (Eq.trans (b := some (.pure (aB (x'.Negative != y.Negative)))) (by kernel_rfl) (by rw [hb11])) (by kernel_rfl) ?_
    refine EVT.p1 (sU32 v6.1) ?_
    refine EVT.cal (by kernel_rfl) (by kernel_rfl) (callOf_at (by kernel_rfl)) (by kernel_rfl) ?_
    refine EVT.p1 (.hp 1 0) ?_
    refine EVT.p1 (aB y.Negative) ?_
    refine EVT.p1 (sU32 v8) ?_
    refine EVT.cal (by kernel_rfl) (by kernel_rfl) (callOf_skip (fun _ h => by obtain ⟨e0, e1⟩ := integer_made_inj h; rw [show v22 = v20 from Option.some.inj (hc23.symm.trans ((show integer_made n y.Negative v8 = integer_made n false v6.1 from (congr (congr rfl e0) e1)).trans hc21))]) (callOf_at (by kernel_rfl))) (by kernel_rfl) ?_
    refine EVT.e1 (.unk) [(2, .own (api_Int.c v20))] ?_
    refine EVT.e1 (.unk) [(3, .own (api_Int.c v22))] ?_
    refine EVT.p1 (aI64 0) ?_
    refine EVT.done ⟨by kernel_rfl, ?_⟩
    refine CQ.ret ?_
    obtain rfl := Option.some.inj hr
    exact FinQ.ret (vs := [.agg (api_Int.c v20), .agg (api_Int.c v22), aI64 0]) (by kernel_rfl) (Sn.tup (SnL.cons (Sn.pure rfl) (SnL.cons (Sn.pure rfl) (SnL.cons (Sn.pure rfl) SnL.nil))))
  ·replace hr := cd_f hb10 hr
   refine CQ.r0 fine ?_
   refine EVO.p1 (sU32 v8) ?_
   refine EVO.p1 (aI64 (v8.length : Int)) ?_
   refine EVO.p0 (v := aB false) (Eq.trans (b := some (.pure (aB (decide ((v8.length : Int) > 0))))) (by kernel_rfl) (by rw [hb10])) ?_
   refine EVO.p1 (aB false) ?_
   refine EVO.s1 ?_
   refine EVO.s1 ?_
   refine EVO.s1 ?_
   refine EVO.s1 ?_
   refine EVO.s1 ?_
   refine EVO.p1 (aB false) ?_
   refine EVO.done ?_
   refine CQ.n1 [2, 3, 4, 5, 8, 9, 10, 37] (mkS 55 0 [(2, .hp 0 0), (3, .hp 1 0), (4, .hp 2 0), (5, .hp 3 0), (8, sU32 v3), (9, sU32 v6.1), (10, sU32 v8), (37, aB false)]) [.own (api_Int.c x'), .own (api_Int.c y), .own [aB false, .at (.slice none 0 0)], .own [aB false, .at (.slice none 0 0)]] ?_
   refine CQ.cF (by kernel_rfl) ?_
   refine CQ.skip ?_
   refine CQ.seq ?_
   replace hr := bd hr; obtain ⟨v24, hc25, hr⟩ := hr
   replace hr := bd hr; obtain ⟨v26, hc27, hr⟩ := hr
   refine CQ.regionT fine (callOf_ok [{ f := 103, args := [aB (x'.Negative != y.Negative), sU32 v6.1], H := [.own (api_Int.c x'), .own (api_Int.c y), .own [aB false, .at (.slice none 0 0)], .own [aB false, .at (.slice none 0 0)]], r := .loc (.agg (api_Int.c v24)) [] [] 0 : CE }, { f := 103, args := [aB y.Negative, sU32 v8], H := [.own (api_Int.c x'), .own (api_Int.c y), .own [aB false, .at (.slice none 0 0)], .own [aB false, .at (.slice none 0 0)]], r := .loc (.agg (api_Int.c v26)) [] [] 0 : CE }] (List.forall_mem_cons.2 ⟨(callOk_ref (l := []) (args' := [aB (x'.Negative != y.Negative), sU32 v6.1]) (SnL.cons (Sn.pure rfl) (SnL.cons (Sn.pure rfl) SnL.nil)) (integer_made_ok n (x'.Negative != y.Negative) v6.1 v24 hc25)), (List.forall_mem_cons.2 ⟨(callOk_ref (l := []) (args' := [aB y.Negative, sU32 v8]) (SnL.cons (Sn.pure rfl) (SnL.cons (Sn.pure rfl) SnL.nil)) (integer_made_ok n y.Negative v8 v26 hc27)), ce0⟩)⟩)) ?_
   refine EVT.p1 (.hp 0 0) ?_
   refine EVT.p1 (aB x'.Negative) ?_
   refine EVT.p1 (.hp 1 0) ?_
   refine EVT.p1 (aB y.Negative) ?_
   refine EVT.p1 (aB (x'.Negative != y.Negative)) ?_
   refine EVT.p1 (sU32 v6.1) ?_
   refine EVT.cal (by kernel_rfl) (by kernel_rfl) (callOf_at (by kernel_rfl)) (by kernel_rfl) ?_
   refine EVT.p1 (.hp 1 0) ?_
   refine EVT.p1 (aB y.Negative) ?_
   refine EVT.p1 (sU32 v8) ?_
   refine EVT.cal (by kernel_rfl) (by kernel_rfl) (callOf_skip (fun _ h => by obtain ⟨e0, e1⟩ := integer_made_inj h; rw [show v26 = v24 from Option.some.inj (hc27.symm.trans ((show integer_made n y.Negative v8 = integer_made n (x'.Negative != y.Negative) v6.1 from (congr (congr rfl e0) e1)).trans hc25))]) (callOf_at (by kernel_rfl))) (by kernel_rfl) ?_
   refine EVT.e1 (.unk) [(2, .own (api_Int.c v24))] ?_
   refine EVT.e1 (.unk) [(3, .own (api_Int.c v26))] ?_
   refine EVT.p1 (aI64 0) ?_
   refine EVT.done ⟨by kernel_rfl, ?_⟩
   refine CQ.ret ?_
   obtain rfl := Option.some.inj hr
   exact FinQ.ret (vs := [.agg (api_Int.c v24), .agg (api_Int.c v26), aI64 0]) (by kernel_rfl) (Sn.tup (SnL.cons (Sn.pure rfl) (SnL.cons (Sn.pure rfl) (SnL.cons (Sn.pure rfl) SnL.nil))))

theorem fraction_reduced_ok (n : Nat) (num : api_Int) (den : api_Int) (r : api_Rat) (hr : fraction_reduced n num den = some r) : FnOk Tryz.prog 117 [.agg [.at (.bool num.Negative), slT (iC .u32) num.Groups], .agg [.at (.bool den.Negative), slT (iC .u32) den.Groups]] (.agg [.at (.bool r.Num.Negative), slT (iC .u32) r.Num.Groups, .at (.bool r.Den.Negative), slT (iC .u32) r.Den.Groups]) := by
 unfold fraction_reduced at hr
 refine FnOk.body fine Tryz.func117 (c := (Tryz.f117.body).getD .skip) rfl (s := mkS 33 0 [(0, .agg (api_Int.c num)), (1, .agg (api_Int.c den))]) (by kernel_rfl) (rs := [.cell 4 37]) rfl ?_
 unfold Tryz.f117
 simp only [Option.getD_some]
 refine CQ.seq ?_
 refine CQ.r0 fine ?_
 refine EVO.e1 (.hp 0 0) [(0, .own (api_Int.c num))] ?_
 refine EVO.e1 (.hp 1 0) [(1, .own (api_Int.c den))] ?_
 refine EVO.e1 (.hp 2 0) [(2, .own [aB false, .at (.slice none 0 0), aB false, .at (.slice none 0 0)])] ?_
 refine EVO.done ?_
 refine CQ.n1 [2, 3, 4] (mkS 33 0 [(2, .hp 0 0), (3, .hp 1 0), (4, .hp 2 0)]) [.own (api_Int.c num), .own (api_Int.c den), .own [aB false, .at (.slice none 0 0), aB false, .at (.slice none 0 0)]] ?_
 refine CQ.seq ?_
 refine CQ.seq ?_
 replace hr := bd hr; obtain ⟨v1, hc2, hr⟩ := hr
 refine CQ.region fine (callOf_1 69 [.agg (api_Int.c den)] [.own (api_Int.c num), .own (api_Int.c den), .own [aB false, .at (.slice none 0 0), aB false, .at (.slice none 0 0)]] (.loc (aI64 v1) [] [] 0) (callOk_val (l := []) (args' := [.agg (api_Int.c den)]) rfl (SnL.cons (Sn.pure rfl) SnL.nil) (integer_Sign_ok n den v1 hc2))) ?_
 refine EVO.p1 (.agg (api_Int.c den)) ?_
 refine EVO.c0 (by kernel_rfl) (callOf_at (by kernel_rfl)) ?_
 refine EVO.p1 (aB (decide (v1 < 0))) ?_
 refine EVO.done ?_
 refine CQ.n1 [2, 3, 4, 8] (mkS 33 0 [(2, .hp 0 0), (3, .hp 1 0), (4, .hp 2 0), (8, aB (decide (v1 < 0)))]) [.own (api_Int.c num), .own (api_Int.c den), .own [aB false, .at (.slice none 0 0), aB false, .at (.slice none 0 0)]] ?_
 refine CQ.cond (t := decide (v1 < 0)) (by kernel_rfl) (fun hb3 => ?_) (fun hb3 => ?_)
 ·replace hr := cd_t hb3 hr
  replace hr := bd hr; obtain ⟨v4, hc5, hr⟩ := hr
  replace hr := bd hr; obtain ⟨v6, hc7, hr⟩ := hr
  refine CQ.regionT fine (callOf_ok [{ f := 140, args := [.agg (api_Int.c num)], H := [.own (api_Int.c num), .own (api_Int.c den), .own [aB false, .at (.slice none 0 0), aB false, .at (.slice none 0 0)]], r := .loc (.agg (api_Int.c v4)) [] [] 0 : CE }, { f := 140, args := [.agg (api_Int.c den)], H := [.own (api_Int.c num), .own (api_Int.c den), .own [aB false, .at (.slice none 0 0), aB false, .at (.slice none 0 0)]], r := .loc (.agg (api_Int.c v6)) [] [] 0 : CE }] (List.forall_mem_cons.2 ⟨(callOk_ref (l := []) (args' := [.agg (api_Int.c num)]) (SnL.cons (Sn.pure rfl) SnL.nil) (integer_Neg_ok n num v4 hc5)), (List.forall_mem_cons.2 ⟨(callOk_ref (l := []) (args' := [.agg (api_Int.c den)]) (SnL.cons (Sn.pure rfl) SnL.nil) (integer_Neg_ok n den v6 hc7)), ce0⟩)⟩)) ?_
  refine EVT.p1 (.agg (api_Int.c num)) ?_
  refine EVT.cal (by kernel_rfl) (by kernel_rfl) (callOf_at (by kernel_rfl)) (by kernel_rfl) ?_
  refine EVT.p1 (.agg (api_Int.c den)) ?_
  refine EVT.cal (by kernel_rfl) (by kernel_rfl) (callOf_skip (fun _ h => by obtain e0 := integer_Neg_inj h; rw [show v6 = v4 from Option.some.inj (hc7.symm.trans ((show integer_Neg n den = integer_Neg n num from (congr rfl e0)).trans hc5))]) (callOf_at (by kernel_rfl))) (by kernel_rfl) ?_
  refine EVT.e1 (.unk) [(0, .own (api_Int.c v4))] ?_
  refine EVT.e1 (.unk) [(1, .own (api_Int.c v6))] ?_
  refine EVT.done ⟨by kernel_rfl, ?_⟩
  refine CQ.n1 [2, 3, 4] (mkS 33 0 [(2, .hp 0 0), (3, .hp 1 0), (4, .hp 2 0)]) [.own (api_Int.c v4), .own (api_Int.c v6), .own [aB false, .at (.slice none 0 0), aB false, .at (.slice none 0 0)]] ?_
  refine CQ.seq ?_
  replace hr := bd hr; obtain ⟨v8, hc9, hr⟩ := hr
  refine CQ.region fine (callOf_1 141 [.agg (api_Int.c v4), .agg (api_Int.c v6)] [.own (api_Int.c v4), .own (api_Int.c v6), .own [aB false, .at (.slice none 0 0), aB false, .at (.slice none 0 0)]] (.loc (.agg (api_Int.c v8)) [] [] 0) (callOk_ref (l := []) (args' := [.agg (api_Int.c v4), .agg (api_Int.c v6)]) (SnL.cons (Sn.pure rfl) (SnL.cons (Sn.pure rfl) SnL.nil)) (integer_Gcd_ok n v4 v6 v8 hc9))) ?_
  refine EVO.p1 (.agg (api_Int.c v4)) ?_
  refine EVO.p1 (.agg (api_Int.c v6)) ?_
  refine EVO.c0 (by kernel_rfl) (callOf_at (by kernel_rfl)) ?_
  refine EVO.e1 (.hp 3 0) [(3, .own [aB false, .at (.slice none 0 0)])] ?_
  refine EVO.e1 (.unk) [(3, .own (api_Int.c v8))] ?_
  refine EVO.done ?_
  refine CQ.n1 [2, 3, 4, 5] (mkS 33 0 [(2, .hp 0 0), (3, .hp 1 0), (4, .hp 2 0), (5, .hp 3 0)]) [.own (api_Int.c v4), .own (api_Int.c v6), .own [aB false, .at (.slice none 0 0), aB false, .at (.slice none 0 0)], .own (api_Int.c v8)] ?_
  refine CQ.seq ?_
  replace hr := bd hr; obtain ⟨v10, hc11, hr⟩ := hr
  refine CQ.region fine (callOf_1 142 [.agg (api_Int.c v4), .agg (api_Int.c v8)] [.own (api_Int.c v4), .own (api_Int.c v6), .own [aB false, .at (.slice none 0 0), aB false, .at (.slice none 0 0)], .own (api_Int.c v8)] (.loc (.tup [.agg (api_Int.c v10.1), .agg (api_Int.c v10.2.1), aI64 v10.2.2]) [] [] 0) (callOk_ref (l := []) (args' := [.agg (api_Int.c v4), .agg (api_Int.c v8)]) (SnL.cons (Sn.pure rfl) (SnL.cons (Sn.pure rfl) SnL.nil)) (integer_Divide_ok n v4 v8 v10 hc11))) ?_
  refine EVO.p1 (.agg (api_Int.c v4)) ?_
  refine EVO.p1 (.agg (api_Int.c v8)) ?_
  refine EVO.c0 (by kernel_rfl) (callOf_at (by kernel_rfl)) ?_
  refine EVO.p1 (.tup [.agg (api_Int.c v10.1), .agg (api_Int.c v10.2.1), aI64 v10.2.2]) ?_
  refine EVO.p1 (.agg (api_Int.c v10.1)) ?_
  refine EVO.p1 (.agg (api_Int.c v10.2.1)) ?_
  refine EVO.p1 (aI64 v10.2.2) ?_
  refine EVO.e1 (.unk) [(0, .own (api_Int.c v10.1))] ?_
  refine EVO.done ?_
  refine CQ.n1 [2, 3, 4, 5] (mkS 33 0 [(2, .hp 0 0), (3, .hp 1 0), (4, .hp 2 0), (5, .hp 3 0)]) [.own (api_Int.c v10.1), .own (api_Int.c v6), .own [aB false, .at (.slice none 0 0), aB false, .at (.slice none 0 0)], .own (api_Int.c v8)] ?_
  refine CQ.seq ?_
  replace hr := bd hr; obtain ⟨v12, hc13, hr⟩ := hr
  refine CQ.region fine (callOf_1 142 [.agg (api_Int.c v6), .agg (api_Int.c v8)] [.own (api_Int.c v10.1), .own (api_Int.c v6), .own [aB false, .at (.slice none 0 0), aB false, .at (.slice none 0 0)], .own (api_Int.c v8)] (.loc (.tup [.agg (api_Int.c v12.1), .agg (api_Int.c v12.2.1), aI64 v12.2.2]) [] [] 0) (callOk_ref (l := []) (args' := [.agg (api_Int.c v6), .agg (api_Int.c v8)]) (SnL.cons (Sn.pure rfl) (SnL.cons (Sn.pure rfl) SnL.nil)) (integer_Divide_ok n v6 v8 v12 hc13))) ?_
  refine EVO.p1 (.agg (api_Int.c v6)) ?_
  refine EVO.p1 (.agg (api_Int.c v8)) ?_
  refine EVO.c0 (by kernel_rfl) (callOf_at (by kernel_rfl)) ?_
  refine EVO.p1 (.tup [.agg (api_Int.c v12.1), .agg (api_Int.c v12.2.1), aI64 v12.2.2]) ?_
  refine EVO.p1 (.agg (api_Int.c v12.1)) ?_
  refine EVO.p1 (.agg (api_Int.c v12.2.1)) ?_
  refine EVO.p1 (aI64 v12.2.2) ?_
  refine EVO.e1 (.unk) [(1, .own (api_Int.c v12.1))] ?_
  refine EVO.done ?_
  refine CQ.n1 [2, 3, 4] (mkS 33 0 [(2, .hp 0 0), (3, .hp 1 0), (4, .hp 2 0)]) [.own (api_Int.c v10.1), .own (api_Int.c v12.1), .own [aB false, .at (.slice none 0 0), aB false, .at (.slice none 0 0)], .own (api_Int.c v8)] ?_
  refine CQ.seq ?_
  refine CQ.r0 fine ?_
  refine EVO.p1 (.agg (api_Int.c v10.1)) ?_
  refine EVO.p1 (.agg (api_Int.c v12.1)) ?_
  refine EVO.p1 (.agg [aB v10.1.Negative, sU32 v10.1.Groups, aB v12.1.Negative, sU32 v12.1.Groups]) ?_
  refine EVO.e1 (.unk) [(2, .own [aB v10.1.Negative, sU32 v10.1.Groups, aB v12.1.Negative, sU32 v12.1.Groups])] ?_
  refine EVO.done ?_
  refine CQ.ret ?_
  obtain rfl := Option.some.inj hr
  exact FinQ.r1 [.agg [aB v10.1.Negative, sU32 v10.1.Groups, aB v12.1.Negative, sU32 v12.1.Groups]]
 ·replace hr := cd_f hb3 hr
  refine CQ.skip ?_
  refine CQ.seq ?_
  replace hr := bd hr; obtain ⟨v14, hc15, hr⟩ := hr
  refine CQ.region fine (callOf_1 141 [.agg (api_Int.c num), .agg (api_Int.c den)] [.own (api_Int.c num), .own (api_Int.c den), .own [aB false, .at (.slice none 0 0), aB false, .at (.slice none 0 0)]] (.loc (.agg (api_Int.c v14)) [] [] 0) (callOk_ref (l := []) (args' := [.agg (api_Int.c num), .agg (api_Int.c den)]) (SnL.cons (Sn.pure rfl) (SnL.cons (Sn.pure rfl) SnL.nil)) (integer_Gcd_ok n num den v14 hc15))) ?_
  refine EVO.p1 (.agg (api_Int.c num)) ?_
  refine EVO.p1 (.agg (api_Int.c den)) ?_
  refine EVO.c0 (by kernel_rfl) (callOf_at (by kernel_rfl)) ?_
  refine EVO.e1 (.hp 3 0) [(3, .own [aB false, .at (.slice none 0 0)])] ?_
  refine EVO.e1 (.unk) [(3, .own (api_Int.c v14))] ?_
  refine EVO.done ?_
  refine CQ.n1 [2, 3, 4, 5] (mkS 33 0 [(2, .hp 0 0), (3, .hp 1 0), (4, .hp 2 0), (5, .hp 3 0)]) [.own (api_Int.c num), .own (api_Int.c den), .own [aB false, .at (.slice none 0 0), aB false, .at (.slice none 0 0)], .own (api_Int.c v14)] ?_
  refine CQ.seq ?_
  replace hr := bd hr; obtain ⟨v16, hc17, hr⟩ := hr
  refine CQ.region fine (callOf_1 142 [.agg (api_Int.c num), .agg (api_Int.c v14)] [.own (api_Int.c num), .own (api_Int.c den), .own [aB false, .at (.slice none 0 0), aB false, .at (.slice none 0 0)], .own (api_Int.c v14)] (.loc (.tup [.agg (api_Int.c v16.1), .agg (api_Int.c v16.2.1), aI64 v16.2.2]) [] [] 0) (callOk_ref (l := []) (args' := [.agg (api_Int.c num), .agg (api_Int.c v14)]) (SnL.cons (Sn.pure rfl) (SnL.cons (Sn.pure rfl) SnL.nil)) (integer_Divide_ok n num v14 v16 hc17))) ?_
  refine EVO.p1 (.agg (api_Int.c num)) ?_
  refine EVO.p1 (.agg (api_Int.c v14)) ?_
  refine EVO.c0 (by kernel_rfl) (callOf_at (by kernel_rfl)) ?_
  refine EVO.p1 (.tup [.agg (api_Int.c v16.1), .agg (api_Int.c v16.2.1), aI64 v16.2.2]) ?_
  refine EVO.p1 (.agg (api_Int.c v16.1)) ?_
  refine EVO.p1 (.agg (api_Int.c v16.2.1)) ?_
  refine EVO.p1 (aI64 v16.2.2) ?_
  refine EVO.e1 (.unk) [(0, .own (api_Int.c v16.1))] ?_
  refine EVO.done ?_
  refine CQ.n1 [2, 3, 4, 5] (mkS 33 0 [(2, .hp 0 0), (3, .hp 1 0), (4, .hp 2 0), (5, .hp 3 0)]) [.own (api_Int.c v16.1), .own (api_Int.c den), .own [aB false, .at (.slice none 0 0), aB false, .at (.slice none 0 0)], .own (api_Int.c v14)] ?_
  refine CQ.seq ?_
  replace hr := bd hr; obtain ⟨v18, hc19, hr⟩ := hr
  refine CQ.region fine (callOf_1 142 [.agg (api_Int.c den), .agg (api_Int.c v14)] [.own (api_Int.c v16.1), .own (api_Int.c den), .own [aB false, .at (.slice none 0 0), aB false, .at (.slice none 0 0)], .own (api_Int.c v14)] (.loc (.tup [.agg (api_Int.c v18.1), .agg (api_Int.c v18.2.1), aI64 v18.2.2]) [] [] 0) (callOk_ref (l := []) (args' := [.agg (api_Int.c den), .agg (api_Int.c v14)]) (SnL.cons (Sn.pure rfl) (SnL.cons (Sn.pure rfl) SnL.nil)) (integer_Divide_ok n den v14 v18 hc19))) ?_
  refine EVO.p1 (.agg (api_Int.c den)) ?_
  refine EVO.p1 (.agg (api_Int.c v14)) ?_
  refine EVO.c0 (by kernel_rfl) (callOf_at (by kernel_rfl)) ?_
  refine EVO.p1 (.tup [.agg (api_Int.c v18.1), .agg (api_Int.c v18.2.1), aI64 v18.2.2]) ?_
  refine EVO.p1 (.agg (api_Int.c v18.1)) ?_
  refine EVO.p1 (.agg (api_Int.c v18.2.1)) ?_
  refine EVO.p1 (aI64 v18.2.2) ?_
  refine EVO.e1 (.unk) [(1, .own (api_Int.c v18.1))] ?_
  refine EVO.done ?_
  refine CQ.n1 [2, 3, 4] (mkS 33 0 [(2, .hp 0 0), (3, .hp 1 0), (4, .hp 2 0)]) [.own (api_Int.c v16.1), .own (api_Int.c v18.1), .own [aB false, .at (.slice none 0 0), aB false, .at (.slice none 0 0)], .own (api_Int.c v14)] ?_
  refine CQ.seq ?_
  refine CQ.r0 fine ?_
  refine EVO.p1 (.agg (api_Int.c v16.1)) ?_
  refine EVO.p1 (.agg (api_Int.c v18.1)) ?_
  refine EVO.p1 (.agg [aB v16.1.Negative, sU32 v16.1.Groups, aB v18.1.Negative, sU32 v18.1.Groups]) ?_
  refine EVO.e1 (.unk) [(2, .own [aB v16.1.Negative, sU32 v16.1.Groups, aB v18.1.Negative, sU32 v18.1.Groups])] ?_
  refine EVO.done ?_
  refine CQ.ret ?_
  obtain rfl := Option.some.inj hr
  exact FinQ.r1 [.agg [aB v16.1.Negative, sU32 v16.1.Groups, aB v18.1.Negative, sU32 v18.1.Groups]]

theorem fraction_Mul_inj {x' : api_Rat} {y : api_Rat} {x'_ : api_Rat} {y_ : api_Rat} (h : ([.agg [.at (.bool x'.Num.Negative), slT (iC .u32) x'.Num.Groups, .at (.bool x'.Den.Negative), slT (iC .u32) x'.Den.Groups], .agg [.at (.bool y.Num.Negative), slT (iC .u32) y.Num.Groups, .at (.bool y.Den.Negative), slT (iC .u32) y.Den.Groups]] : List AV) = [.agg [.at (.bool x'_.Num.Negative), slT (iC .u32) x'_.Num.Groups, .at (.bool x'_.Den.Negative), slT (iC .u32) x'_.Den.Groups], .agg [.at (.bool y_.Num.Negative), slT (iC .u32) y_.Num.Groups, .at (.bool y_.Den.Negative), slT (iC .u32) y_.Den.Groups]]) : x' = x'_ ∧ y = y_ := by
 obtain ⟨⟨_, _⟩, ⟨_, _⟩⟩ := x'
 obtain ⟨⟨_, _⟩, ⟨_, _⟩⟩ := x'_
 obtain ⟨⟨_, _⟩, ⟨_, _⟩⟩ := y
 obtain ⟨⟨_, _⟩, ⟨_, _⟩⟩ := y_
 simp only [List.cons.injEq, AV.agg.injEq, AV.at.injEq, Value.int.injEq, Value.bool.injEq, AV.fn.injEq, AV.pp.injEq, true_and, and_true, slT_inj_int] at h
 simp_all
theorem fraction_Mul_ok (n : Nat) (x' : api_Rat) (y : api_Rat) (r : api_Rat) (hr : fraction_Mul n x' y = some r) : FnOk Tryz.prog 84 [.agg [.at (.bool x'.Num.Negative), slT (iC .u32) x'.Num.Groups, .at (.bool x'.Den.Negative), slT (iC .u32) x'.Den.Groups], .agg [.at (.bool y.Num.Negative), slT (iC .u32) y.Num.Groups, .at (.bool y.Den.Negative), slT (iC .u32) y.Den.Groups]] (.agg [.at (.bool r.Num.Negative), slT (iC .u32) r.Num.Groups, .at (.bool r.Den.Negative), slT (iC .u32) r.Den.Groups]) := by
 unfold fraction_Mul at hr
 refine FnOk.body fine Tryz.func84 (c := (Tryz.f84.body).getD .skip) rfl (s := mkS 20 0 [(0, .agg (api_Rat.c x')), (1, .agg (api_Rat.c y))]) (by kernel_rfl) (rs := [.cell 4 37]) rfl ?_
 unfold Tryz.f84
 simp only [Option.getD_some]
 refine CQ.seq ?_
 refine CQ.r0 fine ?_
 refine EVO.e1 (.hp 0 0) [(0, .own (api_Rat.c x'))] ?_
 refine EVO.e1 (.hp 1 0) [(1, .own (api_Rat.c y))] ?_
 refine EVO.e1 (.hp 2 0) [(2, .own [aB false, .at (.slice none 0 0), aB false, .at (.slice none 0 0)])] ?_
 refine EVO.done ?_
 refine CQ.n1 [2, 3, 4] (mkS 20 0 [(2, .hp 0 0), (3, .hp 1 0), (4, .hp 2 0)]) [.own (api_Rat.c x'), .own (api_Rat.c y), .own [aB false, .at (.slice none 0 0), aB false, .at (.slice none 0 0)]] ?_
 refine CQ.seq ?_
 replace hr := bd hr; obtain ⟨v1, hc2, hr⟩ := hr
 replace hr := bd hr; obtain ⟨v3, hc4, hr⟩ := hr
 refine CQ.regionT fine (callOf_ok [{ f := 116, args := [.agg (api_Rat.c x')], H := [.own (api_Rat.c x'), .own (api_Rat.c y), .own [aB false, .at (.slice none 0 0), aB false, .at (.slice none 0 0)]], r := .loc (.agg (api_Rat.c v1)) [] [] 0 : CE }, { f := 116, args := [.agg (api_Rat.c y)], H := [.own (api_Rat.c x'), .own (api_Rat.c y), .own [aB false, .at (.slice none 0 0), aB false, .at (.slice none 0 0)]], r := .loc (.agg (api_Rat.c v3)) [] [] 0 : CE }] (List.forall_mem_cons.2 ⟨(callOk_ref (l := []) (args' := [.agg (api_Rat.c x')]) (SnL.cons (Sn.pure rfl) SnL.nil) (fraction_Value_ok n x' v1 hc2)), (List.forall_mem_cons.2 ⟨(callOk_ref (l := []) (args' := [.agg (api_Rat.c y)]) (SnL.cons (Sn.pure rfl) SnL.nil) (fraction_Value_ok n y v3 hc4)), ce0⟩)⟩)) ?_
 refine EVT.p1 (.agg (api_Rat.c x')) ?_
 refine EVT.cal (by kernel_rfl) (by kernel_rfl) (callOf_at (by kernel_rfl)) (by kernel_rfl) ?_
 refine EVT.p1 (.agg (api_Rat.c y)) ?_
 refine EVT.cal (by kernel_rfl) (by kernel_rfl) (callOf_skip (fun _ h => by obtain e0 := fraction_Value_inj h; rw [show v3 = v1 from Option.some.inj (hc4.symm.trans ((show fraction_Value n y = fraction_Value n x' from (congr rfl e0)).trans hc2))]) (callOf_at (by kernel_rfl))) (by kernel_rfl) ?_
 refine EVT.e1 (.unk) [(0, .own (api_Rat.c v1))] ?_
 refine EVT.e1 (.unk) [(1, .own (api_Rat.c v3))] ?_
 refine EVT.done ⟨by kernel_rfl, ?_⟩
 refine CQ.n1 [2, 3, 4] (mkS 20 0 [(2, .hp 0 0), (3, .hp 1 0), (4, .hp 2 0)]) [.own (api_Rat.c v1), .own (api_Rat.c v3), .own [aB false, .at (.slice none 0 0), aB false, .at (.slice none 0 0)]] ?_
 refine CQ.seq ?_
 replace hr := bd hr; obtain ⟨v5, hc6, hr⟩ := hr
 replace hr := bd hr; obtain ⟨v7, hc8, hr⟩ := hr
 replace hr := bd hr; obtain ⟨v9, hc10, hr⟩ := hr
 refine CQ.regionT fine (callOf_ok [{ f := 67, args := [.agg (api_Int.c v1.Num), .agg (api_Int.c v3.Num)], H := [.own (api_Rat.c v1), .own (api_Rat.c v3), .own [aB false, .at (.slice none 0 0), aB false, .at (.slice none 0 0)]], r := .loc (.agg (api_Int.c v5)) [] [] 0 : CE }, { f := 67, args := [.agg (api_Int.c v1.Den), .agg (api_Int.c v3.Den)], H := [.own (api_Rat.c v1), .own (api_Rat.c v3), .own [aB false, .at (.slice none 0 0), aB false, .at (.slice none 0 0)]], r := .loc (.agg (api_Int.c v7)) [] [] 0 : CE }, { f := 117, args := [.agg (api_Int.c v5), .agg (api_Int.c v7)], H := [.own (api_Rat.c v1), .own (api_Rat.c v3), .own [aB false, .at (.slice none 0 0), aB false, .at (.slice none 0 0)]], r := .loc (.agg (api_Rat.c v9)) [] [] 0 : CE }] (List.forall_mem_cons.2 ⟨(callOk_ref (l := []) (args' := [.agg (api_Int.c v1.Num), .agg (api_Int.c v3.Num)]) (SnL.cons (Sn.pure rfl) (SnL.cons (Sn.pure rfl) SnL.nil)) (integer_Mul_ok n v1.Num v3.Num v5 hc6)), (List.forall_mem_cons.2 ⟨(callOk_ref (l := []) (args' := [.agg (api_Int.c v1.Den), .agg (api_Int.c v3.Den)]) (SnL.cons (Sn.pure rfl) (SnL.cons (Sn.pure rfl) SnL.nil)) (integer_Mul_ok n v1.Den v3.Den v7 hc8)), (List.forall_mem_cons.2 ⟨(callOk_ref (l := []) (args' := [.agg (api_Int.c v5), .agg (api_Int.c v7)]) (SnL.cons (Sn.pure rfl) (SnL.cons (Sn.pure rfl) SnL.nil)) (fraction_reduced_ok n v5 v7 v9 hc10)), ce0⟩)⟩)⟩)) ?_
 refine EVT.p1 (.hp 0 0) ?_
 refine EVT.p1 (.agg (api_Int.c v1.Num)) ?_
 refine EVT.p1 (.hp 1 0) ?_
 refine EVT.p1 (.agg (api_Int.c v3.Num)) ?_
 refine EVT.cal (by kernel_rfl) (by kernel_rfl) (callOf_at (by kernel_rfl)) (by kernel_rfl) ?_
 refine EVT.p1 (.hp 0 2) ?_
 refine EVT.p1 (.agg (api_Int.c v1.Den)) ?_
 refine EVT.p1 (.hp 1 2) ?_
 refine EVT.p1 (.agg (api_Int.c v3.Den)) ?_
 refine EVT.cal (by kernel_rfl) (by kernel_rfl) (callOf_skip (fun _ h => by obtain ⟨e0, e1⟩ := integer_Mul_inj h; rw [show v7 = v5 from Option.some.inj (hc8.symm.trans ((show integer_Mul n v1.Den v3.Den = integer_Mul n v1.Num v3.Num from (congr (congr rfl e0) e1)).trans hc6))]) (callOf_at (by kernel_rfl))) (by kernel_rfl) ?_
 refine EVT.cal (by kernel_rfl) (by kernel_rfl) (callOf_skip (fun h _ => absurd (show (117 : Nat) = 67 from h) (by decide)) (callOf_skip (fun h _ => absurd (show (117 : Nat) = 67 from h) (by decide)) (callOf_at (by kernel_rfl)))) (by kernel_rfl) ?_
 refine EVT.e1 (.unk) [(2, .own (api_Rat.c v9))] ?_
 refine EVT.done ⟨by kernel_rfl, ?_⟩
 refine CQ.ret ?_
 obtain rfl := Option.some.inj hr
 exact FinQ.r1 [.agg (api_Rat.c v9)]

theorem change_solid_inj {g : api_Grid} {low : Int} {high : Int} {g_ : api_Grid} {low_ : Int} {high_ : Int} (h : ([.agg [.at (.int .i64 g.X0), .at (.int .i64 g.Y0), .at (.int .i64 g.Step), .at (.int .i64 g.Width), .at (.int .i64 g.Height), slT (iC .i64) g.Z], .at (.int .i64 low), .at (.int .i64 high)] : List AV) = [.agg [.at (.int .i64 g_.X0), .at (.int .i64 g_.Y0), .at (.int .i64 g_.Step), .at (.int .i64 g_.Width), .at (.int .i64 g_.Height), slT (iC .i64) g_.Z], .at (.int .i64 low_), .at (.int .i64 high_)]) : g = g_ ∧ low = low_ ∧ high = high_ := by
 obtain ⟨_, _, _, _, _, _⟩ := g
 obtain ⟨_, _, _, _, _, _⟩ := g_
 simp only [List.cons.injEq, AV.agg.injEq, AV.at.injEq, Value.int.injEq, Value.bool.injEq, AV.fn.injEq, AV.pp.injEq, true_and, and_true, slT_inj_int] at h
 simp_all
theorem change_solid_ok (n : Nat) (g : api_Grid) (low : Int) (high : Int) (r : api_Range) (hr : change_solid n g low high = some r) : FnOk Tryz.prog 50 [.agg [.at (.int .i64 g.X0), .at (.int .i64 g.Y0), .at (.int .i64 g.Step), .at (.int .i64 g.Width), .at (.int .i64 g.Height), slT (iC .i64) g.Z], .at (.int .i64 low), .at (.int .i64 high)] (.agg [.at (.bool r.Low.Num.Negative), slT (iC .u32) r.Low.Num.Groups, .at (.bool r.Low.Den.Negative), slT (iC .u32) r.Low.Den.Groups, .at (.bool r.High.Num.Negative), slT (iC .u32) r.High.Num.Groups, .at (.bool r.High.Den.Negative), slT (iC .u32) r.High.Den.Groups]) := by
 unfold change_solid at hr
 refine FnOk.body fine Tryz.func50 (c := (Tryz.f50.body).getD .skip) rfl (s := mkS 23 0 [(0, .agg (api_Grid.c g)), (1, aI64 low), (2, aI64 high)]) (by kernel_rfl) (rs := [.cell 6 39]) rfl ?_
 unfold Tryz.f50
 simp only [Option.getD_some]
 refine CQ.seq ?_
 refine CQ.r0 fine ?_
 refine EVO.e1 (.hp 0 0) [(0, .own (api_Grid.c g))] ?_
 refine EVO.e1 (.hp 1 0) [(1, .own [aB false, .at (.slice none 0 0), aB false, .at (.slice none 0 0), aB false, .at (.slice none 0 0), aB false, .at (.slice none 0 0)])] ?_
 refine EVO.done ?_
 refine CQ.n1 [1, 2, 3, 6] (mkS 23 0 [(1, aI64 low), (2, aI64 high), (3, .hp 0 0), (6, .hp 1 0)]) [.own (api_Grid.c g), .own [aB false, .at (.slice none 0 0), aB false, .at (.slice none 0 0), aB false, .at (.slice none 0 0), aB false, .at (.slice none 0 0)]] ?_
 refine CQ.seq ?_
 replace hr := bd hr; obtain ⟨v1, hc2, hr⟩ := hr
 refine CQ.region fine (callOf_1 80 [aI64 (wrapF .i64 (g.Step * g.Step))] [.own (api_Grid.c g), .own [aB false, .at (.slice none 0 0), aB false, .at (.slice none 0 0), aB false, .at (.slice none 0 0), aB false, .at (.slice none 0 0)]] (.loc (.agg (api_Rat.c v1)) [] [] 0) (callOk_ref (l := []) (args' := [aI64 (wrapF .i64 (g.Step * g.Step))]) (SnL.cons (Sn.pure rfl) SnL.nil) (fraction_Whole_ok n (wrapF .i64 (g.Step * g.Step)) v1 hc2))) ?_
 refine EVO.p1 (.hp 0 2) ?_
 refine EVO.p1 (aI64 g.Step) ?_
 refine EVO.p1 (.hp 0 2) ?_
 refine EVO.p1 (aI64 g.Step) ?_
 refine EVO.p1 (aI64 (wrapF .i64 (g.Step * g.Step))) ?_
 refine EVO.c0 (by kernel_rfl) (callOf_at (by kernel_rfl)) ?_
 refine EVO.e1 (.hp 2 0) [(2, .own [aB false, .at (.slice none 0 0), aB false, .at (.slice none 0 0)])] ?_
 refine EVO.e1 (.unk) [(2, .own (api_Rat.c v1))] ?_
 refine EVO.done ?_
 refine CQ.n1 [1, 2, 6, 7] (mkS 23 0 [(1, aI64 low), (2, aI64 high), (6, .hp 1 0), (7, .hp 2 0)]) [.own (api_Grid.c g), .own [aB false, .at (.slice none 0 0), aB false, .at (.slice none 0 0), aB false, .at (.slice none 0 0), aB false, .at (.slice none 0 0)], .own (api_Rat.c v1)] ?_
 refine CQ.seq ?_
 replace hr := bd hr; obtain ⟨v3, hc4, hr⟩ := hr
 replace hr := bd hr; obtain ⟨v5, hc6, hr⟩ := hr
 replace hr := bd hr; obtain ⟨v7, hc8, hr⟩ := hr
 replace hr := bd hr; obtain ⟨v9, hc10, hr⟩ := hr
 refine CQ.regionT fine (callOf_ok [{ f := 80, args := [aI64 low], H := [.own (api_Grid.c g), .own [aB false, .at (.slice none 0 0), aB false, .at (.slice none 0 0), aB false, .at (.slice none 0 0), aB false, .at (.slice none 0 0)], .own (api_Rat.c v1)], r := .loc (.agg (api_Rat.c v3)) [] [] 0 : CE }, { f := 84, args := [.agg (api_Rat.c v3), .agg (api_Rat.c v1)], H := [.own (api_Grid.c g), .own [aB false, .at (.slice none 0 0), aB false, .at (.slice none 0 0), aB false, .at (.slice none 0 0), aB false, .at (.slice none 0 0)], .own (api_Rat.c v1)], r := .loc (.agg (api_Rat.c v5)) [] [] 0 : CE }, { f := 80, args := [aI64 high], H := [.own (api_Grid.c g), .own [aB false, .at (.slice none 0 0), aB false, .at (.slice none 0 0), aB false, .at (.slice none 0 0), aB false, .at (.slice none 0 0)], .own (api_Rat.c v1)], r := .loc (.agg (api_Rat.c v7)) [] [] 0 : CE }, { f := 84, args := [.agg (api_Rat.c v7), .agg (api_Rat.c v1)], H := [.own (api_Grid.c g), .own [aB false, .at (.slice none 0 0), aB false, .at (.slice none 0 0), aB false, .at (.slice none 0 0), aB false, .at (.slice none 0 0)], .own (api_Rat.c v1)], r := .loc (.agg (api_Rat.c v9)) [] [] 0 : CE }] (List.forall_mem_cons.2 ⟨(callOk_ref (l := []) (args' := [aI64 low]) (SnL.cons (Sn.pure rfl) SnL.nil) (fraction_Whole_ok n low v3 hc4)), (List.forall_mem_cons.2 ⟨(callOk_ref (l := []) (args' := [.agg (api_Rat.c v3), .agg (api_Rat.c v1)]) (SnL.cons (Sn.pure rfl) (SnL.cons (Sn.pure rfl) SnL.nil)) (fraction_Mul_ok n v3 v1 v5 hc6)), (List.forall_mem_cons.2 ⟨(callOk_ref (l := []) (args' := [aI64 high]) (SnL.cons (Sn.pure rfl) SnL.nil) (fraction_Whole_ok n high v7 hc8)), (List.forall_mem_cons.2 ⟨(callOk_ref (l := []) (args' := [.agg (api_Rat.c v7), .agg (api_Rat.c v1)]) (SnL.cons (Sn.pure rfl) (SnL.cons (Sn.pure rfl) SnL.nil)) (fraction_Mul_ok n v7 v1 v9 hc10)), ce0⟩)⟩)⟩)⟩)) ?_
 refine EVT.p1 (aI64 low) ?_
 refine EVT.cal (by kernel_rfl) (by kernel_rfl) (callOf_at (by kernel_rfl)) (by kernel_rfl) ?_
 refine EVT.p1 (.agg (api_Rat.c v1)) ?_
 refine EVT.cal (by kernel_rfl) (by kernel_rfl) (callOf_skip (fun h _ => absurd (show (84 : Nat) = 80 from h) (by decide)) (callOf_at (by kernel_rfl))) (by kernel_rfl) ?_
 refine EVT.p1 (aI64 high) ?_
 refine EVT.cal (by kernel_rfl) (by kernel_rfl) (callOf_skip (fun _ h => by obtain e0 := fraction_Whole_inj h; rw [show v7 = v3 from Option.some.inj (hc8.symm.trans ((show fraction_Whole n high = fraction_Whole n low from (congr rfl e0)).trans hc4))]) (callOf_skip (fun h _ => absurd (show (80 : Nat) = 84 from h) (by decide)) (callOf_at (by kernel_rfl)))) (by kernel_rfl) ?_
 refine EVT.p1 (.agg (api_Rat.c v1)) ?_
 refine EVT.cal (by kernel_rfl) (by kernel_rfl) (callOf_skip (fun h _ => absurd (show (84 : Nat) = 80 from h) (by decide)) (callOf_skip (fun _ h => by obtain ⟨e0, e1⟩ := fraction_Mul_inj h; rw [show v9 = v5 from Option.some.inj (hc10.symm.trans ((show fraction_Mul n v7 v1 = fraction_Mul n v3 v1 from (congr (congr rfl e0) e1)).trans hc6))]) (callOf_skip (fun h _ => absurd (show (84 : Nat) = 80 from h) (by decide)) (callOf_at (by kernel_rfl))))) (by kernel_rfl) ?_
 refine EVT.p1 (.agg [aB v5.Num.Negative, sU32 v5.Num.Groups, aB v5.Den.Negative, sU32 v5.Den.Groups, aB v9.Num.Negative, sU32 v9.Num.Groups, aB v9.Den.Negative, sU32 v9.Den.Groups]) ?_
 refine EVT.e1 (.unk) [(1, .own [aB v5.Num.Negative, sU32 v5.Num.Groups, aB v5.Den.Negative, sU32 v5.Den.Groups, aB v9.Num.Negative, sU32 v9.Num.Groups, aB v9.Den.Negative, sU32 v9.Den.Groups])] ?_
 refine EVT.done ⟨by kernel_rfl, ?_⟩
 refine CQ.ret ?_
 obtain rfl := Option.some.inj hr
 exact FinQ.r1 [.agg [aB v5.Num.Negative, sU32 v5.Num.Groups, aB v5.Den.Negative, sU32 v5.Den.Groups, aB v9.Num.Negative, sU32 v9.Num.Groups, aB v9.Den.Negative, sU32 v9.Den.Groups]]

theorem change_Volume_ok (n : Nat) (a : api_Banded) (b : api_Banded) (marked : List Bool) (r : api_Range × Int) (hr : change_Volume n a b marked = some r) : FnOk Tryz.prog 14 [.agg [.at (.int .i64 a.Grid.X0), .at (.int .i64 a.Grid.Y0), .at (.int .i64 a.Grid.Step), .at (.int .i64 a.Grid.Width), .at (.int .i64 a.Grid.Height), slT (iC .i64) a.Grid.Z, slT (iC .i64) a.Err], .agg [.at (.int .i64 b.Grid.X0), .at (.int .i64 b.Grid.Y0), .at (.int .i64 b.Grid.Step), .at (.int .i64 b.Grid.Width), .at (.int .i64 b.Grid.Height), slT (iC .i64) b.Grid.Z, slT (iC .i64) b.Err], slT bC marked] (.tup [.agg [.at (.bool r.1.Low.Num.Negative), slT (iC .u32) r.1.Low.Num.Groups, .at (.bool r.1.Low.Den.Negative), slT (iC .u32) r.1.Low.Den.Groups, .at (.bool r.1.High.Num.Negative), slT (iC .u32) r.1.High.Num.Groups, .at (.bool r.1.High.Den.Negative), slT (iC .u32) r.1.High.Den.Groups], .at (.int .i64 r.2)]) := by
 unfold change_Volume at hr
 refine FnOk.body fine Tryz.func14 (c := (Tryz.f14.body).getD .skip) rfl (s := mkS 67 0 [(0, .agg (api_Banded.c a)), (1, .agg (api_Banded.c b)), (2, slT bC marked)]) (by kernel_rfl) (rs := [.cell 6 39, .tmp 7]) rfl ?_
 unfold Tryz.f14
 simp only [Option.getD_some]
 refine CQ.seq ?_
 refine CQ.r0 fine ?_
 refine EVO.e1 (.hp 0 0) [(0, .own (api_Banded.c a))] ?_
 refine EVO.e1 (.hp 1 0) [(1, .own (api_Banded.c b))] ?_
 refine EVO.e1 (.hp 2 0) [(2, .own [aB false, .at (.slice none 0 0), aB false, .at (.slice none 0 0), aB false, .at (.slice none 0 0), aB false, .at (.slice none 0 0)])] ?_
 refine EVO.p1 (aI64 0) ?_
 refine EVO.done ?_
 refine CQ.n1 [2, 3, 4, 6] (mkS 67 0 [(2, slT bC marked), (3, .hp 0 0), (4, .hp 1 0), (6, .hp 2 0)]) [.own (api_Banded.c a), .own (api_Banded.c b), .own [aB false, .at (.slice none 0 0), aB false, .at (.slice none 0 0), aB false, .at (.slice none 0 0), aB false, .at (.slice none 0 0)]] ?_
 refine CQ.seq ?_
 refine CQ.seq ?_
 replace hr := bd hr; obtain ⟨v1, hc2, hr⟩ := hr
 refine CQ.region fine (callOf_1 48 [.hs 3 0 2 7] [.own (api_Banded.c a), .own (api_Banded.c b), .own [aB false, .at (.slice none 0 0), aB false, .at (.slice none 0 0), aB false, .at (.slice none 0 0), aB false, .at (.slice none 0 0)], .own [aI64 a.Grid.X0, aI64 a.Grid.Y0, aI64 a.Grid.Step, aI64 a.Grid.Width, aI64 a.Grid.Height, sI64 a.Grid.Z, sI64 a.Err, aI64 b.Grid.X0, aI64 b.Grid.Y0, aI64 b.Grid.Step, aI64 b.Grid.Width, aI64 b.Grid.Height, sI64 b.Grid.Z, sI64 b.Err]] (.loc (aI64 v1) [] [3] 0) (callOk_val (l := [3]) (args' := [slT api_Banded.c [a, b]]) rfl (SnL.cons (Sn.hs rfl (.inl rfl) (SnC.cons (Sn.pure rfl) (SnC.cons (Sn.pure rfl) (SnC.cons (Sn.pure rfl) (SnC.cons (Sn.pure rfl) (SnC.cons (Sn.pure rfl) (SnC.cons (Sn.pure rfl) (SnC.cons (Sn.pure rfl) (SnC.cons (Sn.pure rfl) (SnC.cons (Sn.pure rfl) (SnC.cons (Sn.pure rfl) (SnC.cons (Sn.pure rfl) (SnC.cons (Sn.pure rfl) (SnC.cons (Sn.pure rfl) (SnC.cons (Sn.pure rfl) SnC.nil)))))))))))))) (fun h => nomatch h)) SnL.nil) (change_fit_ok n [a, b] v1 hc2))) ?_
 refine EVO.p1 (.agg (api_Banded.c a)) ?_
 refine EVO.p1 (.agg (api_Banded.c b)) ?_
 refine EVO.e1 (.hs 3 0 2 7) [(3, .own [aI64 a.Grid.X0, aI64 a.Grid.Y0, aI64 a.Grid.Step, aI64 a.Grid.Width, aI64 a.Grid.Height, sI64 a.Grid.Z, sI64 a.Err, aI64 b.Grid.X0, aI64 b.Grid.Y0, aI64 b.Grid.Step, aI64 b.Grid.Width, aI64 b.Grid.Height, sI64 b.Grid.Z, sI64 b.Err])] ?_
 refine EVO.c0 (by kernel_rfl) (callOf_at (by kernel_rfl)) ?_
 refine EVO.p1 (aI64 v1) ?_
 refine EVO.done ?_
 refine CQ.n1 [2, 3, 4, 6, 8] (mkS 67 0 [(2, slT bC marked), (3, .hp 0 0), (4, .hp 1 0), (6, .hp 2 0), (8, aI64 v1)]) [.own (api_Banded.c a), .own (api_Banded.c b), .own [aB false, .at (.slice none 0 0), aB false, .at (.slice none 0 0), aB false, .at (.slice none 0 0), aB false, .at (.slice none 0 0)], .own [aI64 a.Grid.X0, aI64 a.Grid.Y0, aI64 a.Grid.Step, aI64 a.Grid.Width, aI64 a.Grid.Height, sI64 a.Grid.Z, sI64 a.Err, aI64 b.Grid.X0, aI64 b.Grid.Y0, aI64 b.Grid.Step, aI64 b.Grid.Width, aI64 b.Grid.Height, sI64 b.Grid.Z, sI64 b.Err]] ?_
 refine CQ.seq ?_
 refine CQ.r0 fine ?_
 refine EVO.p1 (aI64 v1) ?_
 refine EVO.p1 (aB ((v1 : Int) != 0)) ?_
 refine EVO.done ?_
 refine CQ.n1 [2, 3, 4, 6, 8, 21] (mkS 67 0 [(2, slT bC marked), (3, .hp 0 0), (4, .hp 1 0), (6, .hp 2 0), (8, aI64 v1), (21, aB ((v1 : Int) != 0))]) [.own (api_Banded.c a), .own (api_Banded.c b), .own [aB false, .at (.slice none 0 0), aB false, .at (.slice none 0 0), aB false, .at (.slice none 0 0), aB false, .at (.slice none 0 0)], .own [aI64 a.Grid.X0, aI64 a.Grid.Y0, aI64 a.Grid.Step, aI64 a.Grid.Width, aI64 a.Grid.Height, sI64 a.Grid.Z, sI64 a.Err, aI64 b.Grid.X0, aI64 b.Grid.Y0, aI64 b.Grid.Step, aI64 b.Grid.Width, aI64 b.Grid.Height, sI64 b.Grid.Z, sI64 b.Err]] ?_
 refine CQ.cond (t := (v1 : Int) != 0) (by kernel_rfl) (fun hb3 => ?_) (fun hb3 => ?_)
 ·replace hr := cd_t hb3 hr
  refine CQ.seq ?_
  refine CQ.r0 fine ?_
  refine EVO.p1 (.agg [aB false, .at (.slice none 0 0), aB false, .at (.slice none 0 0), aB false, .at (.slice none 0 0), aB false, .at (.slice none 0 0)]) ?_
  refine EVO.p1 (aI64 v1) ?_
  refine EVO.e1 (.unk) [(2, .own [aB false, .at (.slice none 0 0), aB false, .at (.slice none 0 0), aB false, .at (.slice none 0 0), aB false, .at (.slice none 0 0)])] ?_
  refine EVO.p1 (aI64 v1) ?_
  refine EVO.done ?_
  refine CQ.ret ?_
  obtain rfl := Option.some.inj hr
  exact FinQ.ret (vs := [.agg [aB false, .at (.slice none 0 0), aB false, .at (.slice none 0 0), aB false, .at (.slice none 0 0), aB false, .at (.slice none 0 0)], aI64 v1]) (by kernel_rfl) (Sn.tup (SnL.cons (Sn.agg (SnL.cons (Sn.pure rfl) (SnL.cons Sn.nilsl (SnL.cons (Sn.pure rfl) (SnL.cons Sn.nilsl (SnL.cons (Sn.pure rfl) (SnL.cons Sn.nilsl (SnL.cons (Sn.pure rfl) (SnL.cons Sn.nilsl SnL.nil))))))))) (SnL.cons (Sn.pure rfl) SnL.nil)))
 ·replace hr := cd_f hb3 hr
  refine CQ.skip ?_
  refine CQ.seq ?_
  refine CQ.seq ?_
  refine CQ.r0 fine ?_
  refine EVO.p1 (slT bC marked) ?_
  refine EVO.p1 (aI64 (marked.length : Int)) ?_
  refine EVO.p1 (.hp 0 0) ?_
  refine EVO.p1 (.hp 0 5) ?_
  refine EVO.p1 (sI64 a.Grid.Z) ?_
  refine EVO.p1 (aI64 (a.Grid.Z.length : Int)) ?_
  refine EVO.p1 (aB (((marked.length : Int) : Int) != (a.Grid.Z.length : Int))) ?_
  refine EVO.done ?_
  refine CQ.n1 [2, 3, 4, 6, 30] (mkS 67 0 [(2, slT bC marked), (3, .hp 0 0), (4, .hp 1 0), (6, .hp 2 0), (30, aB (((marked.length : Int) : Int) != (a.Grid.Z.length : Int)))]) [.own (api_Banded.c a), .own (api_Banded.c b), .own [aB false, .at (.slice none 0 0), aB false, .at (.slice none 0 0), aB false, .at (.slice none 0 0), aB false, .at (.slice none 0 0)], .own [aI64 a.Grid.X0, aI64 a.Grid.Y0, aI64 a.Grid.Step, aI64 a.Grid.Width, aI64 a.Grid.Height, sI64 a.Grid.Z, sI64 a.Err, aI64 b.Grid.X0, aI64 b.Grid.Y0, aI64 b.Grid.Step, aI64 b.Grid.Width, aI64 b.Grid.Height, sI64 b.Grid.Z, sI64 b.Err]] ?_
  refine CQ.cond (t := ((marked.length : Int) : Int) != (a.Grid.Z.length : Int)) (by kernel_rfl) (fun hb4 => ?_) (fun hb4 => ?_)
  ·replace hr := cd_t hb4 hr
   refine CQ.seq ?_
   refine CQ.r0 fine ?_
   refine EVO.p1 (.agg [aB false, .at (.slice none 0 0), aB false, .at (.slice none 0 0), aB false, .at (.slice none 0 0), aB false, .at (.slice none 0 0)]) ?_
   refine EVO.e1 (.unk) [(2, .own [aB false, .at (.slice none 0 0), aB false, .at (.slice none 0 0), aB false, .at (.slice none 0 0), aB false, .at (.slice none 0 0)])] ?_
   refine EVO.p1 (aI64 4) ?_
   refine EVO.done ?_
   refine CQ.ret ?_
   obtain rfl := Option.some.inj hr
   exact FinQ.ret (vs := [.agg [aB false, .at (.slice none 0 0), aB false, .at (.slice none 0 0), aB false, .at (.slice none 0 0), aB false, .at (.slice none 0 0)], aI64 4]) (by kernel_rfl) (Sn.tup (SnL.cons (Sn.agg (SnL.cons (Sn.pure rfl) (SnL.cons Sn.nilsl (SnL.cons (Sn.pure rfl) (SnL.cons Sn.nilsl (SnL.cons (Sn.pure rfl) (SnL.cons Sn.nilsl (SnL.cons (Sn.pure rfl) (SnL.cons Sn.nilsl SnL.nil))))))))) (SnL.cons (Sn.pure rfl) SnL.nil)))
  ·replace hr := cd_f hb4 hr
   refine CQ.skip ?_
   refine CQ.seq ?_
   refine CQ.r0 fine ?_
   refine EVO.p1 (aI64 0) ?_
   refine EVO.p1 (aI64 0) ?_
   refine EVO.done ?_
   refine CQ.n1 [2, 3, 4, 6, 9, 10] (mkS 67 0 [(2, slT bC marked), (3, .hp 0 0), (4, .hp 1 0), (6, .hp 2 0), (9, aI64 0), (10, aI64 0)]) [.own (api_Banded.c a), .own (api_Banded.c b), .own [aB false, .at (.slice none 0 0), aB false, .at (.slice none 0 0), aB false, .at (.slice none 0 0), aB false, .at (.slice none 0 0)], .own [aI64 a.Grid.X0, aI64 a.Grid.Y0, aI64 a.Grid.Step, aI64 a.Grid.Width, aI64 a.Grid.Height, sI64 a.Grid.Z, sI64 a.Err, aI64 b.Grid.X0, aI64 b.Grid.Y0, aI64 b.Grid.Step, aI64 b.Grid.Width, aI64 b.Grid.Height, sI64 b.Grid.Z, sI64 b.Err]] ?_
   refine CQ.seq ?_
   refine CQ.seq ?_
   refine CQ.r0 fine ?_
   refine EVO.p1 (slT bC marked) ?_
   refine EVO.p1 (aI64 (marked.length : Int)) ?_
   refine EVO.p1 (aI64 0) ?_
   refine EVO.done ?_
   refine CQ.n1 [3, 4, 6, 9, 10, 32, 33, 34] (mkS 67 0 [(3, .hp 0 0), (4, .hp 1 0), (6, .hp 2 0), (9, aI64 0), (10, aI64 0), (32, slT bC marked), (33, aI64 (marked.length : Int)), (34, aI64 0)]) [.own (api_Banded.c a), .own (api_Banded.c b), .own [aB false, .at (.slice none 0 0), aB false, .at (.slice none 0 0), aB false, .at (.slice none 0 0), aB false, .at (.slice none 0 0)], .own [aI64 a.Grid.X0, aI64 a.Grid.Y0, aI64 a.Grid.Step, aI64 a.Grid.Width, aI64 a.Grid.Height, sI64 a.Grid.Z, sI64 a.Err, aI64 b.Grid.X0, aI64 b.Grid.Y0, aI64 b.Grid.Step, aI64 b.Grid.Width, aI64 b.Grid.Height, sI64 b.Grid.Z, sI64 b.Err]] ?_
   refine CQ.block ?_
   replace hr := bd hr; obtain ⟨o23, hL24, hr⟩ := hr
   refine CQ.loopO (σ := fun z0 => match z0 with | (low_5, high_6, x_7) => ⟨mkS 67 0 [(3, .hp 0 0), (4, .hp 1 0), (6, .hp 2 0), (9, aI64 low_5), (10, aI64 high_6), (32, slT bC marked), (33, aI64 (marked.length : Int)), (34, aI64 x_7)], [.own (api_Banded.c a), .own (api_Banded.c b), .own [aB false, .at (.slice none 0 0), aB false, .at (.slice none 0 0), aB false, .at (.slice none 0 0), aB false, .at (.slice none 0 0)]]⟩) (Q := fun x st' => match (generalizing := false) o23 with | (low_14, high_15) => x = .exit 0 ∧ Wk st' ⟨mkS 67 0 [(3, .hp 0 0), (6, .hp 1 0), (9, aI64 low_14), (10, aI64 high_15)], [.own (api_Banded.c a), .own [aB false, .at (.slice none 0 0), aB false, .at (.slice none 0 0), aB false, .at (.slice none 0 0), aB false, .at (.slice none 0 0)]]⟩) hL24 ((Wk.gc [3, 4, 6, 9, 10, 32, 33, 34] [(0, true), (1, true), (2, true)] rfl trivial).to (by kernel_rfl)) ?_ ?_
   ·clear hr
    rintro m ⟨low_5, high_6, x_7⟩ hr
    show CQ _ _ _ _ ⟨_, _⟩
    refine CQ.seq ?_
    refine CQ.r0 fine ?_
    refine EVO.p1 (aB (decide (x_7 < (marked.length : Int)))) ?_
    refine EVO.done ?_
    refine CQ.seq ?_
    refine CQ.cond (t := decide (x_7 < (marked.length : Int))) (by kernel_rfl) (fun hb17 => ?_) (fun hb17 => ?_)
    ·replace hr := cd_t hb17 hr
     refine CQ.skip ?_
     refine CQ.seq ?_
     refine CQ.block ?_
     refine CQ.seq ?_
     replace hr := gd hr; obtain ⟨hg18, hr⟩ := hr
     refine CQ.r0 fine ?_
     refine EVO.p1 (aI64 x_7) ?_
     refine EVO.p0 (v := .pp (marked.flatMap bC) (x_7.toNat * 1)) (Eq.trans (b := ORes.ofP (guardV (inR x_7 marked.length) (.pp (marked.flatMap bC) (x_7.toNat * 1)))) (by kernel_rfl) (ofP_guard hg18)) ?_
     refine EVO.p0 (v := aB (gt marked x_7)) (Eq.trans (b := ORes.ofP ((marked.flatMap bC)[x_7.toNat * 1]?)) (by kernel_rfl) (ofP_some (flat_get bC_len (inR_lt hg18) (by decide : 0 < 1) (by omega : x_7.toNat * 1 = x_7.toNat * 1 + 0) (by kernel_rfl)))) ?_
     refine EVO.p1 (aI64 x_7) ?_
     refine EVO.p1 (aB (gt marked x_7)) ?_
     refine EVO.done ?_
     refine CQ.n1 [3, 4, 6, 9, 10, 11, 12, 32, 33, 34] (mkS 67 0 [(3, .hp 0 0), (4, .hp 1 0), (6, .hp 2 0), (9, aI64 low_5), (10, aI64 high_6), (11, aI64 x_7), (12, aB (gt marked x_7)), (32, slT bC marked), (33, aI64 (marked.length : Int)), (34, aI64 x_7)]) [.own (api_Banded.c a), .own (api_Banded.c b), .own [aB false, .at (.slice none 0 0), aB false, .at (.slice none 0 0), aB false, .at (.slice none 0 0), aB false, .at (.slice none 0 0)]] ?_
     refine CQ.seq ?_
     replace hr := bd hr; obtain ⟨v19, hc20, hr⟩ := hr
     refine CQ.region fine (callOf_1 49 [.agg (api_Banded.c a), .agg (api_Banded.c b), aI64 x_7] [.own (api_Banded.c a), .own (api_Banded.c b), .own [aB false, .at (.slice none 0 0), aB false, .at (.slice none 0 0), aB false, .at (.slice none 0 0), aB false, .at (.slice none 0 0)]] (.loc (.tup [aI64 v19.1, aI64 v19.2.1, aB v19.2.2]) [] [] 0) (callOk_val (l := []) (args' := [.agg (api_Banded.c a), .agg (api_Banded.c b), aI64 x_7]) rfl (SnL.cons (Sn.pure rfl) (SnL.cons (Sn.pure rfl) (SnL.cons (Sn.pure rfl) SnL.nil))) (change_difference_ok n a b x_7 v19 hc20))) ?_
     refine EVO.p1 (.agg (api_Banded.c a)) ?_
     refine EVO.p1 (.agg (api_Banded.c b)) ?_
     refine EVO.p1 (aI64 x_7) ?_
     refine EVO.c0 (by kernel_rfl) (callOf_at (by kernel_rfl)) ?_
     refine EVO.p1 (.tup [aI64 v19.1, aI64 v19.2.1, aB v19.2.2]) ?_
     refine EVO.p1 (aI64 v19.1) ?_
     refine EVO.p1 (aI64 v19.2.1) ?_
     refine EVO.p1 (aB v19.2.2) ?_
     refine EVO.p1 (aI64 v19.1) ?_
     refine EVO.p1 (aI64 v19.2.1) ?_
     refine EVO.p1 (aB v19.2.2) ?_
     refine EVO.done ?_
     refine CQ.n1 [3, 4, 6, 9, 10, 12, 13, 14, 15, 32, 33, 34] (mkS 67 0 [(3, .hp 0 0), (4, .hp 1 0), (6, .hp 2 0), (9, aI64 low_5), (10, aI64 high_6), (12, aB (gt marked x_7)), (13, aI64 v19.1), (14, aI64 v19.2.1), (15, aB v19.2.2), (32, slT bC marked), (33, aI64 (marked.length : Int)), (34, aI64 x_7)]) [.own (api_Banded.c a), .own (api_Banded.c b), .own [aB false, .at (.slice none 0 0), aB false, .at (.slice none 0 0), aB false, .at (.slice none 0 0), aB false, .at (.slice none 0 0)]] ?_
     refine CQ.seq ?_
     rcases Bool.eq_false_or_eq_true v19.2.2 with hb21 | hb21
     ·replace hr := cd_t hb21 hr
      refine CQ.r0 fine ?_
      refine EVO.p0 (v := aB true) (Eq.trans (b := some (.pure (aB v19.2.2))) (by kernel_rfl) (by rw [hb21])) ?_
      refine EVO.p1 (aB true) ?_
      refine EVO.q1 (aB (gt marked x_7)) ?_
      refine EVO.p1 (aB (gt marked x_7)) ?_
      refine EVO.done ?_
      refine CQ.n1 [3, 4, 6, 9, 10, 13, 14, 32, 33, 34, 50] (mkS 67 0 [(3, .hp 0 0), (4, .hp 1 0), (6, .hp 2 0), (9, aI64 low_5), (10, aI64 high_6), (13, aI64 v19.1), (14, aI64 v19.2.1), (32, slT bC marked), (33, aI64 (marked.length : Int)), (34, aI64 x_7), (50, aB (gt marked x_7))]) [.own (api_Banded.c a), .own (api_Banded.c b), .own [aB false, .at (.slice none 0 0), aB false, .at (.slice none 0 0), aB false, .at (.slice none 0 0), aB false, .at (.slice none 0 0)]] ?_
      refine CQ.cond (t := (gt marked x_7)) (by kernel_rfl) (fun hb22 => ?_) (fun hb22 => ?_)
      ·replace hr := cd_t hb22 hr
       refine CQ.r0 fine ?_
       refine EVO.p1 (aI64 low_5) ?_
       refine EVO.p1 (aI64 v19.1) ?_
       refine EVO.p1 (aI64 (wrapF .i64 (low_5 + v19.1))) ?_
       refine EVO.p1 (aI64 v19.2.1) ?_
       refine EVO.p1 (aI64 (wrapF .i64 ((wrapF .i64 (low_5 + v19.1)) - v19.2.1))) ?_
       refine EVO.p1 (aI64 high_6) ?_
       refine EVO.p1 (aI64 v19.1) ?_
       refine EVO.p1 (aI64 (wrapF .i64 (high_6 + v19.1))) ?_
       refine EVO.p1 (aI64 v19.2.1) ?_
       refine EVO.p1 (aI64 (wrapF .i64 ((wrapF .i64 (high_6 + v19.1)) + v19.2.1))) ?_
       refine EVO.p1 (aI64 (wrapF .i64 ((wrapF .i64 (low_5 + v19.1)) - v19.2.1))) ?_
       refine EVO.p1 (aI64 (wrapF .i64 ((wrapF .i64 (high_6 + v19.1)) + v19.2.1))) ?_
       refine EVO.done ?_
       refine CQ.pop ?_
       refine CQ.r0 fine ?_
       refine EVO.p1 (aI64 (wrapF .i64 (x_7 + 1))) ?_
       refine EVO.p1 (aI64 (wrapF .i64 (x_7 + 1))) ?_
       refine EVO.done ?_
       exact loopF_back (wrapF .i64 ((wrapF .i64 (low_5 + v19.1)) - v19.2.1), wrapF .i64 ((wrapF .i64 (high_6 + v19.1)) + v19.2.1), wrapF .i64 (x_7 + 1)) hr ((Wk.gc [3, 4, 6, 9, 10, 32, 33, 34] [(0, true), (1, true), (2, true)] rfl trivial).to (by kernel_rfl))
      ·replace hr := cd_f hb22 hr
       refine CQ.skip ?_
       refine CQ.pop ?_
       refine CQ.r0 fine ?_
       refine EVO.p1 (aI64 (wrapF .i64 (x_7 + 1))) ?_
       refine EVO.p1 (aI64 (wrapF .i64 (x_7 + 1))) ?_
       refine EVO.done ?_
       exact loopF_back (low_5, high_6, wrapF .i64 (x_7 + 1)) hr ((Wk.gc [3, 4, 6, 9, 10, 32, 33, 34] [(0, true), (1, true), (2, true)] rfl trivial).to (by kernel_rfl))
     ·replace hr := cd_f hb21 hr
      refine CQ.r0 fine ?_
      refine EVO.p0 (v := aB false) (Eq.trans (b := some (.pure (aB v19.2.2))) (by kernel_rfl) (by rw [hb21])) ?_
      refine EVO.p1 (aB false) ?_
      refine EVO.s1 ?_
      refine EVO.p1 (aB false) ?_
      refine EVO.done ?_
      refine CQ.n1 [3, 4, 6, 9, 10, 13, 14, 32, 33, 34, 50] (mkS 67 0 [(3, .hp 0 0), (4, .hp 1 0), (6, .hp 2 0), (9, aI64 low_5), (10, aI64 high_6), (13, aI64 v19.1), (14, aI64 v19.2.1), (32, slT bC marked), (33, aI64 (marked.length : Int)), (34, aI64 x_7), (50, aB false)]) [.own (api_Banded.c a), .own (api_Banded.c b), .own [aB false, .at (.slice none 0 0), aB false, .at (.slice none 0 0), aB false, .at (.slice none 0 0), aB false, .at (.slice none 0 0)]] ?_
      refine CQ.cF (by kernel_rfl) ?_
      refine CQ.skip ?_
      refine CQ.pop ?_
      refine CQ.r0 fine ?_
      refine EVO.p1 (aI64 (wrapF .i64 (x_7 + 1))) ?_
      refine EVO.p1 (aI64 (wrapF .i64 (x_7 + 1))) ?_
      refine EVO.done ?_
      exact loopF_back (low_5, high_6, wrapF .i64 (x_7 + 1)) hr ((Wk.gc [3, 4, 6, 9, 10, 32, 33, 34] [(0, true), (1, true), (2, true)] rfl trivial).to (by kernel_rfl))
    ·replace hr := cd_f hb17 hr
     refine CQ.leave rfl ?_
     obtain rfl := Option.some.inj hr
     exact ⟨rfl, ((Wk.gc [3, 6, 9, 10] [(0, true), (2, true)] rfl trivial).to (by kernel_rfl))⟩
   ·rcases o23 with ⟨low_14, high_15⟩
    rintro x st' hq25
    clear hL24
    obtain ⟨rfl, hq25⟩ := hq25
    refine CQ_exit _ rfl ?_
    refine CQ.wk hq25 ?_
    refine CQ.seq ?_
    replace hr := bd hr; obtain ⟨v26, hc27, hr⟩ := hr
    refine CQ.region fine (callOf_1 50 [.agg (api_Grid.c a.Grid), aI64 low_14, aI64 high_15] [.own (api_Banded.c a), .own [aB false, .at (.slice none 0 0), aB false, .at (.slice none 0 0), aB false, .at (.slice none 0 0), aB false, .at (.slice none 0 0)]] (.loc (.agg (api_Range.c v26)) [] [] 0) (callOk_ref (l := []) (args' := [.agg (api_Grid.c a.Grid), aI64 low_14, aI64 high_15]) (SnL.cons (Sn.pure rfl) (SnL.cons (Sn.pure rfl) (SnL.cons (Sn.pure rfl) SnL.nil))) (change_solid_ok n a.Grid low_14 high_15 v26 hc27))) ?_
    refine EVO.p1 (.hp 0 0) ?_
    refine EVO.p1 (.agg (api_Grid.c a.Grid)) ?_
    refine EVO.p1 (aI64 low_14) ?_
    refine EVO.p1 (aI64 high_15) ?_
    refine EVO.c0 (by kernel_rfl) (callOf_at (by kernel_rfl)) ?_
    refine EVO.e1 (.unk) [(1, .own (api_Range.c v26))] ?_
    refine EVO.p1 (aI64 0) ?_
    refine EVO.done ?_
    refine CQ.ret ?_
    obtain rfl := Option.some.inj hr
    exact FinQ.ret (vs := [.agg (api_Range.c v26), aI64 0]) (by kernel_rfl) (Sn.tup (SnL.cons (Sn.pure rfl) (SnL.cons (Sn.pure rfl) SnL.nil)))

theorem change_Total_ok (n : Nat) (a : api_Banded) (b : api_Banded) (r : api_Range × api_Range × Int) (hr : change_Total n a b = some r) : FnOk Tryz.prog 23 [.agg [.at (.int .i64 a.Grid.X0), .at (.int .i64 a.Grid.Y0), .at (.int .i64 a.Grid.Step), .at (.int .i64 a.Grid.Width), .at (.int .i64 a.Grid.Height), slT (iC .i64) a.Grid.Z, slT (iC .i64) a.Err], .agg [.at (.int .i64 b.Grid.X0), .at (.int .i64 b.Grid.Y0), .at (.int .i64 b.Grid.Step), .at (.int .i64 b.Grid.Width), .at (.int .i64 b.Grid.Height), slT (iC .i64) b.Grid.Z, slT (iC .i64) b.Err]] (.tup [.agg [.at (.bool r.1.Low.Num.Negative), slT (iC .u32) r.1.Low.Num.Groups, .at (.bool r.1.Low.Den.Negative), slT (iC .u32) r.1.Low.Den.Groups, .at (.bool r.1.High.Num.Negative), slT (iC .u32) r.1.High.Num.Groups, .at (.bool r.1.High.Den.Negative), slT (iC .u32) r.1.High.Den.Groups], .agg [.at (.bool r.2.1.Low.Num.Negative), slT (iC .u32) r.2.1.Low.Num.Groups, .at (.bool r.2.1.Low.Den.Negative), slT (iC .u32) r.2.1.Low.Den.Groups, .at (.bool r.2.1.High.Num.Negative), slT (iC .u32) r.2.1.High.Num.Groups, .at (.bool r.2.1.High.Den.Negative), slT (iC .u32) r.2.1.High.Den.Groups], .at (.int .i64 r.2.2)]) := by
 unfold change_Total at hr
 refine FnOk.body fine Tryz.func23 (c := (Tryz.f23.body).getD .skip) rfl (s := mkS 88 0 [(0, .agg (api_Banded.c a)), (1, .agg (api_Banded.c b))]) (by kernel_rfl) (rs := [.cell 4 39, .cell 5 39, .tmp 6]) rfl ?_
 unfold Tryz.f23
 simp only [Option.getD_some]
 refine CQ.seq ?_
 refine CQ.r0 fine ?_
 refine EVO.e1 (.hp 0 0) [(0, .own (api_Banded.c a))] ?_
 refine EVO.e1 (.hp 1 0) [(1, .own (api_Banded.c b))] ?_
 refine EVO.e1 (.hp 2 0) [(2, .own [aB false, .at (.slice none 0 0), aB false, .at (.slice none 0 0), aB false, .at (.slice none 0 0), aB false, .at (.slice none 0 0)])] ?_
 refine EVO.e1 (.hp 3 0) [(3, .own [aB false, .at (.slice none 0 0), aB false, .at (.slice none 0 0), aB false, .at (.slice none 0 0), aB false, .at (.slice none 0 0)])] ?_
 refine EVO.p1 (aI64 0) ?_
 refine EVO.done ?_
 refine CQ.n1 [2, 3, 4, 5] (mkS 88 0 [(2, .hp 0 0), (3, .hp 1 0), (4, .hp 2 0), (5, .hp 3 0)]) [.own (api_Banded.c a), .own (api_Banded.c b), .own [aB false, .at (.slice none 0 0), aB false, .at (.slice none 0 0), aB false, .at (.slice none 0 0), aB false, .at (.slice none 0 0)], .own [aB false, .at (.slice none 0 0), aB false, .at (.slice none 0 0), aB false, .at (.slice none 0 0), aB false, .at (.slice none 0 0)]] ?_
 refine CQ.seq ?_
 refine CQ.seq ?_
 replace hr := bd hr; obtain ⟨v1, hc2, hr⟩ := hr
 refine CQ.region fine (callOf_1 48 [.hs 4 0 2 7] [.own (api_Banded.c a), .own (api_Banded.c b), .own [aB false, .at (.slice none 0 0), aB false, .at (.slice none 0 0), aB false, .at (.slice none 0 0), aB false, .at (.slice none 0 0)], .own [aB false, .at (.slice none 0 0), aB false, .at (.slice none 0 0), aB false, .at (.slice none 0 0), aB false, .at (.slice none 0 0)], .own [aI64 a.Grid.X0, aI64 a.Grid.Y0, aI64 a.Grid.Step, aI64 a.Grid.Width, aI64 a.Grid.Height, sI64 a.Grid.Z, sI64 a.Err, aI64 b.Grid.X0, aI64 b.Grid.Y0, aI64 b.Grid.Step, aI64 b.Grid.Width, aI64 b.Grid.Height, sI64 b.Grid.Z, sI64 b.Err]] (.loc (aI64 v1) [] [4] 0) (callOk_val (l := [4]) (args' := [slT api_Banded.c [a, b]]) rfl (SnL.cons (Sn.hs rfl (.inl rfl) (SnC.cons (Sn.pure rfl) (SnC.cons (Sn.pure rfl) (SnC.cons (Sn.pure rfl) (SnC.cons (Sn.pure rfl) (SnC.cons (Sn.pure rfl) (SnC.cons (Sn.pure rfl) (SnC.cons (Sn.pure rfl) (SnC.cons (Sn.pure rfl) (SnC.cons (Sn.pure rfl) (SnC.cons (Sn.pure rfl) (SnC.cons (Sn.pure rfl) (SnC.cons (Sn.pure rfl) (SnC.cons (Sn.pure rfl) (SnC.cons (Sn.pure rfl) SnC.nil)))))))))))))) (fun h => nomatch h)) SnL.nil) (change_fit_ok n [a, b] v1 hc2))) ?_
 refine EVO.p1 (.agg (api_Banded.c a)) ?_
 refine EVO.p1 (.agg (api_Banded.c b)) ?_
 refine EVO.e1 (.hs 4 0 2 7) [(4, .own [aI64 a.Grid.X0, aI64 a.Grid.Y0, aI64 a.Grid.Step, aI64 a.Grid.Width, aI64 a.Grid.Height, sI64 a.Grid.Z, sI64 a.Err, aI64 b.Grid.X0, aI64 b.Grid.Y0, aI64 b.Grid.Step, aI64 b.Grid.Width, aI64 b.Grid.Height, sI64 b.Grid.Z, sI64 b.Err])] ?_
 refine EVO.c0 (by kernel_rfl) (callOf_at (by kernel_rfl)) ?_
 refine EVO.p1 (aI64 v1) ?_
 refine EVO.done ?_
 refine CQ.n1 [2, 3, 4, 5, 7] (mkS 88 0 [(2, .hp 0 0), (3, .hp 1 0), (4, .hp 2 0), (5, .hp 3 0), (7, aI64 v1)]) [.own (api_Banded.c a), .own (api_Banded.c b), .own [aB false, .at (.slice none 0 0), aB false, .at (.slice none 0 0), aB false, .at (.slice none 0 0), aB false, .at (.slice none 0 0)], .own [aB false, .at (.slice none 0 0), aB false, .at (.slice none 0 0), aB false, .at (.slice none 0 0), aB false, .at (.slice none 0 0)], .own [aI64 a.Grid.X0, aI64 a.Grid.Y0, aI64 a.Grid.Step, aI64 a.Grid.Width, aI64 a.Grid.Height, sI64 a.Grid.Z, sI64 a.Err, aI64 b.Grid.X0, aI64 b.Grid.Y0, aI64 b.Grid.Step, aI64 b.Grid.Width, aI64 b.Grid.Height, sI64 b.Grid.Z, sI64 b.Err]] ?_
 refine CQ.seq ?_
 refine CQ.r0 fine ?_
 refine EVO.p1 (aI64 v1) ?_
 refine EVO.p1 (aB ((v1 : Int) != 0)) ?_
 refine EVO.done ?_
 refine CQ.n1 [2, 3, 4, 5, 7, 19] (mkS 88 0 [(2, .hp 0 0), (3, .hp 1 0), (4, .hp 2 0), (5, .hp 3 0), (7, aI64 v1), (19, aB ((v1 : Int) != 0))]) [.own (api_Banded.c a), .own (api_Banded.c b), .own [aB false, .at (.slice none 0 0), aB false, .at (.slice none 0 0), aB false, .at (.slice none 0 0), aB false, .at (.slice none 0 0)], .own [aB false, .at (.slice none 0 0), aB false, .at (.slice none 0 0), aB false, .at (.slice none 0 0), aB false, .at (.slice none 0 0)], .own [aI64 a.Grid.X0, aI64 a.Grid.Y0, aI64 a.Grid.Step, aI64 a.Grid.Width, aI64 a.Grid.Height, sI64 a.Grid.Z, sI64 a.Err, aI64 b.Grid.X0, aI64 b.Grid.Y0, aI64 b.Grid.Step, aI64 b.Grid.Width, aI64 b.Grid.Height, sI64 b.Grid.Z, sI64 b.Err]] ?_
 refine CQ.cond (t := (v1 : Int) != 0) (by kernel_rfl) (fun hb3 => ?_) (fun hb3 => ?_)
 ·replace hr := cd_t hb3 hr
  refine CQ.seq ?_
  refine CQ.r0 fine ?_
  refine EVO.p1 (.agg [aB false, .at (.slice none 0 0), aB false, .at (.slice none 0 0), aB false, .at (.slice none 0 0), aB false, .at (.slice none 0 0)]) ?_
  refine EVO.p1 (.agg [aB false, .at (.slice none 0 0), aB false, .at (.slice none 0 0), aB false, .at (.slice none 0 0), aB false, .at (.slice none 0 0)]) ?_
  refine EVO.p1 (aI64 v1) ?_
  refine EVO.e1 (.unk) [(2, .own [aB false, .at (.slice none 0 0), aB false, .at (.slice none 0 0), aB false, .at (.slice none 0 0), aB false, .at (.slice none 0 0)])] ?_
  refine EVO.e1 (.unk) [(3, .own [aB false, .at (.slice none 0 0), aB false, .at (.slice none 0 0), aB false, .at (.slice none 0 0), aB false, .at (.slice none 0 0)])] ?_
  refine EVO.p1 (aI64 v1) ?_
  refine EVO.done ?_
  refine CQ.ret ?_
  obtain rfl := Option.some.inj hr
  exact FinQ.ret (vs := [.agg [aB false, .at (.slice none 0 0), aB false, .at (.slice none 0 0), aB false, .at (.slice none 0 0), aB false, .at (.slice none 0 0)], .agg [aB false, .at (.slice none 0 0), aB false, .at (.slice none 0 0), aB false, .at (.slice none 0 0), aB false, .at (.slice none 0 0)], aI64 v1]) (by kernel_rfl) (Sn.tup (SnL.cons (Sn.agg (SnL.cons (Sn.pure rfl) (SnL.cons Sn.nilsl (SnL.cons (Sn.pure rfl) (SnL.cons Sn.nilsl (SnL.cons (Sn.pure rfl) (SnL.cons Sn.nilsl (SnL.cons (Sn.pure rfl) (SnL.cons Sn.nilsl SnL.nil))))))))) (SnL.cons (Sn.agg (SnL.cons (Sn.pure rfl) (SnL.cons Sn.nilsl (SnL.cons (Sn.pure rfl) (SnL.cons Sn.nilsl (SnL.cons (Sn.pure rfl) (SnL.cons Sn.nilsl (SnL.cons (Sn.pure rfl) (SnL.cons Sn.nilsl SnL.nil))))))))) (SnL.cons (Sn.pure rfl) SnL.nil))))
 ·replace hr := cd_f hb3 hr
  refine CQ.skip ?_
  refine CQ.seq ?_
  refine CQ.r0 fine ?_
  refine EVO.e1 (.hp 5 0) [(5, .own [aI64 0, aI64 0])] ?_
  refine EVO.e1 (.hp 6 0) [(6, .own [aI64 0, aI64 0])] ?_
  refine EVO.done ?_
  refine CQ.n1 [2, 3, 4, 5, 8, 9] (mkS 88 0 [(2, .hp 0 0), (3, .hp 1 0), (4, .hp 2 0), (5, .hp 3 0), (8, .hp 5 0), (9, .hp 6 0)]) [.own (api_Banded.c a), .own (api_Banded.c b), .own [aB false, .at (.slice none 0 0), aB false, .at (.slice none 0 0), aB false, .at (.slice none 0 0), aB false, .at (.slice none 0 0)], .own [aB false, .at (.slice none 0 0), aB false, .at (.slice none 0 0), aB false, .at (.slice none 0 0), aB false, .at (.slice none 0 0)], .own [aI64 a.Grid.X0, aI64 a.Grid.Y0, aI64 a.Grid.Step, aI64 a.Grid.Width, aI64 a.Grid.Height, sI64 a.Grid.Z, sI64 a.Err, aI64 b.Grid.X0, aI64 b.Grid.Y0, aI64 b.Grid.Step, aI64 b.Grid.Width, aI64 b.Grid.Height, sI64 b.Grid.Z, sI64 b.Err], .own [aI64 0, aI64 0], .own [aI64 0, aI64 0]] ?_
  refine CQ.seq ?_
  refine CQ.seq ?_
  refine CQ.r0 fine ?_
  refine EVO.p1 (.hp 0 0) ?_
  refine EVO.p1 (.hp 0 5) ?_
  refine EVO.p1 (sI64 a.Grid.Z) ?_
  refine EVO.p1 (aI64 (a.Grid.Z.length : Int)) ?_
  refine EVO.p1 (aI64 0) ?_
  refine EVO.done ?_
  refine CQ.n1 [2, 3, 4, 5, 8, 9, 26, 27] (mkS 88 0 [(2, .hp 0 0), (3, .hp 1 0), (4, .hp 2 0), (5, .hp 3 0), (8, .hp 5 0), (9, .hp 6 0), (26, aI64 (a.Grid.Z.length : Int)), (27, aI64 0)]) [.own (api_Banded.c a), .own (api_Banded.c b), .own [aB false, .at (.slice none 0 0), aB false, .at (.slice none 0 0), aB false, .at (.slice none 0 0), aB false, .at (.slice none 0 0)], .own [aB false, .at (.slice none 0 0), aB false, .at (.slice none 0 0), aB false, .at (.slice none 0 0), aB false, .at (.slice none 0 0)], .own [aI64 a.Grid.X0, aI64 a.Grid.Y0, aI64 a.Grid.Step, aI64 a.Grid.Width, aI64 a.Grid.Height, sI64 a.Grid.Z, sI64 a.Err, aI64 b.Grid.X0, aI64 b.Grid.Y0, aI64 b.Grid.Step, aI64 b.Grid.Width, aI64 b.Grid.Height, sI64 b.Grid.Z, sI64 b.Err], .own [aI64 0, aI64 0], .own [aI64 0, aI64 0]] ?_
  refine CQ.block ?_
  replace hr := bd hr; obtain ⟨o22, hL23, hr⟩ := hr
  refine CQ.loopO (σ := fun z0 => match z0 with | (added_4, added_5, removed_6, removed_7, x_8) => ⟨mkS 88 0 [(2, .hp 0 0), (3, .hp 1 0), (4, .hp 2 0), (5, .hp 3 0), (8, .hp 4 0), (9, .hp 5 0), (26, aI64 (a.Grid.Z.length : Int)), (27, aI64 x_8)], [.own (api_Banded.c a), .own (api_Banded.c b), .own [aB false, .at (.slice none 0 0), aB false, .at (.slice none 0 0), aB false, .at (.slice none 0 0), aB false, .at (.slice none 0 0)], .own [aB false, .at (.slice none 0 0), aB false, .at (.slice none 0 0), aB false, .at (.slice none 0 0), aB false, .at (.slice none 0 0)], .own [aI64 added_4, aI64 added_5], .own [aI64 removed_6, aI64 removed_7]]⟩) (Q := fun x st' => match (generalizing := false) o22 with | (added_13, added_14, removed_15, removed_16) => x = .exit 0 ∧ Wk st' ⟨mkS 88 0 [(2, .hp 0 0), (4, .hp 1 0), (5, .hp 2 0), (8, .hp 3 0), (9, .hp 4 0)], [.own (api_Banded.c a), .own [aB false, .at (.slice none 0 0), aB false, .at (.slice none 0 0), aB false, .at (.slice none 0 0), aB false, .at (.slice none 0 0)], .own [aB false, .at (.slice none 0 0), aB false, .at (.slice none 0 0), aB false, .at (.slice none 0 0), aB false, .at (.slice none 0 0)], .own [aI64 added_13, aI64 added_14], .own [aI64 removed_15, aI64 removed_16]]⟩) hL23 ((Wk.gc [2, 3, 4, 5, 8, 9, 26, 27] [(0, true), (1, true), (2, true), (3, true), (5, true), (6, true)] rfl trivial).to (by kernel_rfl)) ?_ ?_
  ·clear hr
   rintro m ⟨added_4, added_5, removed_6, removed_7, x_8⟩ hr
   show CQ _ _ _ _ ⟨_, _⟩
   refine CQ.seq ?_
   refine CQ.r0 fine ?_
   refine EVO.p1 (aB (decide (x_8 < (a.Grid.Z.length : Int)))) ?_
   refine EVO.done ?_
   refine CQ.seq ?_
   refine CQ.cond (t := decide (x_8 < (a.Grid.Z.length : Int))) (by kernel_rfl) (fun hb18 => ?_) (fun hb18 => ?_)
   ·replace hr := cd_t hb18 hr
    refine CQ.skip ?_
    refine CQ.seq ?_
    refine CQ.block ?_
    refine CQ.seq ?_
    refine CQ.r0 fine ?_
    refine EVO.p1 (aI64 x_8) ?_
    refine EVO.p1 (aI64 x_8) ?_
    refine EVO.done ?_
    refine CQ.n1 [2, 3, 4, 5, 8, 9, 10, 26, 27] (mkS 88 0 [(2, .hp 0 0), (3, .hp 1 0), (4, .hp 2 0), (5, .hp 3 0), (8, .hp 4 0), (9, .hp 5 0), (10, aI64 x_8), (26, aI64 (a.Grid.Z.length : Int)), (27, aI64 x_8)]) [.own (api_Banded.c a), .own (api_Banded.c b), .own [aB false, .at (.slice none 0 0), aB false, .at (.slice none 0 0), aB false, .at (.slice none 0 0), aB false, .at (.slice none 0 0)], .own [aB false, .at (.slice none 0 0), aB false, .at (.slice none 0 0), aB false, .at (.slice none 0 0), aB false, .at (.slice none 0 0)], .own [aI64 added_4, aI64 added_5], .own [aI64 removed_6, aI64 removed_7]] ?_
    refine CQ.seq ?_
    replace hr := bd hr; obtain ⟨v19, hc20, hr⟩ := hr
    refine CQ.region fine (callOf_1 49 [.agg (api_Banded.c a), .agg (api_Banded.c b), aI64 x_8] [.own (api_Banded.c a), .own (api_Banded.c b), .own [aB false, .at (.slice none 0 0), aB false, .at (.slice none 0 0), aB false, .at (.slice none 0 0), aB false, .at (.slice none 0 0)], .own [aB false, .at (.slice none 0 0), aB false, .at (.slice none 0 0), aB false, .at (.slice none 0 0), aB false, .at (.slice none 0 0)], .own [aI64 added_4, aI64 added_5], .own [aI64 removed_6, aI64 removed_7]] (.loc (.tup [aI64 v19.1, aI64 v19.2.1, aB v19.2.2]) [] [] 0) (callOk_val (l := []) (args' := [.agg (api_Banded.c a), .agg (api_Banded.c b), aI64 x_8]) rfl (SnL.cons (Sn.pure rfl) (SnL.cons (Sn.pure rfl) (SnL.cons (Sn.pure rfl) SnL.nil))) (change_difference_ok n a b x_8 v19 hc20))) ?_
    refine EVO.p1 (.agg (api_Banded.c a)) ?_
    refine EVO.p1 (.agg (api_Banded.c b)) ?_
    refine EVO.p1 (aI64 x_8) ?_
    refine EVO.c0 (by kernel_rfl) (callOf_at (by kernel_rfl)) ?_
    refine EVO.p1 (.tup [aI64 v19.1, aI64 v19.2.1, aB v19.2.2]) ?_
    refine EVO.p1 (aI64 v19.1) ?_
    refine EVO.p1 (aI64 v19.2.1) ?_
    refine EVO.p1 (aB v19.2.2) ?_
    refine EVO.p1 (aI64 v19.1) ?_
    refine EVO.p1 (aI64 v19.2.1) ?_
    refine EVO.p1 (aB v19.2.2) ?_
    refine EVO.done ?_
    refine CQ.n1 [2, 3, 4, 5, 8, 9, 11, 12, 13, 26, 27] (mkS 88 0 [(2, .hp 0 0), (3, .hp 1 0), (4, .hp 2 0), (5, .hp 3 0), (8, .hp 4 0), (9, .hp 5 0), (11, aI64 v19.1), (12, aI64 v19.2.1), (13, aB v19.2.2), (26, aI64 (a.Grid.Z.length : Int)), (27, aI64 x_8)]) [.own (api_Banded.c a), .own (api_Banded.c b), .own [aB false, .at (.slice none 0 0), aB false, .at (.slice none 0 0), aB false, .at (.slice none 0 0), aB false, .at (.slice none 0 0)], .own [aB false, .at (.slice none 0 0), aB false, .at (.slice none 0 0), aB false, .at (.slice none 0 0), aB false, .at (.slice none 0 0)], .own [aI64 added_4, aI64 added_5], .own [aI64 removed_6, aI64 removed_7]] ?_
    refine CQ.seq ?_
    refine CQ.r0 fine ?_
    refine EVO.p1 (aB v19.2.2) ?_
    refine EVO.done ?_
    refine CQ.n1 [2, 3, 4, 5, 8, 9, 11, 12, 26, 27, 38] (mkS 88 0 [(2, .hp 0 0), (3, .hp 1 0), (4, .hp 2 0), (5, .hp 3 0), (8, .hp 4 0), (9, .hp 5 0), (11, aI64 v19.1), (12, aI64 v19.2.1), (26, aI64 (a.Grid.Z.length : Int)), (27, aI64 x_8), (38, aB v19.2.2)]) [.own (api_Banded.c a), .own (api_Banded.c b), .own [aB false, .at (.slice none 0 0), aB false, .at (.slice none 0 0), aB false, .at (.slice none 0 0), aB false, .at (.slice none 0 0)], .own [aB false, .at (.slice none 0 0), aB false, .at (.slice none 0 0), aB false, .at (.slice none 0 0), aB false, .at (.slice none 0 0)], .own [aI64 added_4, aI64 added_5], .own [aI64 removed_6, aI64 removed_7]] ?_
    refine CQ.cond (t := v19.2.2) (by kernel_rfl) (fun hb21 => ?_) (fun hb21 => ?_)
    ·replace hr := cd_t hb21 hr
     refine CQ.seq ?_
     refine CQ.r0 fine ?_
     refine EVO.p1 (.hp 4 0) ?_
     refine EVO.p1 (aI64 added_4) ?_
     refine EVO.p1 (aI64 v19.1) ?_
     refine EVO.p1 (aI64 v19.2.1) ?_
     refine EVO.p1 (aI64 (wrapF .i64 (v19.1 - v19.2.1))) ?_
     refine EVO.p1 (aI64 (mx 0 (wrapF .i64 (v19.1 - v19.2.1)))) ?_
     refine EVO.p1 (aI64 (wrapF .i64 (added_4 + (mx 0 (wrapF .i64 (v19.1 - v19.2.1)))))) ?_
     refine EVO.p1 (.hp 4 1) ?_
     refine EVO.p1 (aI64 added_5) ?_
     refine EVO.p1 (aI64 v19.1) ?_
     refine EVO.p1 (aI64 v19.2.1) ?_
     refine EVO.p1 (aI64 (wrapF .i64 (v19.1 + v19.2.1))) ?_
     refine EVO.p1 (aI64 (mx 0 (wrapF .i64 (v19.1 + v19.2.1)))) ?_
     refine EVO.p1 (aI64 (wrapF .i64 (added_5 + (mx 0 (wrapF .i64 (v19.1 + v19.2.1)))))) ?_
     refine EVO.p1 (.hp 4 0) ?_
     refine EVO.e1 (.unk) [(4, .own [aI64 (wrapF .i64 (added_4 + (mx 0 (wrapF .i64 (v19.1 - v19.2.1))))), aI64 added_5])] ?_
     refine EVO.p1 (.hp 4 1) ?_
     refine EVO.e1 (.unk) [(4, .own [aI64 (wrapF .i64 (added_4 + (mx 0 (wrapF .i64 (v19.1 - v19.2.1))))), aI64 (wrapF .i64 (added_5 + (mx 0 (wrapF .i64 (v19.1 + v19.2.1)))))])] ?_
     refine EVO.done ?_
     refine CQ.n1 [2, 3, 4, 5, 8, 9, 11, 12, 26, 27] (mkS 88 0 [(2, .hp 0 0), (3, .hp 1 0), (4, .hp 2 0), (5, .hp 3 0), (8, .hp 4 0), (9, .hp 5 0), (11, aI64 v19.1), (12, aI64 v19.2.1), (26, aI64 (a.Grid.Z.length : Int)), (27, aI64 x_8)]) [.own (api_Banded.c a), .own (api_Banded.c b), .own [aB false, .at (.slice none 0 0), aB false, .at (.slice none 0 0), aB false, .at (.slice none 0 0), aB false, .at (.slice none 0 0)], .own [aB false, .at (.slice none 0 0), aB false, .at (.slice none 0 0), aB false, .at (.slice none 0 0), aB false, .at (.slice none 0 0)], .own [aI64 (wrapF .i64 (added_4 + (mx 0 (wrapF .i64 (v19.1 - v19.2.1))))), aI64 (wrapF .i64 (added_5 + (mx 0 (wrapF .i64 (v19.1 + v19.2.1)))))], .own [aI64 removed_6, aI64 removed_7]] ?_
     refine CQ.r0 fine ?_
     refine EVO.p1 (.hp 5 0) ?_
     refine EVO.p1 (aI64 removed_6) ?_
     refine EVO.p1 (aI64 v19.1) ?_
     refine EVO.p0 (v := aI64 (wrapF .i64 (0 - v19.1))) (Eq.trans (b := some (.pure (aI64 (IntKind.wrap .i64 (0 - v19.1))))) (by kernel_rfl) wrap_at) ?_
     refine EVO.p1 (aI64 v19.2.1) ?_
     refine EVO.p1 (aI64 (wrapF .i64 ((wrapF .i64 (0 - v19.1)) - v19.2.1))) ?_
     refine EVO.p1 (aI64 (mx 0 (wrapF .i64 ((wrapF .i64 (0 - v19.1)) - v19.2.1)))) ?_
     refine EVO.p1 (aI64 (wrapF .i64 (removed_6 + (mx 0 (wrapF .i64 ((wrapF .i64 (0 - v19.1)) - v19.2.1)))))) ?_
     refine EVO.p1 (.hp 5 1) ?_
     refine EVO.p1 (aI64 removed_7) ?_
     refine EVO.p1 (aI64 v19.1) ?_
     refine EVO.p0 (v := aI64 (wrapF .i64 (0 - v19.1))) (Eq.trans (b := some (.pure (aI64 (IntKind.wrap .i64 (0 - v19.1))))) (by kernel_rfl) wrap_at) ?_
     refine EVO.p1 (aI64 v19.2.1) ?_
     refine EVO.p1 (aI64 (wrapF .i64 ((wrapF .i64 (0 - v19.1)) + v19.2.1))) ?_
     refine EVO.p1 (aI64 (mx 0 (wrapF .i64 ((wrapF .i64 (0 - v19.1)) + v19.2.1)))) ?_
     refine EVO.p1 (aI64 (wrapF .i64 (removed_7 + (mx 0 (wrapF .i64 ((wrapF .i64 (0 - v19.1)) + v19.2.1)))))) ?_
     refine EVO.p1 (.hp 5 0) ?_
     refine EVO.e1 (.unk) [(5, .own [aI64 (wrapF .i64 (removed_6 + (mx 0 (wrapF .i64 ((wrapF .i64 (0 - v19.1)) - v19.2.1))))), aI64 removed_7])] ?_
     refine EVO.p1 (.hp 5 1) ?_
     refine EVO.e1 (.unk) [(5, .own [aI64 (wrapF .i64 (removed_6 + (mx 0 (wrapF .i64 ((wrapF .i64 (0 - v19.1)) - v19.2.1))))), aI64 (wrapF .i64 (removed_7 + (mx 0 (wrapF .i64 ((wrapF .i64 (0 - v19.1)) + v19.2.1)))))])] ?_
     refine EVO.done ?_
     refine CQ.pop ?_
     refine CQ.r0 fine ?_
     refine EVO.p1 (aI64 (wrapF .i64 (x_8 + 1))) ?_
     refine EVO.p1 (aI64 (wrapF .i64 (x_8 + 1))) ?_
     refine EVO.done ?_
     exact loopF_back (wrapF .i64 (added_4 + (mx 0 (wrapF .i64 (v19.1 - v19.2.1)))), wrapF .i64 (added_5 + (mx 0 (wrapF .i64 (v19.1 + v19.2.1)))), wrapF .i64 (removed_6 + (mx 0 (wrapF .i64 ((wrapF .i64 (0 - v19.1)) - v19.2.1)))), wrapF .i64 (removed_7 + (mx 0 (wrapF .i64 ((wrapF .i64 (0 - v19.1)) + v19.2.1)))), wrapF .i64 (x_8 + 1)) hr ((Wk.gc [2, 3, 4, 5, 8, 9, 26, 27] [(0, true), (1, true), (2, true), (3, true), (4, true), (5, true)] rfl trivial).to (by kernel_rfl))
    ·replace hr := cd_f hb21 hr
     refine CQ.skip ?_
     refine CQ.pop ?_
     refine CQ.r0 fine ?_
     refine EVO.p1 (aI64 (wrapF .i64 (x_8 + 1))) ?_
     refine EVO.p1 (aI64 (wrapF .i64 (x_8 + 1))) ?_
     refine EVO.done ?_
     exact loopF_back (added_4, added_5, removed_6, removed_7, wrapF .i64 (x_8 + 1)) hr ((Wk.gc [2, 3, 4, 5, 8, 9, 26, 27] [(0, true), (1, true), (2, true), (3, true), (4, true), (5, true)] rfl trivial).to (by kernel_rfl))
   ·replace hr := cd_f hb18 hr
    refine CQ.leave rfl ?_
    obtain rfl := Option.some.inj hr
    exact ⟨rfl, ((Wk.gc [2, 4, 5, 8, 9] [(0, true), (2, true), (3, true), (4, true), (5, true)] rfl trivial).to (by kernel_rfl))⟩
  ·rcases o22 with ⟨added_13, added_14, removed_15, removed_16⟩
   rintro x st' hq24
   clear hL23
   obtain ⟨rfl, hq24⟩ := hq24
   refine CQ_exit _ rfl ?_
   refine CQ.wk hq24 ?_
   refine CQ.seq ?_
   replace hr := bd hr; obtain ⟨v25, hc26, hr⟩ := hr
   replace hr := bd hr; obtain ⟨v27, hc28, hr⟩ := hr
   refine CQ.regionT fine (callOf_ok [{ f := 50, args := [.agg (api_Grid.c a.Grid), aI64 added_13, aI64 added_14], H := [.own (api_Banded.c a), .own [aB false, .at (.slice none 0 0), aB false, .at (.slice none 0 0), aB false, .at (.slice none 0 0), aB false, .at (.slice none 0 0)], .own [aB false, .at (.slice none 0 0), aB false, .at (.slice none 0 0), aB false, .at (.slice none 0 0), aB false, .at (.slice none 0 0)], .own [aI64 added_13, aI64 added_14], .own [aI64 removed_15, aI64 removed_16]], r := .loc (.agg (api_Range.c v25)) [] [] 0 : CE }, { f := 50, args := [.agg (api_Grid.c a.Grid), aI64 removed_15, aI64 removed_16], H := [.own (api_Banded.c a), .own [aB false, .at (.slice none 0 0), aB false, .at (.slice none 0 0), aB false, .at (.slice none 0 0), aB false, .at (.slice none 0 0)], .own [aB false, .at (.slice none 0 0), aB false, .at (.slice none 0 0), aB false, .at (.slice none 0 0), aB false, .at (.slice none 0 0)], .own [aI64 added_13, aI64 added_14], .own [aI64 removed_15, aI64 removed_16]], r := .loc (.agg (api_Range.c v27)) [] [] 0 : CE }] (List.forall_mem_cons.2 ⟨(callOk_ref (l := []) (args' := [.agg (api_Grid.c a.Grid), aI64 added_13, aI64 added_14]) (SnL.cons (Sn.pure rfl) (SnL.cons (Sn.pure rfl) (SnL.cons (Sn.pure rfl) SnL.nil))) (change_solid_ok n a.Grid added_13 added_14 v25 hc26)), (List.forall_mem_cons.2 ⟨(callOk_ref (l := []) (args' := [.agg (api_Grid.c a.Grid), aI64 removed_15, aI64 removed_16]) (SnL.cons (Sn.pure rfl) (SnL.cons (Sn.pure rfl) (SnL.cons (Sn.pure rfl) SnL.nil))) (change_solid_ok n a.Grid removed_15 removed_16 v27 hc28)), ce0⟩)⟩)) ?_
   refine EVT.p1 (.hp 0 0) ?_
   refine EVT.p1 (.agg (api_Grid.c a.Grid)) ?_
   refine EVT.p1 (.hp 3 0) ?_
   refine EVT.p1 (aI64 added_13) ?_
   refine EVT.p1 (.hp 3 1) ?_
   refine EVT.p1 (aI64 added_14) ?_
   refine EVT.cal (by kernel_rfl) (by kernel_rfl) (callOf_at (by kernel_rfl)) (by kernel_rfl) ?_
   refine EVT.p1 (.hp 0 0) ?_
   refine EVT.p1 (.agg (api_Grid.c a.Grid)) ?_
   refine EVT.p1 (.hp 4 0) ?_
   refine EVT.p1 (aI64 removed_15) ?_
   refine EVT.p1 (.hp 4 1) ?_
   refine EVT.p1 (aI64 removed_16) ?_
   refine EVT.cal (by kernel_rfl) (by kernel_rfl) (callOf_skip (fun _ h => by obtain ⟨e0, e1, e2⟩ := change_solid_inj h; rw [show v27 = v25 from Option.some.inj (hc28.symm.trans ((show change_solid n a.Grid removed_15 removed_16 = change_solid n a.Grid added_13 added_14 from (congr (congr (congr rfl e0) e1) e2)).trans hc26))]) (callOf_at (by kernel_rfl))) (by kernel_rfl) ?_
   refine EVT.e1 (.unk) [(1, .own (api_Range.c v25))] ?_
   refine EVT.e1 (.unk) [(2, .own (api_Range.c v27))] ?_
   refine EVT.p1 (aI64 0) ?_
   refine EVT.done ⟨by kernel_rfl, ?_⟩
   refine CQ.ret ?_
   obtain rfl := Option.some.inj hr
   exact FinQ.ret (vs := [.agg (api_Range.c v25), .agg (api_Range.c v27), aI64 0]) (by kernel_rfl) (Sn.tup (SnL.cons (Sn.pure rfl) (SnL.cons (Sn.pure rfl) (SnL.cons (Sn.pure rfl) SnL.nil))))

theorem slices_Equal_fiducial_api_Verdict_fiducial_api_Verdict_ok (n : Nat) (s1 : List Int) (s2 : List Int) (r : Bool) (hr : slices_Equal_fiducial_api_Verdict_fiducial_api_Verdict n s1 s2 = some r) : FnOk Tryz.prog 46 [slT (iC .i64) s1, slT (iC .i64) s2] (.at (.bool r)) := by
 unfold slices_Equal_fiducial_api_Verdict_fiducial_api_Verdict at hr
 refine FnOk.body fine Tryz.func46 (c := (Tryz.f46.body).getD .skip) rfl (s := mkS 26 0 [(0, sI64 s1), (1, sI64 s2)]) (by kernel_rfl) (rs := [.tmp 4]) rfl ?_
 unfold Tryz.f46
 simp only [Option.getD_some]
 refine CQ.seq ?_
 refine CQ.r0 fine ?_
 refine EVO.p1 (aB false) ?_
 refine EVO.done ?_
 refine CQ.n1 [0, 1] (mkS 26 0 [(0, sI64 s1), (1, sI64 s2)]) [] ?_
 refine CQ.seq ?_
 refine CQ.seq ?_
 refine CQ.r0 fine ?_
 refine EVO.p1 (sI64 s1) ?_
 refine EVO.p1 (aI64 (s1.length : Int)) ?_
 refine EVO.p1 (sI64 s2) ?_
 refine EVO.p1 (aI64 (s2.length : Int)) ?_
 refine EVO.p1 (aB (((s1.length : Int) : Int) != (s2.length : Int))) ?_
 refine EVO.done ?_
 refine CQ.n1 [0, 1, 10] (mkS 26 0 [(0, sI64 s1), (1, sI64 s2), (10, aB (((s1.length : Int) : Int) != (s2.length : Int)))]) [] ?_
 refine CQ.cond (t := ((s1.length : Int) : Int) != (s2.length : Int)) (by kernel_rfl) (fun hb1 => ?_) (fun hb1 => ?_)
 ·replace hr := cd_t hb1 hr
  refine CQ.seq ?_
  refine CQ.r0 fine ?_
  refine EVO.p1 (aB false) ?_
  refine EVO.done ?_
  refine CQ.ret ?_
  obtain rfl := Option.some.inj hr
  exact FinQ.r1 [aB false]
 ·replace hr := cd_f hb1 hr
  refine CQ.skip ?_
  refine CQ.seq ?_
  refine CQ.seq ?_
  refine CQ.r0 fine ?_
  refine EVO.p1 (sI64 s1) ?_
  refine EVO.p1 (aI64 (s1.length : Int)) ?_
  refine EVO.p1 (aI64 0) ?_
  refine EVO.done ?_
  refine CQ.n1 [0, 1, 12, 13] (mkS 26 0 [(0, sI64 s1), (1, sI64 s2), (12, aI64 (s1.length : Int)), (13, aI64 0)]) [] ?_
  refine CQ.block ?_
  replace hr := bd hr; obtain ⟨o12, hL13, hr⟩ := hr
  refine CQ.loopO (σ := fun z0 => match z0 with | x_2 => ⟨mkS 26 0 [(0, sI64 s1), (1, sI64 s2), (12, aI64 (s1.length : Int)), (13, aI64 x_2)], []⟩) (Q := fun x st' => match (generalizing := false) o12 with | .inl _ => x = .exit 0 ∧ Wk st' ⟨mkS 26 0 [], []⟩ | .inr (r0) => x = .ret ∧ FinQ Tryz.prog [.tmp 4] (aB r0) .ret st') hL13 ((Wk.gc [0, 1, 12, 13] [] rfl trivial).to (by kernel_rfl)) ?_ ?_
  ·clear hr
   rintro m x_2 hr
   show CQ _ _ _ _ ⟨_, _⟩
   refine CQ.seq ?_
   refine CQ.r0 fine ?_
   refine EVO.p1 (aB (decide (x_2 < (s1.length : Int)))) ?_
   refine EVO.done ?_
   refine CQ.seq ?_
   refine CQ.cond (t := decide (x_2 < (s1.length : Int))) (by kernel_rfl) (fun hb8 => ?_) (fun hb8 => ?_)
   ·replace hr := cd_t hb8 hr
    refine CQ.skip ?_
    refine CQ.seq ?_
    refine CQ.block ?_
    refine CQ.seq ?_
    refine CQ.r0 fine ?_
    refine EVO.p1 (aI64 x_2) ?_
    refine EVO.p1 (aI64 x_2) ?_
    refine EVO.done ?_
    refine CQ.n1 [0, 1, 5, 12, 13] (mkS 26 0 [(0, sI64 s1), (1, sI64 s2), (5, aI64 x_2), (12, aI64 (s1.length : Int)), (13, aI64 x_2)]) [] ?_
    refine CQ.seq ?_
    replace hr := gd hr; obtain ⟨hg9, hr⟩ := hr
    replace hr := gd hr; obtain ⟨hg10, hr⟩ := hr
    refine CQ.regionT fine callOf_nil ?_
    refine EVT.p1 (sI64 s1) ?_
    refine EVT.p1 (aI64 x_2) ?_
    refine EVT.pure (v := .pp (s1.flatMap (iC .i64)) (x_2.toNat * 1)) (by kernel_rfl) (Eq.trans (b := ORes.ofP (guardV (inR x_2 s1.length) (.pp (s1.flatMap (iC .i64)) (x_2.toNat * 1)))) (by kernel_rfl) (ofP_guard hg9)) (by kernel_rfl) ?_
    refine EVT.pure (v := aI64 (gt s1 x_2)) (by kernel_rfl) (Eq.trans (b := ORes.ofP ((s1.flatMap (iC .i64))[x_2.toNat * 1]?)) (by kernel_rfl) (ofP_some (flat_get (iC_len _) (inR_lt hg9) (by decide : 0 < 1) (by omega : x_2.toNat * 1 = x_2.toNat * 1 + 0) (by kernel_rfl)))) (by kernel_rfl) ?_
    refine EVT.p1 (sI64 s2) ?_
    refine EVT.p1 (aI64 x_2) ?_
    refine EVT.pure (v := .pp (s2.flatMap (iC .i64)) (x_2.toNat * 1)) (by kernel_rfl) (Eq.trans (b := ORes.ofP (guardV (inR x_2 s2.length) (.pp (s2.flatMap (iC .i64)) (x_2.toNat * 1)))) (by kernel_rfl) (ofP_guard hg10)) (by kernel_rfl) ?_
    refine EVT.pure (v := aI64 (gt s2 x_2)) (by kernel_rfl) (Eq.trans (b := ORes.ofP ((s2.flatMap (iC .i64))[x_2.toNat * 1]?)) (by kernel_rfl) (ofP_some (flat_get (iC_len _) (inR_lt hg10) (by decide : 0 < 1) (by omega : x_2.toNat * 1 = x_2.toNat * 1 + 0) (by kernel_rfl)))) (by kernel_rfl) ?_
    refine EVT.p1 (aB (((gt s1 x_2) : Int) != (gt s2 x_2))) ?_
    refine EVT.done ⟨by kernel_rfl, ?_⟩
    refine CQ.n1 [0, 1, 12, 13, 24] (mkS 26 0 [(0, sI64 s1), (1, sI64 s2), (12, aI64 (s1.length : Int)), (13, aI64 x_2), (24, aB (((gt s1 x_2) : Int) != (gt s2 x_2)))]) [] ?_
    refine CQ.cond (t := ((gt s1 x_2) : Int) != (gt s2 x_2)) (by kernel_rfl) (fun hb11 => ?_) (fun hb11 => ?_)
    ·replace hr := cd_t hb11 hr
     refine CQ.seq ?_
     refine CQ.r0 fine ?_
     refine EVO.p1 (aB false) ?_
     refine EVO.done ?_
     refine CQ.ret ?_
     obtain rfl := Option.some.inj hr
     exact ⟨rfl, FinQ.ret (vs := [aB false]) (by kernel_rfl) (Sn.pure rfl)⟩
    ·replace hr := cd_f hb11 hr
     refine CQ.skip ?_
     refine CQ.pop ?_
     refine CQ.r0 fine ?_
     refine EVO.p1 (aI64 (wrapF .i64 (x_2 + 1))) ?_
     refine EVO.p1 (aI64 (wrapF .i64 (x_2 + 1))) ?_
     refine EVO.done ?_
     exact loopF_back (wrapF .i64 (x_2 + 1)) hr ((Wk.gc [0, 1, 12, 13] [] rfl trivial).to (by kernel_rfl))
   ·replace hr := cd_f hb8 hr
    refine CQ.leave rfl ?_
    obtain rfl := Option.some.inj hr
    exact ⟨rfl, ((Wk.gc [] [] rfl trivial).to (by kernel_rfl))⟩
  ·rcases o12 with ⟨⟩ | r0
   ·rintro x st' hq14
    clear hL13
    obtain ⟨rfl, hq14⟩ := hq14
    refine CQ_exit _ rfl ?_
    refine CQ.wk hq14 ?_
    refine CQ.seq ?_
    refine CQ.r0 fine ?_
    refine EVO.p1 (aB true) ?_
    refine EVO.done ?_
    refine CQ.ret ?_
    obtain rfl := Option.some.inj hr
    exact FinQ.r1 [aB true]
   ·rintro x st' hq14
    clear hL13
    obtain ⟨rfl, hq14⟩ := hq14
    obtain rfl := Option.some.inj hr
    exact CQ_ret _ hq14

theorem fiducialref01_made_ok (n : Nat) (negative : Bool) (l : List Int) (r : api_Int) (hr : fiducialref01_made n negative l = some r) : FnOk Tryz.prog 109 [.at (.bool negative), slT (iC .u32) l] (.agg [.at (.bool r.Negative), slT (iC .u32) r.Groups]) := by
 unfold fiducialref01_made at hr
 refine FnOk.body fine Tryz.func109 (c := (Tryz.f109.body).getD .skip) rfl (s := mkS 31 0 [(0, aB negative), (1, sU32 l)]) (by kernel_rfl) (rs := [.cell 4 35]) rfl ?_
 unfold Tryz.f109
 simp only [Option.getD_some]
 refine CQ.seq ?_
 refine CQ.r0 fine ?_
 refine EVO.e1 (.hp 0 0) [(0, .own [aB false, .at (.slice none 0 0)])] ?_
 refine EVO.done ?_
 refine CQ.seq ?_
 refine CQ.r0 fine ?_
 refine EVO.p1 (sU32 l) ?_
 refine EVO.p1 (aI64 (l.length : Int)) ?_
 refine EVO.p1 (aI64 (l.length : Int)) ?_
 refine EVO.done ?_
 refine CQ.n1 [0, 1, 4, 5] (mkS 31 0 [(0, aB negative), (1, sU32 l), (4, .hp 0 0), (5, aI64 (l.length : Int))]) [.own [aB false, .at (.slice none 0 0)]] ?_
 refine CQ.seq ?_
 refine CQ.block ?_
 replace hr := bd hr; obtain ⟨n_5, hL11, hr⟩ := hr
 refine CQ.loopO (σ := fun z0 => match z0 with | n_1 => ⟨mkS 31 0 [(0, aB negative), (1, sU32 l), (4, .hp 0 0), (5, aI64 n_1)], [.own [aB false, .at (.slice none 0 0)]]⟩) (Q := fun x st' => x = .exit 0 ∧ Wk st' ⟨mkS 31 0 [(0, aB negative), (1, sU32 l), (4, .hp 0 0), (5, aI64 n_5)], [.own [aB false, .at (.slice none 0 0)]]⟩) hL11 ((Wk.gc [0, 1, 4, 5] [(0, true)] rfl trivial).to (by kernel_rfl)) ?_ ?_
 ·clear hr
  rintro m n_1 hr
  show CQ _ _ _ _ ⟨_, _⟩
  refine CQ.seq ?_
  refine CQ.seq ?_
  rcases Bool.eq_false_or_eq_true (decide (n_1 > 0)) with hb7 | hb7
  ·replace hr := cd_t hb7 hr
   replace hr := gd hr; obtain ⟨hg8, hr⟩ := hr
   refine CQ.r0 fine ?_
   refine EVO.p1 (aI64 n_1) ?_
   refine EVO.p0 (v := aB true) (Eq.trans (b := some (.pure (aB (decide (n_1 > 0))))) (by kernel_rfl) (by rw [hb7])) ?_
   refine EVO.p1 (aB true) ?_
   refine EVO.q1 (sU32 l) ?_
   refine EVO.q1 (aI64 n_1) ?_
   refine EVO.q1 (aI64 (wrapF .i64 (n_1 - 1))) ?_
   refine EVO.pure (v := .pp (l.flatMap (iC .u32)) ((wrapF .i64 (n_1 - 1)).toNat * 1)) (by kernel_rfl) (Eq.trans (b := ORes.ofP (guardV (inR (wrapF .i64 (n_1 - 1)) l.length) (.pp (l.flatMap (iC .u32)) ((wrapF .i64 (n_1 - 1)).toNat * 1)))) (by kernel_rfl) (ofP_guard hg8)) ?_
   refine EVO.pure (v := aU32 (gt l (wrapF .i64 (n_1 - 1)))) (by kernel_rfl) (Eq.trans (b := ORes.ofP ((l.flatMap (iC .u32))[(wrapF .i64 (n_1 - 1)).toNat * 1]?)) (by kernel_rfl) (ofP_some (flat_get (iC_len _) (inR_lt hg8) (by decide : 0 < 1) (by omega : (wrapF .i64 (n_1 - 1)).toNat * 1 = (wrapF .i64 (n_1 - 1)).toNat * 1 + 0) (by kernel_rfl)))) ?_
   refine EVO.q1 (aB (((gt l (wrapF .i64 (n_1 - 1))) : Int) == 0)) ?_
   refine EVO.p1 (aB (((gt l (wrapF .i64 (n_1 - 1))) : Int) == 0)) ?_
   refine EVO.done ?_
   refine CQ.n1 [0, 1, 4, 5, 17] (mkS 31 0 [(0, aB negative), (1, sU32 l), (4, .hp 0 0), (5, aI64 n_1), (17, aB (((gt l (wrapF .i64 (n_1 - 1))) : Int) == 0))]) [.own [aB false, .at (.slice none 0 0)]] ?_
   refine CQ.cond (t := ((gt l (wrapF .i64 (n_1 - 1))) : Int) == 0) (by kernel_rfl) (fun hb9 => ?_) (fun hb9 => ?_)
   ·replace hr := cd_t hb9 hr
    refine CQ.skip ?_
    refine CQ.block ?_
    refine CQ.r0 fine ?_
    refine EVO.p1 (aI64 n_1) ?_
    refine EVO.p1 (aI64 (wrapF .i64 (n_1 - 1))) ?_
    refine EVO.p1 (aI64 (wrapF .i64 (n_1 - 1))) ?_
    refine EVO.done ?_
    refine CQ.pop ?_
    exact loopF_back (wrapF .i64 (n_1 - 1)) hr ((Wk.gc [0, 1, 4, 5] [(0, true)] rfl trivial).to (by kernel_rfl))
   ·replace hr := cd_f hb9 hr
    refine CQ.leave rfl ?_
    obtain rfl := Option.some.inj hr
    exact ⟨rfl, ((Wk.gc [0, 1, 4, 5] [(0, true)] rfl trivial).to (by kernel_rfl))⟩
  ·replace hr := cd_f hb7 hr
   refine CQ.r0 fine ?_
   refine EVO.p1 (aI64 n_1) ?_
   refine EVO.p0 (v := aB false) (Eq.trans (b := some (.pure (aB (decide (n_1 > 0))))) (by kernel_rfl) (by rw [hb7])) ?_
   refine EVO.p1 (aB false) ?_
   refine EVO.s1 ?_
   refine EVO.s1 ?_
   refine EVO.s1 ?_
   refine EVO.s1 ?_
   refine EVO.s1 ?_
   refine EVO.s1 ?_
   refine EVO.p1 (aB false) ?_
   refine EVO.done ?_
   refine CQ.n1 [0, 1, 4, 5, 17] (mkS 31 0 [(0, aB negative), (1, sU32 l), (4, .hp 0 0), (5, aI64 n_1), (17, aB false)]) [.own [aB false, .at (.slice none 0 0)]] ?_
   refine CQ.cF (by kernel_rfl) ?_
   refine CQ.leave rfl ?_
   obtain rfl := Option.some.inj hr
   exact ⟨rfl, ((Wk.gc [0, 1, 4, 5] [(0, true)] rfl trivial).to (by kernel_rfl))⟩
 ·rintro x st' hq12
  clear hL11
  obtain ⟨rfl, hq12⟩ := hq12
  refine CQ_exit _ rfl ?_
  refine CQ.wk hq12 ?_
  refine CQ.seq ?_
  rcases Bool.eq_false_or_eq_true negative with hb13 | hb13
  ·replace hr := cd_t hb13 hr
   replace hr := gd hr; obtain ⟨hg14, hr⟩ := hr
   replace hr := gd hr; obtain ⟨hg15, hr⟩ := hr
   replace hr := gd hr; obtain ⟨hg16, hr⟩ := hr
   refine CQ.r0 fine ?_
   refine EVO.p0 (v := aB true) (Eq.trans (b := some (.pure (aB negative))) (by kernel_rfl) (by rw [hb13])) ?_
   refine EVO.p1 (aB true) ?_
   refine EVO.q1 (aI64 n_5) ?_
   refine EVO.q1 (aB (decide (n_5 > 0))) ?_
   refine EVO.p1 (aB (decide (n_5 > 0))) ?_
   refine EVO.e1 (.hs 1 0 0 1) [(1, .own [])] ?_
   refine EVO.p1 (sU32 l) ?_
   refine EVO.p1 (aI64 n_5) ?_
   refine EVO.p0 (v := sU32 ((l.drop (0 : Int).toNat).take (n_5.toNat - (0 : Int).toNat))) (Eq.trans (b := slO (inS 0 n_5 l.length) (0 : Int).toNat n_5.toNat (fun z1 z2 => .sl true (((l.flatMap (iC .u32)).drop (z1 * 1)).take ((z2 - z1) * 1)) (z2 - z1))) (by kernel_rfl) (slO_t hg14 (sub_sl (iC_len _) (inS_le hg14)))) ?_
   refine EVO.e0 (v := .hs 2 0 ((l.drop (0 : Int).toNat).take (n_5.toNat - (0 : Int).toNat)).length 1) (ws := [(1, .dead), (2, .own (((l.drop (0 : Int).toNat).take (n_5.toNat - (0 : Int).toNat)).flatMap (iC .u32)))]) (Eq.trans (b := appS (decide (((((l.drop (0 : Int).toNat).take (n_5.toNat - (0 : Int).toNat)).flatMap (iC .u32))).length = ((l.drop (0 : Int).toNat).take (n_5.toNat - (0 : Int).toNat)).length * 1)) (((l.drop (0 : Int).toNat).take (n_5.toNat - (0 : Int).toNat)).flatMap (iC .u32)) ((l.drop (0 : Int).toNat).take (n_5.toNat - (0 : Int).toNat)).length (fun z1 z2 => guardO (decide (0 + 0 * 1 ≤ (([] : List Int).flatMap (iC .u32)).length) && decide ((0 + z2) * 4 ≤ 140737488355328) && decide (0 + z2 ≤ 4611686018427387904)) (some (.eff (.hs 2 0 (0 + z2) 1) [(1, .dead), (2, .own (((([] : List Int).flatMap (iC .u32)).drop 0).take (0 * 1) ++ z1))])))) (by kernel_rfl) (appS_t (flat_lenB (iC_len _)) rfl (app_own (l := ([] : List Int)) (xs := (l.drop (0 : Int).toNat).take (n_5.toNat - (0 : Int).toNat)) (iC_len _) rfl rfl rfl hg15 hg16))) ?_
   refine EVO.p1 (.agg [aB (decide (n_5 > 0)), .hs 2 0 ((l.drop (0 : Int).toNat).take (n_5.toNat - (0 : Int).toNat)).length 1]) ?_
   refine EVO.e1 (.unk) [(0, .own [aB (decide (n_5 > 0)), .hs 2 0 ((l.drop (0 : Int).toNat).take (n_5.toNat - (0 : Int).toNat)).length 1])] ?_
   refine EVO.done ?_
   refine CQ.ret ?_
   obtain rfl := Option.some.inj hr
   exact FinQ.ret (vs := [.agg [aB (decide (n_5 > 0)), .hs 2 0 ((l.drop (0 : Int).toNat).take (n_5.toNat - (0 : Int).toNat)).length 1]]) (by kernel_rfl) (Sn.agg (SnL.cons (Sn.pure rfl) (SnL.cons (Sn.hs rfl (.inl rfl) (SnC.pure (ids_flat (iC_pure _) _)) (fun h => flat_nil0 h)) SnL.nil)))
  ·replace hr := cd_f hb13 hr
   replace hr := gd hr; obtain ⟨hg17, hr⟩ := hr
   replace hr := gd hr; obtain ⟨hg18, hr⟩ := hr
   replace hr := gd hr; obtain ⟨hg19, hr⟩ := hr
   refine CQ.r0 fine ?_
   refine EVO.p0 (v := aB false) (Eq.trans (b := some (.pure (aB negative))) (by kernel_rfl) (by rw [hb13])) ?_
   refine EVO.p1 (aB false) ?_
   refine EVO.s1 ?_
   refine EVO.s1 ?_
   refine EVO.p1 (aB false) ?_
   refine EVO.e1 (.hs 1 0 0 1) [(1, .own [])] ?_
   refine EVO.p1 (sU32 l) ?_
   refine EVO.p1 (aI64 n_5) ?_
   refine EVO.p0 (v := sU32 ((l.drop (0 : Int).toNat).take (n_5.toNat - (0 : Int).toNat))) (Eq.trans (b := slO (inS 0 n_5 l.length) (0 : Int).toNat n_5.toNat (fun z1 z2 => .sl true (((l.flatMap (iC .u32)).drop (z1 * 1)).take ((z2 - z1) * 1)) (z2 - z1))) (by kernel_rfl) (slO_t hg17 (sub_sl (iC_len _) (inS_le hg17)))) ?_
   refine EVO.e0 (v := .hs 2 0 ((l.drop (0 : Int).toNat).take (n_5.toNat - (0 : Int).toNat)).length 1) (ws := [(1, .dead), (2, .own (((l.drop (0 : Int).toNat).take (n_5.toNat - (0 : Int).toNat)).flatMap (iC .u32)))]) (Eq.trans (b := appS (decide (((((l.drop (0 : Int).toNat).take (n_5.toNat - (0 : Int).toNat)).flatMap (iC .u32))).length = ((l.drop (0 : Int).toNat).take (n_5.toNat - (0 : Int).toNat)).length * 1)) (((l.drop (0 : Int).toNat).take (n_5.toNat - (0 : Int).toNat)).flatMap (iC .u32)) ((l.drop (0 : Int).toNat).take (n_5.toNat - (0 : Int).toNat)).length (fun z1 z2 => guardO (decide (0 + 0 * 1 ≤ (([] : List Int).flatMap (iC .u32)).length) && decide ((0 + z2) * 4 ≤ 140737488355328) && decide (0 + z2 ≤ 4611686018427387904)) (some (.eff (.hs 2 0 (0 + z2) 1) [(1, .dead), (2, .own (((([] : List Int).flatMap (iC .u32)).drop 0).take (0 * 1) ++ z1))])))) (by kernel_rfl) (appS_t (flat_lenB (iC_len _)) rfl (app_own (l := ([] : List Int)) (xs := (l.drop (0 : Int).toNat).take (n_5.toNat - (0 : Int).toNat)) (iC_len _) rfl rfl rfl hg18 hg19))) ?_
   refine EVO.p1 (.agg [aB false, .hs 2 0 ((l.drop (0 : Int).toNat).take (n_5.toNat - (0 : Int).toNat)).length 1]) ?_
   refine EVO.e1 (.unk) [(0, .own [aB false, .hs 2 0 ((l.drop (0 : Int).toNat).take (n_5.toNat - (0 : Int).toNat)).length 1])] ?_
   refine EVO.done ?_
   refine CQ.ret ?_
   obtain rfl := Option.some.inj hr
   exact FinQ.ret (vs := [.agg [aB false, .hs 2 0 ((l.drop (0 : Int).toNat).take (n_5.toNat - (0 : Int).toNat)).length 1]]) (by kernel_rfl) (Sn.agg (SnL.cons (Sn.pure rfl) (SnL.cons (Sn.hs rfl (.inl rfl) (SnC.pure (ids_flat (iC_pure _) _)) (fun h => flat_nil0 h)) SnL.nil)))

theorem fiducialref01_Of_ok (n : Nat) (n' : Int) (r : api_Int) (hr : fiducialref01_Of n n' = some r) : FnOk Tryz.prog 98 [.at (.int .i64 n')] (.agg [.at (.bool r.Negative), slT (iC .u32) r.Groups]) := by
 unfold fiducialref01_Of at hr
 refine FnOk.body fine Tryz.func98 (c := (Tryz.f98.body).getD .skip) rfl (s := mkS 29 0 [(0, aI64 n')]) (by kernel_rfl) (rs := [.cell 2 35]) rfl ?_
 unfold Tryz.f98
 simp only [Option.getD_some]
 refine CQ.seq ?_
 refine CQ.r0 fine ?_
 refine EVO.e1 (.hp 0 0) [(0, .own [aB false, .at (.slice none 0 0)])] ?_
 refine EVO.done ?_
 refine CQ.seq ?_
 refine CQ.r0 fine ?_
 refine EVO.p1 (aI64 n') ?_
 refine EVO.p1 (aU64 (wrapF .u64 n')) ?_
 refine EVO.p1 (aU64 (wrapF .u64 n')) ?_
 refine EVO.done ?_
 refine CQ.n1 [0, 2, 3] (mkS 29 0 [(0, aI64 n'), (2, .hp 0 0), (3, aU64 (wrapF .u64 n'))]) [.own [aB false, .at (.slice none 0 0)]] ?_
 refine CQ.seq ?_
 refine CQ.seq ?_
 refine CQ.r0 fine ?_
 refine EVO.p1 (aI64 n') ?_
 refine EVO.p1 (aB (decide (n' < 0))) ?_
 refine EVO.done ?_
 refine CQ.n1 [0, 2, 3, 8] (mkS 29 0 [(0, aI64 n'), (2, .hp 0 0), (3, aU64 (wrapF .u64 n')), (8, aB (decide (n' < 0)))]) [.own [aB false, .at (.slice none 0 0)]] ?_
 refine CQ.cond (t := decide (n' < 0)) (by kernel_rfl) (fun hb1 => ?_) (fun hb1 => ?_)
 ·replace hr := cd_t hb1 hr
  refine CQ.r0 fine ?_
  refine EVO.p1 (aI64 n') ?_
  refine EVO.p1 (aI64 (wrapF .i64 (n' + 1))) ?_
  refine EVO.p0 (v := aI64 (wrapF .i64 (0 - (wrapF .i64 (n' + 1))))) (Eq.trans (b := some (.pure (aI64 (IntKind.wrap .i64 (0 - (wrapF .i64 (n' + 1))))))) (by kernel_rfl) wrap_at) ?_
  refine EVO.p1 (aU64 (wrapF .u64 (wrapF .i64 (0 - (wrapF .i64 (n' + 1)))))) ?_
  refine EVO.p1 (aU64 (wrapF .u64 ((wrapF .u64 (wrapF .i64 (0 - (wrapF .i64 (n' + 1))))) + 1))) ?_
  refine EVO.p1 (aU64 (wrapF .u64 ((wrapF .u64 (wrapF .i64 (0 - (wrapF .i64 (n' + 1))))) + 1))) ?_
  refine EVO.done ?_
  refine CQ.n1 [0, 2, 3] (mkS 29 0 [(0, aI64 n'), (2, .hp 0 0), (3, aU64 (wrapF .u64 ((wrapF .u64 (wrapF .i64 (0 - (wrapF .i64 (n' + 1))))) + 1)))]) [.own [aB false, .at (.slice none 0 0)]] ?_
  refine CQ.seq ?_
  refine CQ.r0 fine ?_
  refine EVO.e1 (.hs 1 0 0 1) [(1, .own [])] ?_
  refine EVO.p1 (.hs 1 0 0 1) ?_
  refine EVO.done ?_
  refine CQ.n1 [0, 2, 3, 4] (mkS 29 0 [(0, aI64 n'), (2, .hp 0 0), (3, aU64 (wrapF .u64 ((wrapF .u64 (wrapF .i64 (0 - (wrapF .i64 (n' + 1))))) + 1))), (4, .hs 1 0 0 1)]) [.own [aB false, .at (.slice none 0 0)], .own []] ?_
  refine CQ.seq ?_
  refine CQ.block ?_
  replace hr := bd hr; obtain ⟨l_7, hL13, hr⟩ := hr
  refine CQ.loopO (σ := fun z0 => match z0 with | (u_2, l_3) => ⟨mkS 29 0 [(0, aI64 n'), (2, .hp 0 0), (3, aU64 u_2), (4, .hs 1 0 l_3.length 1)], [.own [aB false, .at (.slice none 0 0)], .own (l_3.flatMap (iC .u32))]⟩) (Q := fun x st' => x = .exit 0 ∧ Wk st' ⟨mkS 29 0 [(0, aI64 n'), (2, .hp 0 0), (4, .hs 1 0 l_7.length 1)], [.own [aB false, .at (.slice none 0 0)], .own (l_7.flatMap (iC .u32))]⟩) hL13 ((Wk.gc [0, 2, 3, 4] [(0, true), (1, false)] rfl ⟨rfl, trivial⟩).to (by kernel_rfl)) ?_ ?_
  ·clear hr
   rintro m ⟨u_2, l_3⟩ hr
   show CQ _ _ _ _ ⟨_, _⟩
   refine CQ.seq ?_
   refine CQ.seq ?_
   refine CQ.r0 fine ?_
   refine EVO.p1 (aU64 u_2) ?_
   refine EVO.p1 (aB (decide (u_2 > 0))) ?_
   refine EVO.done ?_
   refine CQ.n1 [0, 2, 3, 4, 16] (mkS 29 0 [(0, aI64 n'), (2, .hp 0 0), (3, aU64 u_2), (4, .hs 1 0 l_3.length 1), (16, aB (decide (u_2 > 0)))]) [.own [aB false, .at (.slice none 0 0)], .own (l_3.flatMap (iC .u32))] ?_
   refine CQ.cond (t := decide (u_2 > 0)) (by kernel_rfl) (fun hb9 => ?_) (fun hb9 => ?_)
   ·replace hr := cd_t hb9 hr
    refine CQ.skip ?_
    refine CQ.block ?_
    refine CQ.seq ?_
    replace hr := gd hr; obtain ⟨hg10, hr⟩ := hr
    replace hr := gd hr; obtain ⟨hg11, hr⟩ := hr
    refine CQ.r0 fine ?_
    refine EVO.p1 (.hs 1 0 l_3.length 1) ?_
    refine EVO.p1 (aU64 u_2) ?_
    refine EVO.p1 (aU64 (u_2.tmod 1000000000)) ?_
    refine EVO.p1 (aU32 (wrapF .u32 (u_2.tmod 1000000000))) ?_
    refine EVO.e1 (.hs 2 0 1 1) [(2, .own [aU32 (wrapF .u32 (u_2.tmod 1000000000))])] ?_
    refine EVO.e0 (v := .hs 3 0 (l_3 ++ [wrapF .u32 (u_2.tmod 1000000000)]).length 1) (ws := [(1, .dead), (3, .own ((l_3 ++ [wrapF .u32 (u_2.tmod 1000000000)]).flatMap (iC .u32)))]) (Eq.trans (b := guardO (decide (0 + l_3.length * 1 ≤ (l_3.flatMap (iC .u32)).length) && decide ((l_3.length + 1) * 4 ≤ 140737488355328) && decide (l_3.length + 1 ≤ 4611686018427387904)) (some (.eff (.hs 3 0 (l_3.length + 1) 1) [(1, .dead), (3, .own (((l_3.flatMap (iC .u32)).drop 0).take (l_3.length * 1) ++ [aU32 (wrapF .u32 (u_2.tmod 1000000000))]))]))) (by kernel_rfl) (app_own (l := l_3) (xs := [wrapF .u32 (u_2.tmod 1000000000)]) (iC_len _) rfl rfl (by kernel_rfl) hg10 hg11)) ?_
    refine EVO.p1 (.hs 3 0 (l_3 ++ [wrapF .u32 (u_2.tmod 1000000000)]).length 1) ?_
    refine EVO.done ?_
    refine CQ.n1 [0, 2, 3, 4] (mkS 29 0 [(0, aI64 n'), (2, .hp 0 0), (3, aU64 u_2), (4, .hs 3 0 (l_3 ++ [wrapF .u32 (u_2.tmod 1000000000)]).length 1)]) [.own [aB false, .at (.slice none 0 0)], .dead, .own [aU32 (wrapF .u32 (u_2.tmod 1000000000))], .own ((l_3 ++ [wrapF .u32 (u_2.tmod 1000000000)]).flatMap (iC .u32))] ?_
    refine CQ.r0 fine ?_
    refine EVO.p1 (aU64 u_2) ?_
    refine EVO.p1 (aU64 (wrapF .u64 (u_2.tdiv 1000000000))) ?_
    refine EVO.p1 (aU64 (wrapF .u64 (u_2.tdiv 1000000000))) ?_
    refine EVO.done ?_
    refine CQ.pop ?_
    exact loopF_back (wrapF .u64 (u_2.tdiv 1000000000), l_3 ++ [wrapF .u32 (u_2.tmod 1000000000)]) hr ((Wk.gc [0, 2, 3, 4] [(0, true), (3, false)] rfl ⟨ids_flat (iC_pure _) _, trivial⟩).to (by kernel_rfl))
   ·replace hr := cd_f hb9 hr
    refine CQ.leave rfl ?_
    obtain rfl := Option.some.inj hr
    exact ⟨rfl, ((Wk.gc [0, 2, 4] [(0, true), (1, false)] rfl ⟨ids_flat (iC_pure _) _, trivial⟩).to (by kernel_rfl))⟩
  ·rintro x st' hq14
   clear hL13
   obtain ⟨rfl, hq14⟩ := hq14
   refine CQ_exit _ rfl ?_
   refine CQ.wk hq14 ?_
   refine CQ.seq ?_
   replace hr := bd hr; obtain ⟨v15, hc16, hr⟩ := hr
   refine CQ.region fine (callOf_1 109 [aB true, .hs 1 0 l_7.length 1] [.own [aB false, .at (.slice none 0 0)], .own (l_7.flatMap (iC .u32))] (.loc (.agg (api_Int.c v15)) [(1, .fix (l_7.flatMap (iC .u32)))] [1] 0) (callOk_ref (l := [1]) (args' := [aB true, sU32 l_7]) (SnL.cons (Sn.pure rfl) (SnL.cons (Sn.hs rfl (.inl rfl) (SnC.pure (ids_flat (iC_pure _) _)) (fun h => flat_nil0 h)) SnL.nil)) (fiducialref01_made_ok n true l_7 v15 hc16))) ?_
   refine EVO.p1 (aI64 n') ?_
   refine EVO.p0 (v := aB true) (Eq.trans (b := some (.pure (aB (decide (n' < 0))))) (by kernel_rfl) (by rw [hb1])) ?_
   refine EVO.p1 (.hs 1 0 l_7.length 1) ?_
   refine EVO.c0 (by kernel_rfl) (callOf_at (by kernel_rfl)) ?_
   refine EVO.e1 (.unk) [(0, .own (api_Int.c v15))] ?_
   refine EVO.done ?_
   refine CQ.ret ?_
   obtain rfl := Option.some.inj hr
   exact FinQ.r1 [.agg (api_Int.c v15)]
 ·replace hr := cd_f hb1 hr
  refine CQ.skip ?_
  refine CQ.seq ?_
  refine CQ.r0 fine ?_
  refine EVO.e1 (.hs 1 0 0 1) [(1, .own [])] ?_
  refine EVO.p1 (.hs 1 0 0 1) ?_
  refine EVO.done ?_
  refine CQ.n1 [0, 2, 3, 4] (mkS 29 0 [(0, aI64 n'), (2, .hp 0 0), (3, aU64 (wrapF .u64 n')), (4, .hs 1 0 0 1)]) [.own [aB false, .at (.slice none 0 0)], .own []] ?_
  refine CQ.seq ?_
  refine CQ.block ?_
  replace hr := bd hr; obtain ⟨l_22, hL28, hr⟩ := hr
  refine CQ.loopO (σ := fun z0 => match z0 with | (u_17, l_18) => ⟨mkS 29 0 [(0, aI64 n'), (2, .hp 0 0), (3, aU64 u_17), (4, .hs 1 0 l_18.length 1)], [.own [aB false, .at (.slice none 0 0)], .own (l_18.flatMap (iC .u32))]⟩) (Q := fun x st' => x = .exit 0 ∧ Wk st' ⟨mkS 29 0 [(0, aI64 n'), (2, .hp 0 0), (4, .hs 1 0 l_22.length 1)], [.own [aB false, .at (.slice none 0 0)], .own (l_22.flatMap (iC .u32))]⟩) hL28 ((Wk.gc [0, 2, 3, 4] [(0, true), (1, false)] rfl ⟨rfl, trivial⟩).to (by kernel_rfl)) ?_ ?_
  ·clear hr
   rintro m ⟨u_17, l_18⟩ hr
   show CQ _ _ _ _ ⟨_, _⟩
   refine CQ.seq ?_
   refine CQ.seq ?_
   refine CQ.r0 fine ?_
   refine EVO.p1 (aU64 u_17) ?_
   refine EVO.p1 (aB (decide (u_17 > 0))) ?_
   refine EVO.done ?_
   refine CQ.n1 [0, 2, 3, 4, 16] (mkS 29 0 [(0, aI64 n'), (2, .hp 0 0), (3, aU64 u_17), (4, .hs 1 0 l_18.length 1), (16, aB (decide (u_17 > 0)))]) [.own [aB false, .at (.slice none 0 0)], .own (l_18.flatMap (iC .u32))] ?_
   refine CQ.cond (t := decide (u_17 > 0)) (by kernel_rfl) (fun hb24 => ?_) (fun hb24 => ?_)
   ·replace hr := cd_t hb24 hr
    refine CQ.skip ?_
    refine CQ.block ?_
    refine CQ.seq ?_
    replace hr := gd hr; obtain ⟨hg25, hr⟩ := hr
    replace hr := gd hr; obtain ⟨hg26, hr⟩ := hr
    refine CQ.r0 fine ?_
    refine EVO.p1 (.hs 1 0 l_18.length 1) ?_
    refine EVO.p1 (aU64 u_17) ?_
    refine EVO.p1 (aU64 (u_17.tmod 1000000000)) ?_
    refine EVO.p1 (aU32 (wrapF .u32 (u_17.tmod 1000000000))) ?_
    refine EVO.e1 (.hs 2 0 1 1) [(2, .own [aU32 (wrapF .u32 (u_17.tmod 1000000000))])] ?_
    refine EVO.e0 (v := .hs 3 0 (l_18 ++ [wrapF .u32 (u_17.tmod 1000000000)]).length 1) (ws := [(1, .dead), (3, .own ((l_18 ++ [wrapF .u32 (u_17.tmod 1000000000)]).flatMap (iC .u32)))]) (Eq.trans (b := guardO (decide (0 + l_18.length * 1 ≤ (l_18.flatMap (iC .u32)).length) && decide ((l_18.length + 1) * 4 ≤ 140737488355328) && decide (l_18.length + 1 ≤ 4611686018427387904)) (some (.eff (.hs 3 0 (l_18.length + 1) 1) [(1, .dead), (3, .own (((l_18.flatMap (iC .u32)).drop 0).take (l_18.length * 1) ++ [aU32 (wrapF .u32 (u_17.tmod 1000000000))]))]))) (by kernel_rfl) (app_own (l := l_18) (xs := [wrapF .u32 (u_17.tmod 1000000000)]) (iC_len _) rfl rfl (by kernel_rfl) hg25 hg26)) ?_
    refine EVO.p1 (.hs 3 0 (l_18 ++ [wrapF .u32 (u_17.tmod 1000000000)]).length 1) ?_
    refine EVO.done ?_
    refine CQ.n1 [0, 2, 3, 4] (mkS 29 0 [(0, aI64 n'), (2, .hp 0 0), (3, aU64 u_17), (4, .hs 3 0 (l_18 ++ [wrapF .u32 (u_17.tmod 1000000000)]).length 1)]) [.own [aB false, .at (.slice none 0 0)], .dead, .own [aU32 (wrapF .u32 (u_17.tmod 1000000000))], .own ((l_18 ++ [wrapF .u32 (u_17.tmod 1000000000)]).flatMap (iC .u32))] ?_
    refine CQ.r0 fine ?_
    refine EVO.p1 (aU64 u_17) ?_
    refine EVO.p1 (aU64 (wrapF .u64 (u_17.tdiv 1000000000))) ?_
    refine EVO.p1 (aU64 (wrapF .u64 (u_17.tdiv 1000000000))) ?_
    refine EVO.done ?_
    refine CQ.pop ?_
    exact loopF_back (wrapF .u64 (u_17.tdiv 1000000000), l_18 ++ [wrapF .u32 (u_17.tmod 1000000000)]) hr ((Wk.gc [0, 2, 3, 4] [(0, true), (3, false)] rfl ⟨ids_flat (iC_pure _) _, trivial⟩).to (by kernel_rfl))
   ·replace hr := cd_f hb24 hr
    refine CQ.leave rfl ?_
    obtain rfl := Option.some.inj hr
    exact ⟨rfl, ((Wk.gc [0, 2, 4] [(0, true), (1, false)] rfl ⟨ids_flat (iC_pure _) _, trivial⟩).to (by kernel_rfl))⟩
  ·rintro x st' hq29
   clear hL28
   obtain ⟨rfl, hq29⟩ := hq29
   refine CQ_exit _ rfl ?_
   refine CQ.wk hq29 ?_
   refine CQ.seq ?_
   replace hr := bd hr; obtain ⟨v30, hc31, hr⟩ := hr
   refine CQ.region fine (callOf_1 109 [aB false, .hs 1 0 l_22.length 1] [.own [aB false, .at (.slice none 0 0)], .own (l_22.flatMap (iC .u32))] (.loc (.agg (api_Int.c v30)) [(1, .fix (l_22.flatMap (iC .u32)))] [1] 0) (callOk_ref (l := [1]) (args' := [aB false, sU32 l_22]) (SnL.cons (Sn.pure rfl) (SnL.cons (Sn.hs rfl (.inl rfl) (SnC.pure (ids_flat (iC_pure _) _)) (fun h => flat_nil0 h)) SnL.nil)) (fiducialref01_made_ok n false l_22 v30 hc31))) ?_
   refine EVO.p1 (aI64 n') ?_
   refine EVO.p0 (v := aB false) (Eq.trans (b := some (.pure (aB (decide (n' < 0))))) (by kernel_rfl) (by rw [hb1])) ?_
   refine EVO.p1 (.hs 1 0 l_22.length 1) ?_
   refine EVO.c0 (by kernel_rfl) (callOf_at (by kernel_rfl)) ?_
   refine EVO.e1 (.unk) [(0, .own (api_Int.c v30))] ?_
   refine EVO.done ?_
   refine CQ.ret ?_
   obtain rfl := Option.some.inj hr
   exact FinQ.r1 [.agg (api_Int.c v30)]

theorem fiducialref02_whole_inj {n' : Int} {n'_ : Int} (h : ([.at (.int .i64 n')] : List AV) = [.at (.int .i64 n'_)]) : n' = n'_ := by
 simp only [List.cons.injEq, AV.agg.injEq, AV.at.injEq, Value.int.injEq, Value.bool.injEq, AV.fn.injEq, AV.pp.injEq, true_and, and_true] at h
 simp_all
theorem fiducialref02_whole_ok (n : Nat) (n' : Int) (r : api_Int) (hr : fiducialref02_whole n n' = some r) : FnOk Tryz.prog 55 [.at (.int .i64 n')] (.agg [.at (.bool r.Negative), slT (iC .u32) r.Groups]) := by
 unfold fiducialref02_whole at hr
 refine FnOk.body fine Tryz.func55 (c := (Tryz.f55.body).getD .skip) rfl (s := mkS 5 0 [(0, aI64 n')]) (by kernel_rfl) (rs := [.cell 2 35]) rfl ?_
 unfold Tryz.f55
 simp only [Option.getD_some]
 refine CQ.seq ?_
 refine CQ.r0 fine ?_
 refine EVO.e1 (.hp 0 0) [(0, .own [aB false, .at (.slice none 0 0)])] ?_
 refine EVO.done ?_
 refine CQ.seq ?_
 replace hr := bd hr; obtain ⟨v1, hc2, hr⟩ := hr
 refine CQ.region fine (callOf_1 98 [aI64 n'] [.own [aB false, .at (.slice none 0 0)]] (.loc (.agg (api_Int.c v1)) [] [] 0) (callOk_ref (l := []) (args' := [aI64 n']) (SnL.cons (Sn.pure rfl) SnL.nil) (fiducialref01_Of_ok n n' v1 hc2))) ?_
 refine EVO.p1 (aI64 n') ?_
 refine EVO.c0 (by kernel_rfl) (callOf_at (by kernel_rfl)) ?_
 refine EVO.e1 (.unk) [(0, .own (api_Int.c v1))] ?_
 refine EVO.done ?_
 refine CQ.ret ?_
 obtain rfl := Option.some.inj hr
 exact FinQ.r1 [.agg (api_Int.c v1)]

theorem fiducialref02_Whole_inj {n' : Int} {n'_ : Int} (h : ([.at (.int .i64 n')] : List AV) = [.at (.int .i64 n'_)]) : n' = n'_ := by
 simp only [List.cons.injEq, AV.agg.injEq, AV.at.injEq, Value.int.injEq, Value.bool.injEq, AV.fn.injEq, AV.pp.injEq, true_and, and_true] at h
 simp_all
theorem fiducialref02_Whole_ok (n : Nat) (n' : Int) (r : api_Rat) (hr : fiducialref02_Whole n n' = some r) : FnOk Tryz.prog 22 [.at (.int .i64 n')] (.agg [.at (.bool r.Num.Negative), slT (iC .u32) r.Num.Groups, .at (.bool r.Den.Negative), slT (iC .u32) r.Den.Groups]) := by
 unfold fiducialref02_Whole at hr
 refine FnOk.body fine Tryz.func22 (c := (Tryz.f22.body).getD .skip) rfl (s := mkS 7 0 [(0, aI64 n')]) (by kernel_rfl) (rs := [.cell 2 37]) rfl ?_
 unfold Tryz.f22
 simp only [Option.getD_some]
 refine CQ.seq ?_
 refine CQ.r0 fine ?_
 refine EVO.e1 (.hp 0 0) [(0, .own [aB false, .at (.slice none 0 0), aB false, .at (.slice none 0 0)])] ?_
 refine EVO.done ?_
 refine CQ.seq ?_
 replace hr := bd hr; obtain ⟨v1, hc2, hr⟩ := hr
 replace hr := bd hr; obtain ⟨v3, hc4, hr⟩ := hr
 refine CQ.region fine (callOf_ok [{ f := 55, args := [aI64 n'], H := [.own [aB false, .at (.slice none 0 0), aB false, .at (.slice none 0 0)]], r := .loc (.agg (api_Int.c v1)) [] [] 0 : CE }, { f := 55, args := [aI64 1], H := [.own [aB false, .at (.slice none 0 0), aB false, .at (.slice none 0 0)]], r := .loc (.agg (api_Int.c v3)) [] [] 0 : CE }] (List.forall_mem_cons.2 ⟨(callOk_ref (l := []) (args' := [aI64 n']) (SnL.cons (Sn.pure rfl) SnL.nil) (fiducialref02_whole_ok n n' v1 hc2)), (List.forall_mem_cons.2 ⟨(callOk_ref (l := []) (args' := [aI64 1]) (SnL.cons (Sn.pure rfl) SnL.nil) (fiducialref02_whole_ok n 1 v3 hc4)), ce0⟩)⟩)) ?_
 refine EVO.p1 (aI64 n') ?_
 refine EVO.c0 (by kernel_rfl) (callOf_at (by kernel_rfl)) ?_
 refine EVO.c0 (by kernel_rfl) (callOf_skip (fun _ h => by obtain e0 := fiducialref02_whole_inj h; rw [show v3 = v1 from Option.some.inj (hc4.symm.trans ((show fiducialref02_whole n 1 = fiducialref02_whole n n' from (congr rfl e0)).trans hc2))]) (callOf_at (by kernel_rfl))) ?_
 refine EVO.p1 (.agg [aB v1.Negative, sU32 v1.Groups, aB v3.Negative, sU32 v3.Groups]) ?_
 refine EVO.e1 (.unk) [(0, .own [aB v1.Negative, sU32 v1.Groups, aB v3.Negative, sU32 v3.Groups])] ?_
 refine EVO.done ?_
 refine CQ.ret ?_
 obtain rfl := Option.some.inj hr
 exact FinQ.r1 [.agg [aB v1.Negative, sU32 v1.Groups, aB v3.Negative, sU32 v3.Groups]]

theorem fiducialref03_Whole_inj {low : Int} {high : Int} {low_ : Int} {high_ : Int} (h : ([.at (.int .i64 low), .at (.int .i64 high)] : List AV) = [.at (.int .i64 low_), .at (.int .i64 high_)]) : low = low_ ∧ high = high_ := by
 simp only [List.cons.injEq, AV.agg.injEq, AV.at.injEq, Value.int.injEq, Value.bool.injEq, AV.fn.injEq, AV.pp.injEq, true_and, and_true] at h
 simp_all
theorem fiducialref03_Whole_ok (n : Nat) (low : Int) (high : Int) (r : api_Range) (hr : fiducialref03_Whole n low high = some r) : FnOk Tryz.prog 47 [.at (.int .i64 low), .at (.int .i64 high)] (.agg [.at (.bool r.Low.Num.Negative), slT (iC .u32) r.Low.Num.Groups, .at (.bool r.Low.Den.Negative), slT (iC .u32) r.Low.Den.Groups, .at (.bool r.High.Num.Negative), slT (iC .u32) r.High.Num.Groups, .at (.bool r.High.Den.Negative), slT (iC .u32) r.High.Den.Groups]) := by
 unfold fiducialref03_Whole at hr
 refine FnOk.body fine Tryz.func47 (c := (Tryz.f47.body).getD .skip) rfl (s := mkS 10 0 [(0, aI64 low), (1, aI64 high)]) (by kernel_rfl) (rs := [.cell 4 39]) rfl ?_
 unfold Tryz.f47
 simp only [Option.getD_some]
 refine CQ.seq ?_
 refine CQ.r0 fine ?_
 refine EVO.e1 (.hp 0 0) [(0, .own [aB false, .at (.slice none 0 0), aB false, .at (.slice none 0 0), aB false, .at (.slice none 0 0), aB false, .at (.slice none 0 0)])] ?_
 refine EVO.done ?_
 refine CQ.seq ?_
 replace hr := bd hr; obtain ⟨v1, hc2, hr⟩ := hr
 replace hr := bd hr; obtain ⟨v3, hc4, hr⟩ := hr
 refine CQ.region fine (callOf_ok [{ f := 22, args := [aI64 low], H := [.own [aB false, .at (.slice none 0 0), aB false, .at (.slice none 0 0), aB false, .at (.slice none 0 0), aB false, .at (.slice none 0 0)]], r := .loc (.agg (api_Rat.c v1)) [] [] 0 : CE }, { f := 22, args := [aI64 high], H := [.own [aB false, .at (.slice none 0 0), aB false, .at (.slice none 0 0), aB false, .at (.slice none 0 0), aB false, .at (.slice none 0 0)]], r := .loc (.agg (api_Rat.c v3)) [] [] 0 : CE }] (List.forall_mem_cons.2 ⟨(callOk_ref (l := []) (args' := [aI64 low]) (SnL.cons (Sn.pure rfl) SnL.nil) (fiducialref02_Whole_ok n low v1 hc2)), (List.forall_mem_cons.2 ⟨(callOk_ref (l := []) (args' := [aI64 high]) (SnL.cons (Sn.pure rfl) SnL.nil) (fiducialref02_Whole_ok n high v3 hc4)), ce0⟩)⟩)) ?_
 refine EVO.p1 (aI64 low) ?_
 refine EVO.c0 (by kernel_rfl) (callOf_at (by kernel_rfl)) ?_
 refine EVO.p1 (aI64 high) ?_
 refine EVO.c0 (by kernel_rfl) (callOf_skip (fun _ h => by obtain e0 := fiducialref02_Whole_inj h; rw [show v3 = v1 from Option.some.inj (hc4.symm.trans ((show fiducialref02_Whole n high = fiducialref02_Whole n low from (congr rfl e0)).trans hc2))]) (callOf_at (by kernel_rfl))) ?_
 refine EVO.p1 (.agg [aB v1.Num.Negative, sU32 v1.Num.Groups, aB v1.Den.Negative, sU32 v1.Den.Groups, aB v3.Num.Negative, sU32 v3.Num.Groups, aB v3.Den.Negative, sU32 v3.Den.Groups]) ?_
 refine EVO.e1 (.unk) [(0, .own [aB v1.Num.Negative, sU32 v1.Num.Groups, aB v1.Den.Negative, sU32 v1.Den.Groups, aB v3.Num.Negative, sU32 v3.Num.Groups, aB v3.Den.Negative, sU32 v3.Den.Groups])] ?_
 refine EVO.done ?_
 refine CQ.ret ?_
 obtain rfl := Option.some.inj hr
 exact FinQ.r1 [.agg [aB v1.Num.Negative, sU32 v1.Num.Groups, aB v1.Den.Negative, sU32 v1.Den.Groups, aB v3.Num.Negative, sU32 v3.Num.Groups, aB v3.Den.Negative, sU32 v3.Den.Groups]]

theorem fiducialref01_Valid_inj {x' : api_Int} {x'_ : api_Int} (h : ([.agg [.at (.bool x'.Negative), slT (iC .u32) x'.Groups]] : List AV) = [.agg [.at (.bool x'_.Negative), slT (iC .u32) x'_.Groups]]) : x' = x'_ := by
 obtain ⟨_, _⟩ := x'
 obtain ⟨_, _⟩ := x'_
 simp only [List.cons.injEq, AV.agg.injEq, AV.at.injEq, Value.int.injEq, Value.bool.injEq, AV.fn.injEq, AV.pp.injEq, true_and, and_true, slT_inj_int] at h
 simp_all
theorem fiducialref01_Valid_ok (n : Nat) (x' : api_Int) (r : Bool) (hr : fiducialref01_Valid n x' = some r) : FnOk Tryz.prog 121 [.agg [.at (.bool x'.Negative), slT (iC .u32) x'.Groups]] (.at (.bool r)) := by
 unfold fiducialref01_Valid at hr
 refine FnOk.body fine Tryz.func121 (c := (Tryz.f121.body).getD .skip) rfl (s := mkS 31 0 [(0, .agg (api_Int.c x'))]) (by kernel_rfl) (rs := [.tmp 2]) rfl ?_
 unfold Tryz.f121
 simp only [Option.getD_some]
 refine CQ.seq ?_
 refine CQ.r0 fine ?_
 refine EVO.e1 (.hp 0 0) [(0, .own (api_Int.c x'))] ?_
 refine EVO.p1 (aB false) ?_
 refine EVO.done ?_
 refine CQ.n1 [1] (mkS 31 0 [(1, .hp 0 0)]) [.own (api_Int.c x')] ?_
 refine CQ.seq ?_
 refine CQ.r0 fine ?_
 refine EVO.p1 (.hp 0 1) ?_
 refine EVO.p1 (sU32 x'.Groups) ?_
 refine EVO.p1 (aI64 (x'.Groups.length : Int)) ?_
 refine EVO.p1 (aI64 (x'.Groups.length : Int)) ?_
 refine EVO.done ?_
 refine CQ.n1 [1, 3] (mkS 31 0 [(1, .hp 0 0), (3, aI64 (x'.Groups.length : Int))]) [.own (api_Int.c x')] ?_
 refine CQ.seq ?_
 refine CQ.seq ?_
 refine CQ.r0 fine ?_
 refine EVO.p1 (aI64 0) ?_
 refine EVO.done ?_
 refine CQ.block ?_
 replace hr := bd hr; obtain ⟨o9, hL10, hr⟩ := hr
 refine CQ.loopO (σ := fun z0 => match z0 with | i_1 => ⟨mkS 31 0 [(1, .hp 0 0), (3, aI64 (x'.Groups.length : Int)), (4, aI64 i_1)], [.own (api_Int.c x')]⟩) (Q := fun x st' => match (generalizing := false) o9 with | .inl _ => x = .exit 0 ∧ Wk st' ⟨mkS 31 0 [(1, .hp 0 0), (3, aI64 (x'.Groups.length : Int))], [.own (api_Int.c x')]⟩ | .inr (r0) => x = .ret ∧ FinQ Tryz.prog [.tmp 2] (aB r0) .ret st') hL10 ((Wk.gc [1, 3, 4] [(0, true)] rfl trivial).to (by kernel_rfl)) ?_ ?_
 ·clear hr
  rintro m i_1 hr
  show CQ _ _ _ _ ⟨_, _⟩
  refine CQ.seq ?_
  refine CQ.seq ?_
  refine CQ.r0 fine ?_
  refine EVO.p1 (aI64 i_1) ?_
  refine EVO.p1 (aI64 (x'.Groups.length : Int)) ?_
  refine EVO.p1 (aB (decide (i_1 < (x'.Groups.length : Int)))) ?_
  refine EVO.done ?_
  refine CQ.n1 [1, 3, 4, 10] (mkS 31 0 [(1, .hp 0 0), (3, aI64 (x'.Groups.length : Int)), (4, aI64 i_1), (10, aB (decide (i_1 < (x'.Groups.length : Int))))]) [.own (api_Int.c x')] ?_
  refine CQ.cond (t := decide (i_1 < (x'.Groups.length : Int))) (by kernel_rfl) (fun hb6 => ?_) (fun hb6 => ?_)
  ·replace hr := cd_t hb6 hr
   refine CQ.skip ?_
   refine CQ.seq ?_
   refine CQ.block ?_
   refine CQ.seq ?_
   replace hr := gd hr; obtain ⟨hg7, hr⟩ := hr
   refine CQ.r0 fine ?_
   refine EVO.p1 (.hp 0 1) ?_
   refine EVO.p1 (sU32 x'.Groups) ?_
   refine EVO.p1 (aI64 i_1) ?_
   refine EVO.p0 (v := .pp (x'.Groups.flatMap (iC .u32)) (i_1.toNat * 1)) (Eq.trans (b := ORes.ofP (guardV (inR i_1 x'.Groups.length) (.pp (x'.Groups.flatMap (iC .u32)) (i_1.toNat * 1)))) (by kernel_rfl) (ofP_guard hg7)) ?_
   refine EVO.p0 (v := aU32 (gt x'.Groups i_1)) (Eq.trans (b := ORes.ofP ((x'.Groups.flatMap (iC .u32))[i_1.toNat * 1]?)) (by kernel_rfl) (ofP_some (flat_get (iC_len _) (inR_lt hg7) (by decide : 0 < 1) (by omega : i_1.toNat * 1 = i_1.toNat * 1 + 0) (by kernel_rfl)))) ?_
   refine EVO.p1 (aB (decide ((gt x'.Groups i_1) ≥ 1000000000))) ?_
   refine EVO.done ?_
   refine CQ.n1 [1, 3, 4, 18] (mkS 31 0 [(1, .hp 0 0), (3, aI64 (x'.Groups.length : Int)), (4, aI64 i_1), (18, aB (decide ((gt x'.Groups i_1) ≥ 1000000000)))]) [.own (api_Int.c x')] ?_
   refine CQ.cond (t := decide ((gt x'.Groups i_1) ≥ 1000000000)) (by kernel_rfl) (fun hb8 => ?_) (fun hb8 => ?_)
   ·replace hr := cd_t hb8 hr
    refine CQ.seq ?_
    refine CQ.r0 fine ?_
    refine EVO.p1 (aB false) ?_
    refine EVO.done ?_
    refine CQ.ret ?_
    obtain rfl := Option.some.inj hr
    exact ⟨rfl, FinQ.ret (vs := [aB false]) (by kernel_rfl) (Sn.pure rfl)⟩
   ·replace hr := cd_f hb8 hr
    refine CQ.skip ?_
    refine CQ.pop ?_
    refine CQ.r0 fine ?_
    refine EVO.p1 (aI64 i_1) ?_
    refine EVO.p1 (aI64 (wrapF .i64 (i_1 + 1))) ?_
    refine EVO.p1 (aI64 (wrapF .i64 (i_1 + 1))) ?_
    refine EVO.done ?_
    exact loopF_back (wrapF .i64 (i_1 + 1)) hr ((Wk.gc [1, 3, 4] [(0, true)] rfl trivial).to (by kernel_rfl))
  ·replace hr := cd_f hb6 hr
   refine CQ.leave rfl ?_
   obtain rfl := Option.some.inj hr
   exact ⟨rfl, ((Wk.gc [1, 3] [(0, true)] rfl trivial).to (by kernel_rfl))⟩
 ·rcases o9 with ⟨⟩ | r0
  ·rintro x st' hq11
   clear hL10
   obtain ⟨rfl, hq11⟩ := hq11
   refine CQ_exit _ rfl ?_
   refine CQ.wk hq11 ?_
   refine CQ.seq ?_
   refine CQ.seq ?_
   refine CQ.r0 fine ?_
   refine EVO.p1 (aI64 (x'.Groups.length : Int)) ?_
   refine EVO.p1 (aB (((x'.Groups.length : Int) : Int) == 0)) ?_
   refine EVO.done ?_
   refine CQ.n1 [1, 3, 20] (mkS 31 0 [(1, .hp 0 0), (3, aI64 (x'.Groups.length : Int)), (20, aB (((x'.Groups.length : Int) : Int) == 0))]) [.own (api_Int.c x')] ?_
   refine CQ.cond (t := ((x'.Groups.length : Int) : Int) == 0) (by kernel_rfl) (fun hb12 => ?_) (fun hb12 => ?_)
   ·replace hr := cd_t hb12 hr
    refine CQ.seq ?_
    refine CQ.r0 fine ?_
    refine EVO.p1 (.hp 0 0) ?_
    refine EVO.p1 (aB x'.Negative) ?_
    refine EVO.p1 (aB (!x'.Negative)) ?_
    refine EVO.p1 (aB (!x'.Negative)) ?_
    refine EVO.done ?_
    refine CQ.ret ?_
    obtain rfl := Option.some.inj hr
    exact FinQ.r1 [aB (!x'.Negative)]
   ·replace hr := cd_f hb12 hr
    refine CQ.skip ?_
    refine CQ.seq ?_
    replace hr := gd hr; obtain ⟨hg13, hr⟩ := hr
    refine CQ.r0 fine ?_
    refine EVO.p1 (.hp 0 1) ?_
    refine EVO.p1 (sU32 x'.Groups) ?_
    refine EVO.p1 (aI64 (x'.Groups.length : Int)) ?_
    refine EVO.p1 (aI64 (wrapF .i64 ((x'.Groups.length : Int) - 1))) ?_
    refine EVO.p0 (v := .pp (x'.Groups.flatMap (iC .u32)) ((wrapF .i64 ((x'.Groups.length : Int) - 1)).toNat * 1)) (Eq.trans (b := ORes.ofP (guardV (inR (wrapF .i64 ((x'.Groups.length : Int) - 1)) x'.Groups.length) (.pp (x'.Groups.flatMap (iC .u32)) ((wrapF .i64 ((x'.Groups.length : Int) - 1)).toNat * 1)))) (by kernel_rfl) (ofP_guard hg13)) ?_
    refine EVO.p0 (v := aU32 (gt x'.Groups (wrapF .i64 ((x'.Groups.length : Int) - 1)))) (Eq.trans (b := ORes.ofP ((x'.Groups.flatMap (iC .u32))[(wrapF .i64 ((x'.Groups.length : Int) - 1)).toNat * 1]?)) (by kernel_rfl) (ofP_some (flat_get (iC_len _) (inR_lt hg13) (by decide : 0 < 1) (by omega : (wrapF .i64 ((x'.Groups.length : Int) - 1)).toNat * 1 = (wrapF .i64 ((x'.Groups.length : Int) - 1)).toNat * 1 + 0) (by kernel_rfl)))) ?_
    refine EVO.p1 (aB (((gt x'.Groups (wrapF .i64 ((x'.Groups.length : Int) - 1))) : Int) != 0)) ?_
    refine EVO.p1 (aB (((gt x'.Groups (wrapF .i64 ((x'.Groups.length : Int) - 1))) : Int) != 0)) ?_
    refine EVO.done ?_
    refine CQ.ret ?_
    obtain rfl := Option.some.inj hr
    exact FinQ.r1 [aB (((gt x'.Groups (wrapF .i64 ((x'.Groups.length : Int) - 1))) : Int) != 0)]
  ·rintro x st' hq11
   clear hL10
   obtain ⟨rfl, hq11⟩ := hq11
   obtain rfl := Option.some.inj hr
   exact CQ_ret _ hq11

theorem fiducialref01_Value_inj {x' : api_Int} {x'_ : api_Int} (h : ([.agg [.at (.bool x'.Negative), slT (iC .u32) x'.Groups]] : List AV) = [.agg [.at (.bool x'_.Negative), slT (iC .u32) x'_.Groups]]) : x' = x'_ := by
 obtain ⟨_, _⟩ := x'
 obtain ⟨_, _⟩ := x'_
 simp only [List.cons.injEq, AV.agg.injEq, AV.at.injEq, Value.int.injEq, Value.bool.injEq, AV.fn.injEq, AV.pp.injEq, true_and, and_true, slT_inj_int] at h
 simp_all
theorem fiducialref01_Value_ok (n : Nat) (x' : api_Int) (r : api_Int) (hr : fiducialref01_Value n x' = some r) : FnOk Tryz.prog 108 [.agg [.at (.bool x'.Negative), slT (iC .u32) x'.Groups]] (.agg [.at (.bool r.Negative), slT (iC .u32) r.Groups]) := by
 unfold fiducialref01_Value at hr
 refine FnOk.body fine Tryz.func108 (c := (Tryz.f108.body).getD .skip) rfl (s := mkS 14 0 [(0, .agg (api_Int.c x'))]) (by kernel_rfl) (rs := [.cell 2 35]) rfl ?_
 unfold Tryz.f108
 simp only [Option.getD_some]
 refine CQ.seq ?_
 refine CQ.r0 fine ?_
 refine EVO.e1 (.hp 0 0) [(0, .own (api_Int.c x'))] ?_
 refine EVO.e1 (.hp 1 0) [(1, .own [aB false, .at (.slice none 0 0)])] ?_
 refine EVO.done ?_
 refine CQ.n1 [1, 2] (mkS 14 0 [(1, .hp 0 0), (2, .hp 1 0)]) [.own (api_Int.c x'), .own [aB false, .at (.slice none 0 0)]] ?_
 refine CQ.seq ?_
 refine CQ.seq ?_
 replace hr := bd hr; obtain ⟨v1, hc2, hr⟩ := hr
 refine CQ.region fine (callOf_1 121 [.agg (api_Int.c x')] [.own (api_Int.c x'), .own [aB false, .at (.slice none 0 0)]] (.loc (aB v1) [] [] 0) (callOk_val (l := []) (args' := [.agg (api_Int.c x')]) rfl (SnL.cons (Sn.pure rfl) SnL.nil) (fiducialref01_Valid_ok n x' v1 hc2))) ?_
 refine EVO.p1 (.agg (api_Int.c x')) ?_
 refine EVO.c0 (by kernel_rfl) (callOf_at (by kernel_rfl)) ?_
 refine EVO.p1 (aB (!v1)) ?_
 refine EVO.done ?_
 refine CQ.n1 [1, 2, 5] (mkS 14 0 [(1, .hp 0 0), (2, .hp 1 0), (5, aB (!v1))]) [.own (api_Int.c x'), .own [aB false, .at (.slice none 0 0)]] ?_
 refine CQ.cond (t := !v1) (by kernel_rfl) (fun hb3 => ?_) (fun hb3 => ?_)
 ·replace hr := cd_t hb3 hr
  refine CQ.seq ?_
  refine CQ.r0 fine ?_
  refine EVO.p1 (.agg [aB false, .at (.slice none 0 0)]) ?_
  refine EVO.e1 (.unk) [(1, .own [aB false, .at (.slice none 0 0)])] ?_
  refine EVO.done ?_
  refine CQ.ret ?_
  obtain rfl := Option.some.inj hr
  exact FinQ.ret (vs := [.agg [aB false, .at (.slice none 0 0)]]) (by kernel_rfl) (Sn.agg (SnL.cons (Sn.pure rfl) (SnL.cons Sn.nilsl SnL.nil)))
 ·replace hr := cd_f hb3 hr
  refine CQ.skip ?_
  refine CQ.seq ?_
  replace hr := gd hr; obtain ⟨hg4, hr⟩ := hr
  replace hr := gd hr; obtain ⟨hg5, hr⟩ := hr
  refine CQ.regionT fine callOf_nil ?_
  refine EVT.p1 (.hp 0 0) ?_
  refine EVT.p1 (aB x'.Negative) ?_
  refine EVT.e1 (.hs 2 0 0 1) [(2, .own [])] ?_
  refine EVT.p1 (.hp 0 1) ?_
  refine EVT.p1 (sU32 x'.Groups) ?_
  refine EVT.eff (v := .hs 3 0 x'.Groups.length 1) (ws := [(2, .dead), (3, .own (x'.Groups.flatMap (iC .u32)))]) (by kernel_rfl) (Eq.trans (b := appS (decide (((x'.Groups.flatMap (iC .u32))).length = x'.Groups.length * 1)) (x'.Groups.flatMap (iC .u32)) x'.Groups.length (fun z1 z2 => guardO (decide (0 + 0 * 1 ≤ (([] : List Int).flatMap (iC .u32)).length) && decide ((0 + z2) * 4 ≤ 140737488355328) && decide (0 + z2 ≤ 4611686018427387904)) (some (.eff (.hs 3 0 (0 + z2) 1) [(2, .dead), (3, .own (((([] : List Int).flatMap (iC .u32)).drop 0).take (0 * 1) ++ z1))])))) (by kernel_rfl) (appS_t (flat_lenB (iC_len _)) rfl (app_own (l := ([] : List Int)) (xs := x'.Groups) (iC_len _) rfl rfl rfl hg4 hg5))) (by kernel_rfl) ?_
  refine EVT.p1 (.agg [aB x'.Negative, .hs 3 0 x'.Groups.length 1]) ?_
  refine EVT.e1 (.unk) [(1, .own [aB x'.Negative, .hs 3 0 x'.Groups.length 1])] ?_
  refine EVT.done ⟨by kernel_rfl, ?_⟩
  refine CQ.ret ?_
  obtain rfl := Option.some.inj hr
  exact FinQ.ret (vs := [.agg [aB x'.Negative, .hs 3 0 x'.Groups.length 1]]) (by kernel_rfl) (Sn.agg (SnL.cons (Sn.pure rfl) (SnL.cons (Sn.hs rfl (.inl rfl) (SnC.pure (ids_flat (iC_pure _) _)) (fun h => flat_nil0 h)) SnL.nil)))

theorem fiducialref01_Sign_ok (n : Nat) (x' : api_Int) (r : Int) (hr : fiducialref01_Sign n x' = some r) : FnOk Tryz.prog 75 [.agg [.at (.bool x'.Negative), slT (iC .u32) x'.Groups]] (.at (.int .i64 r)) := by
 unfold fiducialref01_Sign at hr
 refine FnOk.body fine Tryz.func75 (c := (Tryz.f75.body).getD .skip) rfl (s := mkS 11 0 [(0, .agg (api_Int.c x'))]) (by kernel_rfl) (rs := [.tmp 2]) rfl ?_
 unfold Tryz.f75
 simp only [Option.getD_some]
 refine CQ.seq ?_
 refine CQ.r0 fine ?_
 refine EVO.e1 (.hp 0 0) [(0, .own (api_Int.c x'))] ?_
 refine EVO.p1 (aI64 0) ?_
 refine EVO.done ?_
 refine CQ.n1 [1] (mkS 11 0 [(1, .hp 0 0)]) [.own (api_Int.c x')] ?_
 refine CQ.seq ?_
 replace hr := bd hr; obtain ⟨v1, hc2, hr⟩ := hr
 refine CQ.region fine (callOf_1 108 [.agg (api_Int.c x')] [.own (api_Int.c x')] (.loc (.agg (api_Int.c v1)) [] [] 0) (callOk_ref (l := []) (args' := [.agg (api_Int.c x')]) (SnL.cons (Sn.pure rfl) SnL.nil) (fiducialref01_Value_ok n x' v1 hc2))) ?_
 refine EVO.p1 (.agg (api_Int.c x')) ?_
 refine EVO.c0 (by kernel_rfl) (callOf_at (by kernel_rfl)) ?_
 refine EVO.e1 (.unk) [(0, .own (api_Int.c v1))] ?_
 refine EVO.done ?_
 refine CQ.n1 [1] (mkS 11 0 [(1, .hp 0 0)]) [.own (api_Int.c v1)] ?_
 refine CQ.seq ?_
 refine CQ.seq ?_
 refine CQ.r0 fine ?_
 refine EVO.p1 (.hp 0 1) ?_
 refine EVO.p1 (sU32 v1.Groups) ?_
 refine EVO.p1 (aI64 (v1.Groups.length : Int)) ?_
 refine EVO.p1 (aB (((v1.Groups.length : Int) : Int) == 0)) ?_
 refine EVO.done ?_
 refine CQ.n1 [1, 8] (mkS 11 0 [(1, .hp 0 0), (8, aB (((v1.Groups.length : Int) : Int) == 0))]) [.own (api_Int.c v1)] ?_
 refine CQ.cond (t := ((v1.Groups.length : Int) : Int) == 0) (by kernel_rfl) (fun hb3 => ?_) (fun hb3 => ?_)
 ·replace hr := cd_t hb3 hr
  refine CQ.seq ?_
  refine CQ.r0 fine ?_
  refine EVO.p1 (aI64 0) ?_
  refine EVO.done ?_
  refine CQ.ret ?_
  obtain rfl := Option.some.inj hr
  exact FinQ.r1 [aI64 0]
 ·replace hr := cd_f hb3 hr
  refine CQ.skip ?_
  refine CQ.seq ?_
  refine CQ.seq ?_
  refine CQ.r0 fine ?_
  refine EVO.p1 (.hp 0 0) ?_
  refine EVO.p1 (aB v1.Negative) ?_
  refine EVO.done ?_
  refine CQ.n1 [10] (mkS 11 0 [(10, aB v1.Negative)]) [.own (api_Int.c v1)] ?_
  refine CQ.cond (t := v1.Negative) (by kernel_rfl) (fun hb4 => ?_) (fun hb4 => ?_)
  ·replace hr := cd_t hb4 hr
   refine CQ.seq ?_
   refine CQ.r0 fine ?_
   refine EVO.p1 (aI64 (-1)) ?_
   refine EVO.done ?_
   refine CQ.ret ?_
   obtain rfl := Option.some.inj hr
   exact FinQ.r1 [aI64 (-1)]
  ·replace hr := cd_f hb4 hr
   refine CQ.skip ?_
   refine CQ.seq ?_
   refine CQ.r0 fine ?_
   refine EVO.p1 (aI64 1) ?_
   refine EVO.done ?_
   refine CQ.ret ?_
   obtain rfl := Option.some.inj hr
   exact FinQ.r1 [aI64 1]

theorem fiducialref01_short_ok (n : Nat) (a : List Int) (d : Int) (r : List Int × Int) (hr : fiducialref01_short n a d = some r) : FnOk Tryz.prog 160 [slT (iC .u32) a, .at (.int .u64 d)] (.tup [slT (iC .u32) r.1, .at (.int .u64 r.2)]) := by
 unfold fiducialref01_short at hr
 refine FnOk.body fine Tryz.func160 (c := (Tryz.f160.body).getD .skip) rfl (s := mkS 42 0 [(0, sU32 a), (1, aU64 d)]) (by kernel_rfl) (rs := [.tmp 4, .tmp 5]) rfl ?_
 unfold Tryz.f160
 simp only [Option.getD_some]
 refine CQ.seq ?_
 refine CQ.r0 fine ?_
 refine EVO.p1 (.at (.slice none 0 0)) ?_
 refine EVO.p1 (aU64 0) ?_
 refine EVO.done ?_
 refine CQ.n1 [0, 1] (mkS 42 0 [(0, sU32 a), (1, aU64 d)]) [] ?_
 refine CQ.seq ?_
 replace hr := gd hr; obtain ⟨hg1, hr⟩ := hr
 replace hr := gd hr; obtain ⟨hg2, hr⟩ := hr
 replace hr := gd hr; obtain ⟨hg3, hr⟩ := hr
 refine CQ.r0 fine ?_
 refine EVO.p1 (sU32 a) ?_
 refine EVO.p1 (aI64 (a.length : Int)) ?_
 refine EVO.e0 (v := .hs 0 0 (List.replicate (a.length : Int).toNat (0 : Int)).length 1) (ws := [(0, .own ((List.replicate (a.length : Int).toNat (0 : Int)).flatMap (iC .u32)))]) (Eq.trans (b := guardO (decide (0 ≤ (a.length : Int)) && decide ((a.length : Int) ≤ (a.length : Int)) && decide ((4 : Int) * (a.length : Int) ≤ 281474976710656) && decide ((a.length : Int) ≤ 9223372036854775807) && true && true && true) (some (.eff (.hs 0 0 (a.length : Int).toNat 1) [(0, .own (zerosA [aU32 0] (a.length : Int).toNat))]))) (by kernel_rfl) (make_own (c := (iC .u32)) (z := 0) rfl hg1 hg2 hg3)) ?_
 refine EVO.p1 (.hs 0 0 (List.replicate (a.length : Int).toNat (0 : Int)).length 1) ?_
 refine EVO.done ?_
 refine CQ.n1 [0, 1, 6] (mkS 42 0 [(0, sU32 a), (1, aU64 d), (6, .hs 0 0 (List.replicate (a.length : Int).toNat (0 : Int)).length 1)]) [.own ((List.replicate (a.length : Int).toNat (0 : Int)).flatMap (iC .u32))] ?_
 refine CQ.seq ?_
 refine CQ.r0 fine ?_
 refine EVO.p1 (aU64 0) ?_
 refine EVO.done ?_
 refine CQ.seq ?_
 refine CQ.seq ?_
 refine CQ.r0 fine ?_
 refine EVO.p1 (sU32 a) ?_
 refine EVO.p1 (aI64 (a.length : Int)) ?_
 refine EVO.p1 (aI64 (wrapF .i64 ((a.length : Int) - 1))) ?_
 refine EVO.p1 (aI64 (wrapF .i64 ((a.length : Int) - 1))) ?_
 refine EVO.done ?_
 refine CQ.n1 [0, 1, 6, 7, 8] (mkS 42 0 [(0, sU32 a), (1, aU64 d), (6, .hs 0 0 (List.replicate (a.length : Int).toNat (0 : Int)).length 1), (7, aU64 0), (8, aI64 (wrapF .i64 ((a.length : Int) - 1)))]) [.own ((List.replicate (a.length : Int).toNat (0 : Int)).flatMap (iC .u32))] ?_
 refine CQ.block ?_
 replace hr := bd hr; obtain ⟨o18, hL19, hr⟩ := hr
 refine CQ.loopO (σ := fun z0 => match z0 with | (q_4, rest_5, i_6) => ⟨mkS 42 0 [(0, sU32 a), (1, aU64 d), (6, .hs 0 0 q_4.length 1), (7, aU64 rest_5), (8, aI64 i_6)], [.own (q_4.flatMap (iC .u32))]⟩) (Q := fun x st' => match (generalizing := false) o18 with | (q_11, rest_12) => x = .exit 0 ∧ Wk st' ⟨mkS 42 0 [(6, .hs 0 0 q_11.length 1), (7, aU64 rest_12)], [.own (q_11.flatMap (iC .u32))]⟩) hL19 ((Wk.gc [0, 1, 6, 7, 8] [(0, false)] rfl ⟨ids_flat (iC_pure _) _, trivial⟩).to (by kernel_rfl)) ?_ ?_
 ·clear hr
  rintro m ⟨q_4, rest_5, i_6⟩ hr
  show CQ _ _ _ _ ⟨_, _⟩
  refine CQ.seq ?_
  refine CQ.seq ?_
  refine CQ.r0 fine ?_
  refine EVO.p1 (aI64 i_6) ?_
  refine EVO.p1 (aB (decide (i_6 ≥ 0))) ?_
  refine EVO.done ?_
  refine CQ.n1 [0, 1, 6, 7, 8, 17] (mkS 42 0 [(0, sU32 a), (1, aU64 d), (6, .hs 0 0 q_4.length 1), (7, aU64 rest_5), (8, aI64 i_6), (17, aB (decide (i_6 ≥ 0)))]) [.own (q_4.flatMap (iC .u32))] ?_
  refine CQ.cond (t := decide (i_6 ≥ 0)) (by kernel_rfl) (fun hb14 => ?_) (fun hb14 => ?_)
  ·replace hr := cd_t hb14 hr
   refine CQ.skip ?_
   refine CQ.seq ?_
   refine CQ.block ?_
   refine CQ.seq ?_
   replace hr := gd hr; obtain ⟨hg15, hr⟩ := hr
   refine CQ.r0 fine ?_
   refine EVO.p1 (aU64 rest_5) ?_
   refine EVO.p1 (aU64 (wrapF .u64 (rest_5 * 1000000000))) ?_
   refine EVO.p1 (sU32 a) ?_
   refine EVO.p1 (aI64 i_6) ?_
   refine EVO.p0 (v := .pp (a.flatMap (iC .u32)) (i_6.toNat * 1)) (Eq.trans (b := ORes.ofP (guardV (inR i_6 a.length) (.pp (a.flatMap (iC .u32)) (i_6.toNat * 1)))) (by kernel_rfl) (ofP_guard hg15)) ?_
   refine EVO.p0 (v := aU32 (gt a i_6)) (Eq.trans (b := ORes.ofP ((a.flatMap (iC .u32))[i_6.toNat * 1]?)) (by kernel_rfl) (ofP_some (flat_get (iC_len _) (inR_lt hg15) (by decide : 0 < 1) (by omega : i_6.toNat * 1 = i_6.toNat * 1 + 0) (by kernel_rfl)))) ?_
   refine EVO.p1 (aU64 (wrapF .u64 (gt a i_6))) ?_
   refine EVO.p1 (aU64 (wrapF .u64 ((wrapF .u64 (rest_5 * 1000000000)) + (wrapF .u64 (gt a i_6))))) ?_
   refine EVO.p1 (aU64 (wrapF .u64 ((wrapF .u64 (rest_5 * 1000000000)) + (wrapF .u64 (gt a i_6))))) ?_
   refine EVO.done ?_
   refine CQ.n1 [0, 1, 6, 8, 9] (mkS 42 0 [(0, sU32 a), (1, aU64 d), (6, .hs 0 0 q_4.length 1), (8, aI64 i_6), (9, aU64 (wrapF .u64 ((wrapF .u64 (rest_5 * 1000000000)) + (wrapF .u64 (gt a i_6)))))]) [.own (q_4.flatMap (iC .u32))] ?_
   refine CQ.seq ?_
   replace hr := gd hr; obtain ⟨hg16, hr⟩ := hr
   replace hr := gd hr; obtain ⟨hg17, hr⟩ := hr
   refine CQ.r0 fine ?_
   refine EVO.p1 (.hs 0 0 q_4.length 1) ?_
   refine EVO.p1 (aI64 i_6) ?_
   refine EVO.p1 (aU64 (wrapF .u64 ((wrapF .u64 (rest_5 * 1000000000)) + (wrapF .u64 (gt a i_6))))) ?_
   refine EVO.p1 (aU64 d) ?_
   refine EVO.p0 (v := aU64 (wrapF .u64 ((wrapF .u64 ((wrapF .u64 (rest_5 * 1000000000)) + (wrapF .u64 (gt a i_6)))).tdiv d))) (op_quo (x := wrapF .u64 ((wrapF .u64 (rest_5 * 1000000000)) + (wrapF .u64 (gt a i_6)))) (y := d) (by kernel_rfl) (by kernel_rfl) hg16) ?_
   refine EVO.p1 (aU32 (wrapF .u32 (wrapF .u64 ((wrapF .u64 ((wrapF .u64 (rest_5 * 1000000000)) + (wrapF .u64 (gt a i_6)))).tdiv d)))) ?_
   refine EVO.p0 (v := .hp 0 (0 + i_6.toNat * 1)) (Eq.trans (b := ORes.ofP (guardV (inR i_6 q_4.length) (.hp 0 (0 + i_6.toNat * 1)))) (by kernel_rfl) (ofP_guard hg17)) ?_
   refine EVO.e0 (v := .unk) (ws := [(0, .own ((q_4.set i_6.toNat (wrapF .u32 (wrapF .u64 ((wrapF .u64 ((wrapF .u64 (rest_5 * 1000000000)) + (wrapF .u64 (gt a i_6)))).tdiv d)))).flatMap (iC .u32)))]) (Eq.trans (b := stO (decide ((0 + i_6.toNat * 1) + 1 ≤ (q_4.flatMap (iC .u32)).length) && true) [(0, .own (setCells (q_4.flatMap (iC .u32)) (0 + i_6.toNat * 1) [aU32 (wrapF .u32 (wrapF .u64 ((wrapF .u64 ((wrapF .u64 (rest_5 * 1000000000)) + (wrapF .u64 (gt a i_6)))).tdiv d)))]))]) (by kernel_rfl) (stO_t (and_t (flat_fits (iC_len _) (inR_lt hg17) (Nat.le_of_ble_eq_true rfl) (by omega : 0 + i_6.toNat * 1 = i_6.toNat * 1 + 0))) (congrArg Blk.own (flat_set (iC_len _) (inR_lt hg17) (Nat.le_of_ble_eq_true rfl) (by omega : 0 + i_6.toNat * 1 = i_6.toNat * 1 + 0) (by kernel_rfl))))) ?_
   refine EVO.done ?_
   refine CQ.n1 [0, 1, 6, 8, 9] (mkS 42 0 [(0, sU32 a), (1, aU64 d), (6, .hs 0 0 q_4.length 1), (8, aI64 i_6), (9, aU64 (wrapF .u64 ((wrapF .u64 (rest_5 * 1000000000)) + (wrapF .u64 (gt a i_6)))))]) [.own ((q_4.set i_6.toNat (wrapF .u32 (wrapF .u64 ((wrapF .u64 ((wrapF .u64 (rest_5 * 1000000000)) + (wrapF .u64 (gt a i_6)))).tdiv d)))).flatMap (iC .u32))] ?_
   refine CQ.r0 fine ?_
   refine EVO.p1 (aU64 (wrapF .u64 ((wrapF .u64 (rest_5 * 1000000000)) + (wrapF .u64 (gt a i_6))))) ?_
   refine EVO.p1 (aU64 d) ?_
   refine EVO.p0 (v := aU64 ((wrapF .u64 ((wrapF .u64 (rest_5 * 1000000000)) + (wrapF .u64 (gt a i_6)))).tmod d)) (op_rem (x := wrapF .u64 ((wrapF .u64 (rest_5 * 1000000000)) + (wrapF .u64 (gt a i_6)))) (y := d) (by kernel_rfl) (by kernel_rfl) hg16) ?_
   refine EVO.p1 (aU64 ((wrapF .u64 ((wrapF .u64 (rest_5 * 1000000000)) + (wrapF .u64 (gt a i_6)))).tmod d)) ?_
   refine EVO.done ?_
   refine CQ.pop ?_
   refine CQ.r0 fine ?_
   refine EVO.p1 (aI64 i_6) ?_
   refine EVO.p1 (aI64 (wrapF .i64 (i_6 - 1))) ?_
   refine EVO.p1 (aI64 (wrapF .i64 (i_6 - 1))) ?_
   refine EVO.done ?_
   exact loopF_back (q_4.set i_6.toNat (wrapF .u32 (wrapF .u64 ((wrapF .u64 ((wrapF .u64 (rest_5 * 1000000000)) + (wrapF .u64 (gt a i_6)))).tdiv d))), (wrapF .u64 ((wrapF .u64 (rest_5 * 1000000000)) + (wrapF .u64 (gt a i_6)))).tmod d, wrapF .i64 (i_6 - 1)) hr ((Wk.relen 6 (b := 0) (es := 1) (len := q_4.length) (q_4.set i_6.toNat (wrapF .u32 (wrapF .u64 ((wrapF .u64 ((wrapF .u64 (rest_5 * 1000000000)) + (wrapF .u64 (gt a i_6)))).tdiv d)))).length (by kernel_rfl) (by simp)).trans ((Wk.gc [0, 1, 6, 7, 8] [(0, false)] rfl ⟨ids_flat (iC_pure _) _, trivial⟩).to (by kernel_rfl)))
  ·replace hr := cd_f hb14 hr
   refine CQ.leave rfl ?_
   obtain rfl := Option.some.inj hr
   exact ⟨rfl, ((Wk.gc [6, 7] [(0, false)] rfl ⟨ids_flat (iC_pure _) _, trivial⟩).to (by kernel_rfl))⟩
 ·rcases o18 with ⟨q_11, rest_12⟩
  rintro x st' hq20
  clear hL19
  obtain ⟨rfl, hq20⟩ := hq20
  refine CQ_exit _ rfl ?_
  refine CQ.wk hq20 ?_
  refine CQ.seq ?_
  replace hr := bd hr; obtain ⟨v21, hc22, hr⟩ := hr
  refine CQ.region fine (callOf_1 109 [aB false, .hs 0 0 q_11.length 1] [.own (q_11.flatMap (iC .u32))] (.loc (.agg (api_Int.c v21)) [(0, .fix (q_11.flatMap (iC .u32)))] [0] 0) (callOk_ref (l := [0]) (args' := [aB false, sU32 q_11]) (SnL.cons (Sn.pure rfl) (SnL.cons (Sn.hs rfl (.inl rfl) (SnC.pure (ids_flat (iC_pure _) _)) (fun h => flat_nil0 h)) SnL.nil)) (fiducialref01_made_ok n false q_11 v21 hc22))) ?_
  refine EVO.p1 (.hs 0 0 q_11.length 1) ?_
  refine EVO.c0 (by kernel_rfl) (callOf_at (by kernel_rfl)) ?_
  refine EVO.p1 (sU32 v21.Groups) ?_
  refine EVO.p1 (aU64 rest_12) ?_
  refine EVO.p1 (sU32 v21.Groups) ?_
  refine EVO.p1 (aU64 rest_12) ?_
  refine EVO.done ?_
  refine CQ.ret ?_
  obtain rfl := Option.some.inj hr
  exact FinQ.ret (vs := [sU32 v21.Groups, aU64 rest_12]) (by kernel_rfl) (Sn.tup (SnL.cons (Sn.pure rfl) (SnL.cons (Sn.pure rfl) SnL.nil)))
end Go.L
