/- The program's functions compute what the plain Lean programs compute, part 4; printed by a program. -/
import Derived.Test.YtlajgmapmocpbaaGreatRelaLP3
import Derived.Test.YtlajgmapmocpbaaGreatL0c
import Derived.Test.YtlajgmapmocpbaaGreatChecked
import Derived.KernelRfl
set_option linter.unusedVariables false
set_option linter.unusedSimpArgs false
set_option maxRecDepth 100000
set_option maxHeartbeats 4000000
namespace Go.L
open Go Go.Eng Go.Proofs
theorem fiducialref02_Same_ok (n : Nat) (x' : api_Rat) (y : api_Rat) (r : Bool) (hr : fiducialref02_Same n x' y = some r) : FnOk Tryz.prog 40 [.agg [.at (.bool x'.Num.Negative), slT (iC .u32) x'.Num.Groups, .at (.bool x'.Den.Negative), slT (iC .u32) x'.Den.Groups], .agg [.at (.bool y.Num.Negative), slT (iC .u32) y.Num.Groups, .at (.bool y.Den.Negative), slT (iC .u32) y.Den.Groups]] (.at (.bool r)) := by
 unfold fiducialref02_Same at hr
 refine FnOk.body fine Tryz.func40 (c := (Tryz.f40.body).getD .skip) rfl (s := mkS 17 0 [(0, .agg (api_Rat.c x')), (1, .agg (api_Rat.c y))]) (by kernel_rfl) (rs := [.tmp 4]) rfl ?_
 unfold Tryz.f40
 simp only [Option.getD_some]
 refine CQ.seq ?_
 refine CQ.r0 fine ?_
 refine EVO.e1 (.hp 0 0) [(0, .own (api_Rat.c x'))] ?_
 refine EVO.e1 (.hp 1 0) [(1, .own (api_Rat.c y))] ?_
 refine EVO.p1 (aB false) ?_
 refine EVO.done ?_
 refine CQ.n1 [2, 3] (mkS 17 0 [(2, .hp 0 0), (3, .hp 1 0)]) [.own (api_Rat.c x'), .own (api_Rat.c y)] ?_
 refine CQ.seq ?_
 replace hr := bd hr; obtain ⟨v1, hc2, hr⟩ := hr
 rcases Bool.eq_false_or_eq_true v1 with hb3 | hb3
 ·subst hb3
  replace hr := cd_t rfl hr
  replace hr := bd hr; obtain ⟨v4, hc5, hr⟩ := hr
  rcases Bool.eq_false_or_eq_true v4 with hb6 | hb6
  ·subst hb6
   replace hr := cd_t rfl hr
   replace hr := bd hr; obtain ⟨v7, hc8, hr⟩ := hr
   refine CQ.region fine (callOf_ok [{ f := 88, args := [.agg (api_Rat.c x')], H := [.own (api_Rat.c x'), .own (api_Rat.c y)], r := .loc (aB true) [] [] 0 : CE }, { f := 88, args := [.agg (api_Rat.c y)], H := [.own (api_Rat.c x'), .own (api_Rat.c y)], r := .loc (aB true) [] [] 0 : CE }, { f := 54, args := [.agg (api_Rat.c x'), .agg (api_Rat.c y)], H := [.own (api_Rat.c x'), .own (api_Rat.c y)], r := .loc (aI64 v7) [] [] 0 : CE }] (List.forall_mem_cons.2 ⟨(callOk_val (l := []) (args' := [.agg (api_Rat.c x')]) rfl (SnL.cons (Sn.pure rfl) SnL.nil) (fiducialref02_Valid_ok n x' true hc2)), (List.forall_mem_cons.2 ⟨(callOk_val (l := []) (args' := [.agg (api_Rat.c y)]) rfl (SnL.cons (Sn.pure rfl) SnL.nil) (fiducialref02_Valid_ok n y true hc5)), (List.forall_mem_cons.2 ⟨(callOk_val (l := []) (args' := [.agg (api_Rat.c x'), .agg (api_Rat.c y)]) rfl (SnL.cons (Sn.pure rfl) (SnL.cons (Sn.pure rfl) SnL.nil)) (fiducialref02_Compare_ok n x' y v7 hc8)), ce0⟩)⟩)⟩)) ?_
   refine EVO.p1 (.agg (api_Rat.c x')) ?_
   refine EVO.c0 (by kernel_rfl) (callOf_at (by kernel_rfl)) ?_
   refine EVO.p1 (aB true) ?_
   refine EVO.q1 (.agg (api_Rat.c y)) ?_
   refine EVO.cal (by kernel_rfl) (by kernel_rfl) (callOf_skip (fun _ h => by obtain e0 := fiducialref02_Valid_inj h; rw [show true = true from Option.some.inj (hc5.symm.trans ((show fiducialref02_Valid n y = fiducialref02_Valid n x' from (congr rfl e0)).trans hc2))]) (callOf_at (by kernel_rfl))) ?_
   refine EVO.p1 (aB true) ?_
   refine EVO.p1 (aB true) ?_
   refine EVO.q1 (.agg (api_Rat.c x')) ?_
   refine EVO.q1 (.agg (api_Rat.c y)) ?_
   refine EVO.cal (by kernel_rfl) (by kernel_rfl) (callOf_skip (fun h _ => absurd (show (54 : Nat) = 88 from h) (by decide)) (callOf_skip (fun h _ => absurd (show (54 : Nat) = 88 from h) (by decide)) (callOf_at (by kernel_rfl)))) ?_
   refine EVO.q1 (aB ((v7 : Int) == 0)) ?_
   refine EVO.p1 (aB ((v7 : Int) == 0)) ?_
   refine EVO.p1 (aB ((v7 : Int) == 0)) ?_
   refine EVO.done ?_
   refine CQ.ret ?_
   obtain rfl := Option.some.inj hr
   exact FinQ.r1 [aB ((v7 : Int) == 0)]
  ·subst hb6
   replace hr := cd_f rfl hr
   refine CQ.region fine (callOf_ok [{ f := 88, args := [.agg (api_Rat.c x')], H := [.own (api_Rat.c x'), .own (api_Rat.c y)], r := .loc (aB true) [] [] 0 : CE }, { f := 88, args := [.agg (api_Rat.c y)], H := [.own (api_Rat.c x'), .own (api_Rat.c y)], r := .loc (aB false) [] [] 0 : CE }] (List.forall_mem_cons.2 ⟨(callOk_val (l := []) (args' := [.agg (api_Rat.c x')]) rfl (SnL.cons (Sn.pure rfl) SnL.nil) (fiducialref02_Valid_ok n x' true hc2)), (List.forall_mem_cons.2 ⟨(callOk_val (l := []) (args' := [.agg (api_Rat.c y)]) rfl (SnL.cons (Sn.pure rfl) SnL.nil) (fiducialref02_Valid_ok n y false hc5)), ce0⟩)⟩)) ?_
   refine EVO.p1 (.agg (api_Rat.c x')) ?_
   refine EVO.c0 (by kernel_rfl) (callOf_at (by kernel_rfl)) ?_
   refine EVO.p1 (aB true) ?_
   refine EVO.q1 (.agg (api_Rat.c y)) ?_
   refine EVO.cal (by kernel_rfl) (by kernel_rfl) (callOf_skip (fun _ h => by obtain e0 := fiducialref02_Valid_inj h; rw [show false = true from Option.some.inj (hc5.symm.trans ((show fiducialref02_Valid n y = fiducialref02_Valid n x' from (congr rfl e0)).trans hc2))]) (callOf_at (by kernel_rfl))) ?_
   refine EVO.p1 (aB false) ?_
   refine EVO.p1 (aB false) ?_
   refine EVO.s1 ?_
   refine EVO.s1 ?_
   refine EVO.s1 ?_
   refine EVO.s1 ?_
   refine EVO.p1 (aB false) ?_
   refine EVO.p1 (aB false) ?_
   refine EVO.done ?_
   refine CQ.ret ?_
   obtain rfl := Option.some.inj hr
   exact FinQ.r1 [aB false]
 ·subst hb3
  replace hr := cd_f rfl hr
  refine CQ.region fine (callOf_1 88 [.agg (api_Rat.c x')] [.own (api_Rat.c x'), .own (api_Rat.c y)] (.loc (aB false) [] [] 0) (callOk_val (l := []) (args' := [.agg (api_Rat.c x')]) rfl (SnL.cons (Sn.pure rfl) SnL.nil) (fiducialref02_Valid_ok n x' false hc2))) ?_
  refine EVO.p1 (.agg (api_Rat.c x')) ?_
  refine EVO.c0 (by kernel_rfl) (callOf_at (by kernel_rfl)) ?_
  refine EVO.p1 (aB false) ?_
  refine EVO.s1 ?_
  refine EVO.s1 ?_
  refine EVO.p1 (aB false) ?_
  refine EVO.p1 (aB false) ?_
  refine EVO.s1 ?_
  refine EVO.s1 ?_
  refine EVO.s1 ?_
  refine EVO.s1 ?_
  refine EVO.p1 (aB false) ?_
  refine EVO.p1 (aB false) ?_
  refine EVO.done ?_
  refine CQ.ret ?_
  obtain rfl := Option.some.inj hr
  exact FinQ.r1 [aB false]

theorem fiduciallaw09_known_ok (n : Nat) (r : Bool) (hr : fiduciallaw09_known n = some r) : FnOk Tryz.prog 28 [] (.at (.bool r)) := by
 unfold fiduciallaw09_known at hr
 refine FnOk.body fine Tryz.func28 (c := (Tryz.f28.body).getD .skip) rfl (s := mkS 64 0 []) (by kernel_rfl) (rs := [.tmp 0]) rfl ?_
 unfold Tryz.f28
 simp only [Option.getD_some]
 refine CQ.seq ?_
 refine CQ.r0 fine ?_
 refine EVO.p1 (aB false) ?_
 refine EVO.done ?_
 refine CQ.n1 [] (mkS 64 0 []) [] ?_
 refine CQ.seq ?_
 refine CQ.r0 fine ?_
 refine EVO.p1 (.agg [aI64 0, aI64 0]) ?_
 refine EVO.p1 (.agg [aI64 4, aI64 0]) ?_
 refine EVO.p1 (.agg [aI64 0, aI64 4]) ?_
 refine EVO.e1 (.hp 0 0) [(0, .own [aI64 0, aI64 0])] ?_
 refine EVO.e1 (.hp 1 0) [(1, .own [aI64 0, aI64 0])] ?_
 refine EVO.e1 (.hp 2 0) [(2, .own [aI64 0, aI64 0])] ?_
 refine EVO.e1 (.unk) [(0, .own [aI64 0, aI64 0])] ?_
 refine EVO.e1 (.unk) [(1, .own [aI64 4, aI64 0])] ?_
 refine EVO.e1 (.unk) [(2, .own [aI64 0, aI64 4])] ?_
 refine EVO.done ?_
 refine CQ.n1 [1, 2, 3] (mkS 64 0 [(1, .hp 0 0), (2, .hp 1 0), (3, .hp 2 0)]) [.own [aI64 0, aI64 0], .own [aI64 4, aI64 0], .own [aI64 0, aI64 4]] ?_
 refine CQ.seq ?_
 replace hr := bd hr; obtain ⟨v1, hc2, hr⟩ := hr
 refine CQ.region fine (callOf_1 35 [.agg [aI64 0, aI64 0], .agg [aI64 4, aI64 4], .agg [aI64 4, aI64 0], .agg [aI64 0, aI64 4]] [.own [aI64 0, aI64 0], .own [aI64 4, aI64 0], .own [aI64 0, aI64 4]] (.loc (.tup [aI64 v1.1, aI64 v1.2]) [] [] 0) (callOk_val (l := []) (args' := [.agg (api_Pix.c (api_Pix.mk 0 0)), .agg (api_Pix.c (api_Pix.mk 4 4)), .agg (api_Pix.c (api_Pix.mk 4 0)), .agg (api_Pix.c (api_Pix.mk 0 4))]) rfl (SnL.cons (Sn.pure rfl) (SnL.cons (Sn.pure rfl) (SnL.cons (Sn.pure rfl) (SnL.cons (Sn.pure rfl) SnL.nil)))) (predicate_Relate_ok n (api_Pix.mk 0 0) (api_Pix.mk 4 4) (api_Pix.mk 4 0) (api_Pix.mk 0 4) v1 hc2))) ?_
 refine EVO.p1 (.agg [aI64 0, aI64 0]) ?_
 refine EVO.p1 (.agg [aI64 4, aI64 4]) ?_
 refine EVO.p1 (.agg [aI64 4, aI64 0]) ?_
 refine EVO.p1 (.agg [aI64 0, aI64 4]) ?_
 refine EVO.c0 (by kernel_rfl) (callOf_at (by kernel_rfl)) ?_
 refine EVO.p1 (.tup [aI64 v1.1, aI64 v1.2]) ?_
 refine EVO.p1 (aI64 v1.1) ?_
 refine EVO.p1 (aI64 v1.2) ?_
 refine EVO.p1 (aI64 v1.1) ?_
 refine EVO.p1 (aI64 v1.2) ?_
 refine EVO.done ?_
 refine CQ.n1 [1, 2, 3, 4, 5] (mkS 64 0 [(1, .hp 0 0), (2, .hp 1 0), (3, .hp 2 0), (4, aI64 v1.1), (5, aI64 v1.2)]) [.own [aI64 0, aI64 0], .own [aI64 4, aI64 0], .own [aI64 0, aI64 4]] ?_
 refine CQ.seq ?_
 replace hr := bd hr; obtain ⟨v3, hc4, hr⟩ := hr
 refine CQ.region fine (callOf_1 37 [.agg [aI64 0, aI64 0], .agg [aI64 4, aI64 4], .agg [aI64 4, aI64 0], .agg [aI64 0, aI64 4]] [.own [aI64 0, aI64 0], .own [aI64 4, aI64 0], .own [aI64 0, aI64 4]] (.loc (.tup [.agg (api_Place.c v3.1), aI64 v3.2]) [] [] 0) (callOk_ref (l := []) (args' := [.agg (api_Pix.c (api_Pix.mk 0 0)), .agg (api_Pix.c (api_Pix.mk 4 4)), .agg (api_Pix.c (api_Pix.mk 4 0)), .agg (api_Pix.c (api_Pix.mk 0 4))]) (SnL.cons (Sn.pure rfl) (SnL.cons (Sn.pure rfl) (SnL.cons (Sn.pure rfl) (SnL.cons (Sn.pure rfl) SnL.nil)))) (predicate_Meet_ok n (api_Pix.mk 0 0) (api_Pix.mk 4 4) (api_Pix.mk 4 0) (api_Pix.mk 0 4) v3 hc4))) ?_
 refine EVO.p1 (.agg [aI64 0, aI64 0]) ?_
 refine EVO.p1 (.agg [aI64 4, aI64 4]) ?_
 refine EVO.p1 (.agg [aI64 4, aI64 0]) ?_
 refine EVO.p1 (.agg [aI64 0, aI64 4]) ?_
 refine EVO.c0 (by kernel_rfl) (callOf_at (by kernel_rfl)) ?_
 refine EVO.p1 (.tup [.agg (api_Place.c v3.1), aI64 v3.2]) ?_
 refine EVO.p1 (.agg (api_Place.c v3.1)) ?_
 refine EVO.p1 (aI64 v3.2) ?_
 refine EVO.e1 (.hp 3 0) [(3, .own [aB false, .at (.slice none 0 0), aB false, .at (.slice none 0 0), aB false, .at (.slice none 0 0), aB false, .at (.slice none 0 0)])] ?_
 refine EVO.e1 (.unk) [(3, .own (api_Place.c v3.1))] ?_
 refine EVO.p1 (aI64 v3.2) ?_
 refine EVO.done ?_
 refine CQ.n1 [1, 2, 3, 4, 5, 6, 7] (mkS 64 0 [(1, .hp 0 0), (2, .hp 1 0), (3, .hp 2 0), (4, aI64 v1.1), (5, aI64 v1.2), (6, .hp 3 0), (7, aI64 v3.2)]) [.own [aI64 0, aI64 0], .own [aI64 4, aI64 0], .own [aI64 0, aI64 4], .own (api_Place.c v3.1)] ?_
 refine CQ.seq ?_
 replace hr := bd hr; obtain ⟨v5, hc6, hr⟩ := hr
 rcases Bool.eq_false_or_eq_true ((v5 : Int) == 1) with hb7 | hb7
 ·replace hr := cd_t hb7 hr
  replace hr := bd hr; obtain ⟨v8, hc9, hr⟩ := hr
  rcases Bool.eq_false_or_eq_true ((v8 : Int) == 1) with hb10 | hb10
  ·replace hr := cd_t hb10 hr
   rcases Bool.eq_false_or_eq_true ((v1.1 : Int) == 2) with hb11 | hb11
   ·replace hr := cd_t hb11 hr
    rcases Bool.eq_false_or_eq_true ((v1.2 : Int) == 0) with hb12 | hb12
    ·replace hr := cd_t hb12 hr
     rcases Bool.eq_false_or_eq_true ((v3.2 : Int) == 0) with hb13 | hb13
     ·replace hr := cd_t hb13 hr
      replace hr := bd hr; obtain ⟨v14, hc15, hr⟩ := hr
      replace hr := bd hr; obtain ⟨v16, hc17, hr⟩ := hr
      rcases Bool.eq_false_or_eq_true v16 with hb18 | hb18
      ·subst hb18
       replace hr := cd_t rfl hr
       replace hr := bd hr; obtain ⟨v19, hc20, hr⟩ := hr
       refine CQ.regionT fine (callOf_ok [{ f := 29, args := [.agg [aI64 0, aI64 0], .agg [aI64 4, aI64 0], .agg [aI64 0, aI64 4]], H := [.own [aI64 0, aI64 0], .own [aI64 4, aI64 0], .own [aI64 0, aI64 4], .own (api_Place.c v3.1)], r := .loc (aI64 v5) [] [] 0 : CE }, { f := 33, args := [.agg [aI64 0, aI64 0], .agg [aI64 4, aI64 0], .agg [aI64 0, aI64 4], .agg [aI64 1, aI64 1]], H := [.own [aI64 0, aI64 0], .own [aI64 4, aI64 0], .own [aI64 0, aI64 4], .own (api_Place.c v3.1)], r := .loc (aI64 v8) [] [] 0 : CE }, { f := 22, args := [aI64 2], H := [.own [aI64 0, aI64 0], .own [aI64 4, aI64 0], .own [aI64 0, aI64 4], .own (api_Place.c v3.1)], r := .loc (.agg (api_Rat.c v14)) [] [] 0 : CE }, { f := 40, args := [.agg (api_Rat.c v3.1.X), .agg (api_Rat.c v14)], H := [.own [aI64 0, aI64 0], .own [aI64 4, aI64 0], .own [aI64 0, aI64 4], .own (api_Place.c v3.1)], r := .loc (aB true) [] [] 0 : CE }, { f := 32, args := [.hs 4 0 1 2], H := [.own [aI64 0, aI64 0], .own [aI64 4, aI64 0], .own [aI64 0, aI64 4], .own (api_Place.c v3.1), .own [aI64 2097152, aI64 0]], r := .loc (aI64 v19) [] [4] 0 : CE }] (List.forall_mem_cons.2 ⟨(callOk_val (l := []) (args' := [.agg (api_Pix.c (api_Pix.mk 0 0)), .agg (api_Pix.c (api_Pix.mk 4 0)), .agg (api_Pix.c (api_Pix.mk 0 4))]) rfl (SnL.cons (Sn.pure rfl) (SnL.cons (Sn.pure rfl) (SnL.cons (Sn.pure rfl) SnL.nil))) (predicate_Orient_ok n (api_Pix.mk 0 0) (api_Pix.mk 4 0) (api_Pix.mk 0 4) v5 hc6)), (List.forall_mem_cons.2 ⟨(callOk_val (l := []) (args' := [.agg (api_Pix.c (api_Pix.mk 0 0)), .agg (api_Pix.c (api_Pix.mk 4 0)), .agg (api_Pix.c (api_Pix.mk 0 4)), .agg (api_Pix.c (api_Pix.mk 1 1))]) rfl (SnL.cons (Sn.pure rfl) (SnL.cons (Sn.pure rfl) (SnL.cons (Sn.pure rfl) (SnL.cons (Sn.pure rfl) SnL.nil)))) (predicate_Circle_ok n (api_Pix.mk 0 0) (api_Pix.mk 4 0) (api_Pix.mk 0 4) (api_Pix.mk 1 1) v8 hc9)), (List.forall_mem_cons.2 ⟨(callOk_ref (l := []) (args' := [aI64 2]) (SnL.cons (Sn.pure rfl) SnL.nil) (fiducialref02_Whole_ok n 2 v14 hc15)), (List.forall_mem_cons.2 ⟨(callOk_val (l := []) (args' := [.agg (api_Rat.c v3.1.X), .agg (api_Rat.c v14)]) rfl (SnL.cons (Sn.pure rfl) (SnL.cons (Sn.pure rfl) SnL.nil)) (fiducialref02_Same_ok n v3.1.X v14 true hc17)), (List.forall_mem_cons.2 ⟨(callOk_val (l := [4]) (args' := [slT api_Pix.c [api_Pix.mk 2097152 0]]) rfl (SnL.cons (Sn.hs rfl (.inl rfl) (SnC.cons (Sn.pure rfl) (SnC.cons (Sn.pure rfl) SnC.nil)) (fun h => nomatch h)) SnL.nil) (predicate_Check_ok n [api_Pix.mk 2097152 0] v19 hc20)), ce0⟩)⟩)⟩)⟩)⟩)) ?_
       refine EVT.p1 (.agg [aI64 0, aI64 0]) ?_
       refine EVT.p1 (.agg [aI64 4, aI64 0]) ?_
       refine EVT.p1 (.agg [aI64 0, aI64 4]) ?_
       refine EVT.cal (by kernel_rfl) (by kernel_rfl) (callOf_at (by kernel_rfl)) (by kernel_rfl) ?_
       refine EVT.pure (v := aB true) (by kernel_rfl) (Eq.trans (b := some (.pure (aB ((v5 : Int) == 1)))) (by kernel_rfl) (by rw [hb7])) (by kernel_rfl) ?_
       refine EVT.p1 (aB true) ?_
       refine EVT.p1 (.agg [aI64 0, aI64 0]) ?_
       refine EVT.p1 (.agg [aI64 4, aI64 0]) ?_
       refine EVT.p1 (.agg [aI64 0, aI64 4]) ?_
       refine EVT.p1 (.agg [aI64 1, aI64 1]) ?_
       refine EVT.cal (by kernel_rfl) (by kernel_rfl) (callOf_skip (fun h _ => absurd (show (33 : Nat) = 29 from h) (by decide)) (callOf_at (by kernel_rfl))) (by kernel_rfl) ?_
       refine EVT.pure (v := aB true) (by kernel_rfl) (Eq.trans (b := some (.pure (aB ((v8 : Int) == 1)))) (by kernel_rfl) (by rw [hb10])) (by kernel_rfl) ?_
       refine EVT.p1 (aB true) ?_
       refine EVT.p1 (aB true) ?_
       refine EVT.p1 (aI64 v1.1) ?_
       refine EVT.pure (v := aB true) (by kernel_rfl) (Eq.trans (b := some (.pure (aB ((v1.1 : Int) == 2)))) (by kernel_rfl) (by rw [hb11])) (by kernel_rfl) ?_
       refine EVT.p1 (aB true) ?_
       refine EVT.p1 (aB true) ?_
       refine EVT.p1 (aI64 v1.2) ?_
       refine EVT.pure (v := aB true) (by kernel_rfl) (Eq.trans (b := some (.pure (aB ((v1.2 : Int) == 0)))) (by kernel_rfl) (by rw [hb12])) (by kernel_rfl) ?_
       refine EVT.p1 (aB true) ?_
       refine EVT.p1 (aB true) ?_
       refine EVT.p1 (aI64 v3.2) ?_
       refine EVT.pure (v := aB true) (by kernel_rfl) (Eq.trans (b := some (.pure (aB ((v3.2 : Int) == 0)))) (by kernel_rfl) (by rw [hb13])) (by kernel_rfl) ?_
       refine EVT.p1 (aB true) ?_
       refine EVT.p1 (aB true) ?_
       refine EVT.p1 (.hp 3 0) ?_
       refine EVT.p1 (.agg (api_Rat.c v3.1.X)) ?_
       refine EVT.cal (by kernel_rfl) (by kernel_rfl) (callOf_skip (fun h _ => absurd (show (22 : Nat) = 29 from h) (by decide)) (callOf_skip (fun h _ => absurd (show (22 : Nat) = 33 from h) (by decide)) (callOf_at (by kernel_rfl)))) (by kernel_rfl) ?_
       refine EVT.cal (by kernel_rfl) (by kernel_rfl) (callOf_skip (fun h _ => absurd (show (40 : Nat) = 29 from h) (by decide)) (callOf_skip (fun h _ => absurd (show (40 : Nat) = 33 from h) (by decide)) (callOf_skip (fun h _ => absurd (show (40 : Nat) = 22 from h) (by decide)) (callOf_at (by kernel_rfl))))) (by kernel_rfl) ?_
       refine EVT.p1 (aB true) ?_
       refine EVT.p1 (aB true) ?_
       refine EVT.p1 (.agg [aI64 2097152, aI64 0]) ?_
       refine EVT.e1 (.hs 4 0 1 2) [(4, .own [aI64 2097152, aI64 0])] ?_
       refine EVT.cal (by kernel_rfl) (by kernel_rfl) (callOf_skip (fun h _ => absurd (show (32 : Nat) = 29 from h) (by decide)) (callOf_skip (fun h _ => absurd (show (32 : Nat) = 33 from h) (by decide)) (callOf_skip (fun h _ => absurd (show (32 : Nat) = 22 from h) (by decide)) (callOf_skip (fun h _ => absurd (show (32 : Nat) = 40 from h) (by decide)) (callOf_at (by kernel_rfl)))))) (by kernel_rfl) ?_
       refine EVT.p1 (aB ((v19 : Int) == 2)) ?_
       refine EVT.p1 (aB ((v19 : Int) == 2)) ?_
       refine EVT.p1 (aB ((v19 : Int) == 2)) ?_
       refine EVT.done ⟨by kernel_rfl, ?_⟩
       refine CQ.ret ?_
       obtain rfl := Option.some.inj hr
       exact FinQ.r1 [aB ((v19 : Int) == 2)]
      ·subst hb18
       replace hr := cd_f rfl hr
       refine CQ.regionT fine (callOf_ok [{ f := 29, args := [.agg [aI64 0, aI64 0], .agg [aI64 4, aI64 0], .agg [aI64 0, aI64 4]], H := [.own [aI64 0, aI64 0], .own [aI64 4, aI64 0], .own [aI64 0, aI64 4], .own (api_Place.c v3.1)], r := .loc (aI64 v5) [] [] 0 : CE }, { f := 33, args := [.agg [aI64 0, aI64 0], .agg [aI64 4, aI64 0], .agg [aI64 0, aI64 4], .agg [aI64 1, aI64 1]], H := [.own [aI64 0, aI64 0], .own [aI64 4, aI64 0], .own [aI64 0, aI64 4], .own (api_Place.c v3.1)], r := .loc (aI64 v8) [] [] 0 : CE }, { f := 22, args := [aI64 2], H := [.own [aI64 0, aI64 0], .own [aI64 4, aI64 0], .own [aI64 0, aI64 4], .own (api_Place.c v3.1)], r := .loc (.agg (api_Rat.c v14)) [] [] 0 : CE }, { f := 40, args := [.agg (api_Rat.c v3.1.X), .agg (api_Rat.c v14)], H := [.own [aI64 0, aI64 0], .own [aI64 4, aI64 0], .own [aI64 0, aI64 4], .own (api_Place.c v3.1)], r := .loc (aB false) [] [] 0 : CE }] (List.forall_mem_cons.2 ⟨(callOk_val (l := []) (args' := [.agg (api_Pix.c (api_Pix.mk 0 0)), .agg (api_Pix.c (api_Pix.mk 4 0)), .agg (api_Pix.c (api_Pix.mk 0 4))]) rfl (SnL.cons (Sn.pure rfl) (SnL.cons (Sn.pure rfl) (SnL.cons (Sn.pure rfl) SnL.nil))) (predicate_Orient_ok n (api_Pix.mk 0 0) (api_Pix.mk 4 0) (api_Pix.mk 0 4) v5 hc6)), (List.forall_mem_cons.2 ⟨(callOk_val (l := []) (args' := [.agg (api_Pix.c (api_Pix.mk 0 0)), .agg (api_Pix.c (api_Pix.mk 4 0)), .agg (api_Pix.c (api_Pix.mk 0 4)), .agg (api_Pix.c (api_Pix.mk 1 1))]) rfl (SnL.cons (Sn.pure rfl) (SnL.cons (Sn.pure rfl) (SnL.cons (Sn.pure rfl) (SnL.cons (Sn.pure rfl) SnL.nil)))) (predicate_Circle_ok n (api_Pix.mk 0 0) (api_Pix.mk 4 0) (api_Pix.mk 0 4) (api_Pix.mk 1 1) v8 hc9)), (List.forall_mem_cons.2 ⟨(callOk_ref (l := []) (args' := [aI64 2]) (SnL.cons (Sn.pure rfl) SnL.nil) (fiducialref02_Whole_ok n 2 v14 hc15)), (List.forall_mem_cons.2 ⟨(callOk_val (l := []) (args' := [.agg (api_Rat.c v3.1.X), .agg (api_Rat.c v14)]) rfl (SnL.cons (Sn.pure rfl) (SnL.cons (Sn.pure rfl) SnL.nil)) (fiducialref02_Same_ok n v3.1.X v14 false hc17)), ce0⟩)⟩)⟩)⟩)) ?_
       refine EVT.p1 (.agg [aI64 0, aI64 0]) ?_
       refine EVT.p1 (.agg [aI64 4, aI64 0]) ?_
       refine EVT.p1 (.agg [aI64 0, aI64 4]) ?_
       refine EVT.cal (by kernel_rfl) (by kernel_rfl) (callOf_at (by kernel_rfl)) (by kernel_rfl) ?_
       refine EVT.pure (v := aB true) (by kernel_rfl) (Eq.trans (b := some (.pure (aB ((v5 : Int) == 1)))) (by kernel_rfl) (by rw [hb7])) (by kernel_rfl) ?_
       refine EVT.p1 (aB true) ?_
       refine EVT.p1 (.agg [aI64 0, aI64 0]) ?_
       refine EVT.p1 (.agg [aI64 4, aI64 0]) ?_
       refine EVT.p1 (.agg [aI64 0, aI64 4]) ?_
       refine EVT.p1 (.agg [aI64 1, aI64 1]) ?_
       refine EVT.cal (by kernel_rfl) (by kernel_rfl) (callOf_skip (fun h _ => absurd (show (33 : Nat) = 29 from h) (by decide)) (callOf_at (by kernel_rfl))) (by kernel_rfl) ?_
       refine EVT.pure (v := aB true) (by kernel_rfl) (Eq.trans (b := some (.pure (aB ((v8 : Int) == 1)))) (by kernel_rfl) (by rw [hb10])) (by kernel_rfl) ?_
       refine EVT.p1 (aB true) ?_
       refine EVT.p1 (aB true) ?_
       refine EVT.p1 (aI64 v1.1) ?_
       refine EVT.pure (v := aB true) (by kernel_rfl) (Eq.trans (b := some (.pure (aB ((v1.1 : Int) == 2)))) (by kernel_rfl) (by rw [hb11])) (by kernel_rfl) ?_
       refine EVT.p1 (aB true) ?_
       refine EVT.p1 (aB true) ?_
       refine EVT.p1 (aI64 v1.2) ?_
       refine EVT.pure (v := aB true) (by kernel_rfl) (Eq.trans (b := some (.pure (aB ((v1.2 : Int) == 0)))) (by kernel_rfl) (by rw [hb12])) (by kernel_rfl) ?_
       refine EVT.p1 (aB true) ?_
       refine EVT.p1 (aB true) ?_
       refine EVT.p1 (aI64 v3.2) ?_
       refine EVT.pure (v := aB true) (by kernel_rfl) (Eq.trans (b := some (.pure (aB ((v3.2 : Int) == 0)))) (by kernel_rfl) (by rw [hb13])) (by kernel_rfl) ?_
       refine EVT.p1 (aB true) ?_
       refine EVT.p1 (aB true) ?_
       refine EVT.p1 (.hp 3 0) ?_
       refine EVT.p1 (.agg (api_Rat.c v3.1.X)) ?_
       refine EVT.cal (by kernel_rfl) (by kernel_rfl) (callOf_skip (fun h _ => absurd (show (22 : Nat) = 29 from h) (by decide)) (callOf_skip (fun h _ => absurd (show (22 : Nat) = 33 from h) (by decide)) (callOf_at (by kernel_rfl)))) (by kernel_rfl) ?_
       refine EVT.cal (by kernel_rfl) (by kernel_rfl) (callOf_skip (fun h _ => absurd (show (40 : Nat) = 29 from h) (by decide)) (callOf_skip (fun h _ => absurd (show (40 : Nat) = 33 from h) (by decide)) (callOf_skip (fun h _ => absurd (show (40 : Nat) = 22 from h) (by decide)) (callOf_at (by kernel_rfl))))) (by kernel_rfl) ?_
       refine EVT.p1 (aB false) ?_
       refine EVT.p1 (aB false) ?_
       refine EVT.s1 ?_
       refine EVT.s1 ?_
       refine EVT.s1 ?_
       refine EVT.s1 ?_
       refine EVT.p1 (aB false) ?_
       refine EVT.p1 (aB false) ?_
       refine EVT.done ⟨by kernel_rfl, ?_⟩
       refine CQ.ret ?_
       obtain rfl := Option.some.inj hr
       exact FinQ.r1 [aB false]
     ·replace hr := cd_f hb13 hr
      refine CQ.regionT fine (callOf_ok [{ f := 29, args := [.agg [aI64 0, aI64 0], .agg [aI64 4, aI64 0], .agg [aI64 0, aI64 4]], H := [.own [aI64 0, aI64 0], .own [aI64 4, aI64 0], .own [aI64 0, aI64 4], .own (api_Place.c v3.1)], r := .loc (aI64 v5) [] [] 0 : CE }, { f := 33, args := [.agg [aI64 0, aI64 0], .agg [aI64 4, aI64 0], .agg [aI64 0, aI64 4], .agg [aI64 1, aI64 1]], H := [.own [aI64 0, aI64 0], .own [aI64 4, aI64 0], .own [aI64 0, aI64 4], .own (api_Place.c v3.1)], r := .loc (aI64 v8) [] [] 0 : CE }] (List.forall_mem_cons.2 ⟨(callOk_val (l := []) (args' := [.agg (api_Pix.c (api_Pix.mk 0 0)), .agg (api_Pix.c (api_Pix.mk 4 0)), .agg (api_Pix.c (api_Pix.mk 0 4))]) rfl (SnL.cons (Sn.pure rfl) (SnL.cons (Sn.pure rfl) (SnL.cons (Sn.pure rfl) SnL.nil))) (predicate_Orient_ok n (api_Pix.mk 0 0) (api_Pix.mk 4 0) (api_Pix.mk 0 4) v5 hc6)), (List.forall_mem_cons.2 ⟨(callOk_val (l := []) (args' := [.agg (api_Pix.c (api_Pix.mk 0 0)), .agg (api_Pix.c (api_Pix.mk 4 0)), .agg (api_Pix.c (api_Pix.mk 0 4)), .agg (api_Pix.c (api_Pix.mk 1 1))]) rfl (SnL.cons (Sn.pure rfl) (SnL.cons (Sn.pure rfl) (SnL.cons (Sn.pure rfl) (SnL.cons (Sn.pure rfl) SnL.nil)))) (predicate_Circle_ok n (api_Pix.mk 0 0) (api_Pix.mk 4 0) (api_Pix.mk 0 4) (api_Pix.mk 1 1) v8 hc9)), ce0⟩)⟩)) ?_
      refine EVT.p1 (.agg [aI64 0, aI64 0]) ?_
      refine EVT.p1 (.agg [aI64 4, aI64 0]) ?_
      refine EVT.p1 (.agg [aI64 0, aI64 4]) ?_
      refine EVT.cal (by kernel_rfl) (by kernel_rfl) (callOf_at (by kernel_rfl)) (by kernel_rfl) ?_
      refine EVT.pure (v := aB true) (by kernel_rfl) (Eq.trans (b := some (.pure (aB ((v5 : Int) == 1)))) (by kernel_rfl) (by rw [hb7])) (by kernel_rfl) ?_
      refine EVT.p1 (aB true) ?_
      refine EVT.p1 (.agg [aI64 0, aI64 0]) ?_
      refine EVT.p1 (.agg [aI64 4, aI64 0]) ?_
      refine EVT.p1 (.agg [aI64 0, aI64 4]) ?_
      refine EVT.p1 (.agg [aI64 1, aI64 1]) ?_
      refine EVT.cal (by kernel_rfl) (by kernel_rfl) (callOf_skip (fun h _ => absurd (show (33 : Nat) = 29 from h) (by decide)) (callOf_at (by kernel_rfl))) (by kernel_rfl) ?_
      refine EVT.pure (v := aB true) (by kernel_rfl) (Eq.trans (b := some (.pure (aB ((v8 : Int) == 1)))) (by kernel_rfl) (by rw [hb10])) (by kernel_rfl) ?_
      refine EVT.p1 (aB true) ?_
      refine EVT.p1 (aB true) ?_
      refine EVT.p1 (aI64 v1.1) ?_
      refine EVT.pure (v := aB true) (by kernel_rfl) (Eq.trans (b := some (.pure (aB ((v1.1 : Int) == 2)))) (by kernel_rfl) (by rw [hb11])) (by kernel_rfl) ?_
      refine EVT.p1 (aB true) ?_
      refine EVT.p1 (aB true) ?_
      refine EVT.p1 (aI64 v1.2) ?_
      refine EVT.pure (v := aB true) (by kernel_rfl) (Eq.trans (b := some (.pure (aB ((v1.2 : Int) == 0)))) (by kernel_rfl) (by rw [hb12])) (by kernel_rfl) ?_
      refine EVT.p1 (aB true) ?_
      refine EVT.p1 (aB true) ?_
      refine EVT.p1 (aI64 v3.2) ?_
      refine EVT.pure (v := aB false) (by kernel_rfl) (Eq.trans (b := some (.pure (aB ((v3.2 : Int) == 0)))) (by kernel_rfl) (by rw [hb13])) (by kernel_rfl) ?_
      refine EVT.p1 (aB false) ?_
      refine EVT.p1 (aB false) ?_
      refine EVT.s1 ?_
      refine EVT.s1 ?_
      refine EVT.s1 ?_
      refine EVT.s1 ?_
      refine EVT.p1 (aB false) ?_
      refine EVT.p1 (aB false) ?_
      refine EVT.s1 ?_
      refine EVT.s1 ?_
      refine EVT.s1 ?_
      refine EVT.s1 ?_
      refine EVT.p1 (aB false) ?_
      refine EVT.p1 (aB false) ?_
      refine EVT.done ⟨by kernel_rfl, ?_⟩
      refine CQ.ret ?_
      obtain rfl := Option.some.inj hr
      exact FinQ.r1 [aB false]
    ·replace hr := cd_f hb12 hr
     refine CQ.regionT fine (callOf_ok [{ f := 29, args := [.agg [aI64 0, aI64 0], .agg [aI64 4, aI64 0], .agg [aI64 0, aI64 4]], H := [.own [aI64 0, aI64 0], .own [aI64 4, aI64 0], .own [aI64 0, aI64 4], .own (api_Place.c v3.1)], r := .loc (aI64 v5) [] [] 0 : CE }, { f := 33, args := [.agg [aI64 0, aI64 0], .agg [aI64 4, aI64 0], .agg [aI64 0, aI64 4], .agg [aI64 1, aI64 1]], H := [.own [aI64 0, aI64 0], .own [aI64 4, aI64 0], .own [aI64 0, aI64 4], .own (api_Place.c v3.1)], r := .loc (aI64 v8) [] [] 0 : CE }] (List.forall_mem_cons.2 ⟨(callOk_val (l := []) (args' := [.agg (api_Pix.c (api_Pix.mk 0 0)), .agg (api_Pix.c (api_Pix.mk 4 0)), .agg (api_Pix.c (api_Pix.mk 0 4))]) rfl (SnL.cons (Sn.pure rfl) (SnL.cons (Sn.pure rfl) (SnL.cons (Sn.pure rfl) SnL.nil))) (predicate_Orient_ok n (api_Pix.mk 0 0) (api_Pix.mk 4 0) (api_Pix.mk 0 4) v5 hc6)), (List.forall_mem_cons.2 ⟨(callOk_val (l := []) (args' := [.agg (api_Pix.c (api_Pix.mk 0 0)), .agg (api_Pix.c (api_Pix.mk 4 0)), .agg (api_Pix.c (api_Pix.mk 0 4)), .agg (api_Pix.c (api_Pix.mk 1 1))]) rfl (SnL.cons (Sn.pure rfl) (SnL.cons (Sn.pure rfl) (SnL.cons (Sn.pure rfl) (SnL.cons (Sn.pure rfl) SnL.nil)))) (predicate_Circle_ok n (api_Pix.mk 0 0) (api_Pix.mk 4 0) (api_Pix.mk 0 4) (api_Pix.mk 1 1) v8 hc9)), ce0⟩)⟩)) ?_
     refine EVT.p1 (.agg [aI64 0, aI64 0]) ?_
     refine EVT.p1 (.agg [aI64 4, aI64 0]) ?_
     refine EVT.p1 (.agg [aI64 0, aI64 4]) ?_
     refine EVT.cal (by kernel_rfl) (by kernel_rfl) (callOf_at (by kernel_rfl)) (by kernel_rfl) ?_
     refine EVT.pure (v := aB true) (by kernel_rfl) (Eq.trans (b := some (.pure (aB ((v5 : Int) == 1)))) (by kernel_rfl) (by rw [hb7])) (by kernel_rfl) ?_
     refine EVT.p1 (aB true) ?_
     refine EVT.p1 (.agg [aI64 0, aI64 0]) ?_
     refine EVT.p1 (.agg [aI64 4, aI64 0]) ?_
     refine EVT.p1 (.agg [aI64 0, aI64 4]) ?_
     refine EVT.p1 (.agg [aI64 1, aI64 1]) ?_
     refine EVT.cal (by kernel_rfl) (by kernel_rfl) (callOf_skip (fun h _ => absurd (show (33 : Nat) = 29 from h) (by decide)) (callOf_at (by kernel_rfl))) (by kernel_rfl) ?_
     refine EVT.pure (v := aB true) (by kernel_rfl) (Eq.trans (b := some (.pure (aB ((v8 : Int) == 1)))) (by kernel_rfl) (by rw [hb10])) (by kernel_rfl) ?_
     refine EVT.p1 (aB true) ?_
     refine EVT.p1 (aB true) ?_
     refine EVT.p1 (aI64 v1.1) ?_
     refine EVT.pure (v := aB true) (by kernel_rfl) (Eq.trans (b := some (.pure (aB ((v1.1 : Int) == 2)))) (by kernel_rfl) (by rw [hb11])) (by kernel_rfl) ?_
     refine EVT.p1 (aB true) ?_
     refine EVT.p1 (aB true) ?_
     refine EVT.p1 (aI64 v1.2) ?_
     refine EVT.pure (v := aB false) (by kernel_rfl) (Eq.trans (b := some (.pure (aB ((v1.2 : Int) == 0)))) (by kernel_rfl) (by rw [hb12])) (by kernel_rfl) ?_
     refine EVT.p1 (aB false) ?_
     refine EVT.p1 (aB false) ?_
     refine EVT.s1 ?_
     refine EVT.s1 ?_
     refine EVT.p1 (aB false) ?_
     refine EVT.p1 (aB false) ?_
     refine EVT.s1 ?_
     refine EVT.s1 ?_
     refine EVT.s1 ?_
     refine EVT.s1 ?_
     refine EVT.p1 (aB false) ?_
     refine EVT.p1 (aB false) ?_
     refine EVT.s1 ?_
     refine EVT.s1 ?_
     refine EVT.s1 ?_
     refine EVT.s1 ?_
     refine EVT.p1 (aB false) ?_
     refine EVT.p1 (aB false) ?_
     refine EVT.done ⟨by kernel_rfl, ?_⟩
     refine CQ.ret ?_
     obtain rfl := Option.some.inj hr
     exact FinQ.r1 [aB false]
   ·replace hr := cd_f hb11 hr
    refine CQ.regionT fine (callOf_ok [{ f := 29, args := [.agg [aI64 0, aI64 0], .agg [aI64 4, aI64 0], .agg [aI64 0, aI64 4]], H := [.own [aI64 0, aI64 0], .own [aI64 4, aI64 0], .own [aI64 0, aI64 4], .own (api_Place.c v3.1)], r := .loc (aI64 v5) [] [] 0 : CE }, { f := 33, args := [.agg [aI64 0, aI64 0], .agg [aI64 4, aI64 0], .agg [aI64 0, aI64 4], .agg [aI64 1, aI64 1]], H := [.own [aI64 0, aI64 0], .own [aI64 4, aI64 0], .own [aI64 0, aI64 4], .own (api_Place.c v3.1)], r := .loc (aI64 v8) [] [] 0 : CE }] (List.forall_mem_cons.2 ⟨(callOk_val (l := []) (args' := [.agg (api_Pix.c (api_Pix.mk 0 0)), .agg (api_Pix.c (api_Pix.mk 4 0)), .agg (api_Pix.c (api_Pix.mk 0 4))]) rfl (SnL.cons (Sn.pure rfl) (SnL.cons (Sn.pure rfl) (SnL.cons (Sn.pure rfl) SnL.nil))) (predicate_Orient_ok n (api_Pix.mk 0 0) (api_Pix.mk 4 0) (api_Pix.mk 0 4) v5 hc6)), (List.forall_mem_cons.2 ⟨(callOk_val (l := []) (args' := [.agg (api_Pix.c (api_Pix.mk 0 0)), .agg (api_Pix.c (api_Pix.mk 4 0)), .agg (api_Pix.c (api_Pix.mk 0 4)), .agg (api_Pix.c (api_Pix.mk 1 1))]) rfl (SnL.cons (Sn.pure rfl) (SnL.cons (Sn.pure rfl) (SnL.cons (Sn.pure rfl) (SnL.cons (Sn.pure rfl) SnL.nil)))) (predicate_Circle_ok n (api_Pix.mk 0 0) (api_Pix.mk 4 0) (api_Pix.mk 0 4) (api_Pix.mk 1 1) v8 hc9)), ce0⟩)⟩)) ?_
    refine EVT.p1 (.agg [aI64 0, aI64 0]) ?_
    refine EVT.p1 (.agg [aI64 4, aI64 0]) ?_
    refine EVT.p1 (.agg [aI64 0, aI64 4]) ?_
    refine EVT.cal (by kernel_rfl) (by kernel_rfl) (callOf_at (by kernel_rfl)) (by kernel_rfl) ?_
    refine EVT.pure (v := aB true) (by kernel_rfl) (Eq.trans (b := some (.pure (aB ((v5 : Int) == 1)))) (by kernel_rfl) (by rw [hb7])) (by kernel_rfl) ?_
    refine EVT.p1 (aB true) ?_
    refine EVT.p1 (.agg [aI64 0, aI64 0]) ?_
    refine EVT.p1 (.agg [aI64 4, aI64 0]) ?_
    refine EVT.p1 (.agg [aI64 0, aI64 4]) ?_
    refine EVT.p1 (.agg [aI64 1, aI64 1]) ?_
    refine EVT.cal (by kernel_rfl) (by kernel_rfl) (callOf_skip (fun h _ => absurd (show (33 : Nat) = 29 from h) (by decide)) (callOf_at (by kernel_rfl))) (by kernel_rfl) ?_
    refine EVT.pure (v := aB true) (by kernel_rfl) (Eq.trans (b := some (.pure (aB ((v8 : Int) == 1)))) (by kernel_rfl) (by rw [hb10])) (by kernel_rfl) ?_
    refine EVT.p1 (aB true) ?_
    refine EVT.p1 (aB true) ?_
    refine EVT.p1 (aI64 v1.1) ?_
    refine EVT.pure (v := aB false) (by kernel_rfl) (Eq.trans (b := some (.pure (aB ((v1.1 : Int) == 2)))) (by kernel_rfl) (by rw [hb11])) (by kernel_rfl) ?_
    refine EVT.p1 (aB false) ?_
    refine EVT.p1 (aB false) ?_
    refine EVT.s1 ?_
    refine EVT.s1 ?_
    refine EVT.p1 (aB false) ?_
    refine EVT.p1 (aB false) ?_
    refine EVT.s1 ?_
    refine EVT.s1 ?_
    refine EVT.p1 (aB false) ?_
    refine EVT.p1 (aB false) ?_
    refine EVT.s1 ?_
    refine EVT.s1 ?_
    refine EVT.s1 ?_
    refine EVT.s1 ?_
    refine EVT.p1 (aB false) ?_
    refine EVT.p1 (aB false) ?_
    refine EVT.s1 ?_
    refine EVT.s1 ?_
    refine EVT.s1 ?_
    refine EVT.s1 ?_
    refine EVT.p1 (aB false) ?_
    refine EVT.p1 (aB false) ?_
    refine EVT.done ⟨by kernel_rfl, ?_⟩
    refine CQ.ret ?_
    obtain rfl := Option.some.inj hr
    exact FinQ.r1 [aB false]
  ·replace hr := cd_f hb10 hr
   refine CQ.regionT fine (callOf_ok [{ f := 29, args := [.agg [aI64 0, aI64 0], .agg [aI64 4, aI64 0], .agg [aI64 0, aI64 4]], H := [.own [aI64 0, aI64 0], .own [aI64 4, aI64 0], .own [aI64 0, aI64 4], .own (api_Place.c v3.1)], r := .loc (aI64 v5) [] [] 0 : CE }, { f := 33, args := [.agg [aI64 0, aI64 0], .agg [aI64 4, aI64 0], .agg [aI64 0, aI64 4], .agg [aI64 1, aI64 1]], H := [.own [aI64 0, aI64 0], .own [aI64 4, aI64 0], .own [aI64 0, aI64 4], .own (api_Place.c v3.1)], r := .loc (aI64 v8) [] [] 0 : CE }] (List.forall_mem_cons.2 ⟨(callOk_val (l := []) (args' := [.agg (api_Pix.c (api_Pix.mk 0 0)), .agg (api_Pix.c (api_Pix.mk 4 0)), .agg (api_Pix.c (api_Pix.mk 0 4))]) rfl (SnL.cons (Sn.pure rfl) (SnL.cons (Sn.pure rfl) (SnL.cons (Sn.pure rfl) SnL.nil))) (predicate_Orient_ok n (api_Pix.mk 0 0) (api_Pix.mk 4 0) (api_Pix.mk 0 4) v5 hc6)), (List.forall_mem_cons.2 ⟨(callOk_val (l := []) (args' := [.agg (api_Pix.c (api_Pix.mk 0 0)), .agg (api_Pix.c (api_Pix.mk 4 0)), .agg (api_Pix.c (api_Pix.mk 0 4)), .agg (api_Pix.c (api_Pix.mk 1 1))]) rfl (SnL.cons (Sn.pure rfl) (SnL.cons (Sn.pure rfl) (SnL.cons (Sn.pure rfl) (SnL.cons (Sn.pure rfl) SnL.nil)))) (predicate_Circle_ok n (api_Pix.mk 0 0) (api_Pix.mk 4 0) (api_Pix.mk 0 4) (api_Pix.mk 1 1) v8 hc9)), ce0⟩)⟩)) ?_
   refine EVT.p1 (.agg [aI64 0, aI64 0]) ?_
   refine EVT.p1 (.agg [aI64 4, aI64 0]) ?_
   refine EVT.p1 (.agg [aI64 0, aI64 4]) ?_
   refine EVT.cal (by kernel_rfl) (by kernel_rfl) (callOf_at (by kernel_rfl)) (by kernel_rfl) ?_
   refine EVT.pure (v := aB true) (by kernel_rfl) (Eq.trans (b := some (.pure (aB ((v5 : Int) == 1)))) (by kernel_rfl) (by rw [hb7])) (by kernel_rfl) ?_
   refine EVT.p1 (aB true) ?_
   refine EVT.p1 (.agg [aI64 0, aI64 0]) ?_
   refine EVT.p1 (.agg [aI64 4, aI64 0]) ?_
   refine EVT.p1 (.agg [aI64 0, aI64 4]) ?_
   refine EVT.p1 (.agg [aI64 1, aI64 1]) ?_
   refine EVT.cal (by kernel_rfl) (by kernel_rfl) (callOf_skip (fun h _ => absurd (show (33 : Nat) = 29 from h) (by decide)) (callOf_at (by kernel_rfl))) (by kernel_rfl) ?_
   refine EVT.pure (v := aB false) (by kernel_rfl) (Eq.trans (b := some (.pure (aB ((v8 : Int) == 1)))) (by kernel_rfl) (by rw [hb10])) (by kernel_rfl) ?_
   refine EVT.p1 (aB false) ?_
   refine EVT.p1 (aB false) ?_
   refine EVT.s1 ?_
   refine EVT.s1 ?_
   refine EVT.p1 (aB false) ?_
   refine EVT.p1 (aB false) ?_
   refine EVT.s1 ?_
   refine EVT.s1 ?_
   refine EVT.p1 (aB false) ?_
   refine EVT.p1 (aB false) ?_
   refine EVT.s1 ?_
   refine EVT.s1 ?_
   refine EVT.p1 (aB false) ?_
   refine EVT.p1 (aB false) ?_
   refine EVT.s1 ?_
   refine EVT.s1 ?_
   refine EVT.s1 ?_
   refine EVT.s1 ?_
   refine EVT.p1 (aB false) ?_
   refine EVT.p1 (aB false) ?_
   refine EVT.s1 ?_
   refine EVT.s1 ?_
   refine EVT.s1 ?_
   refine EVT.s1 ?_
   refine EVT.p1 (aB false) ?_
   refine EVT.p1 (aB false) ?_
   refine EVT.done ⟨by kernel_rfl, ?_⟩
   refine CQ.ret ?_
   obtain rfl := Option.some.inj hr
   exact FinQ.r1 [aB false]
 ·replace hr := cd_f hb7 hr
  refine CQ.regionT fine (callOf_1 29 [.agg [aI64 0, aI64 0], .agg [aI64 4, aI64 0], .agg [aI64 0, aI64 4]] [.own [aI64 0, aI64 0], .own [aI64 4, aI64 0], .own [aI64 0, aI64 4], .own (api_Place.c v3.1)] (.loc (aI64 v5) [] [] 0) (callOk_val (l := []) (args' := [.agg (api_Pix.c (api_Pix.mk 0 0)), .agg (api_Pix.c (api_Pix.mk 4 0)), .agg (api_Pix.c (api_Pix.mk 0 4))]) rfl (SnL.cons (Sn.pure rfl) (SnL.cons (Sn.pure rfl) (SnL.cons (Sn.pure rfl) SnL.nil))) (predicate_Orient_ok n (api_Pix.mk 0 0) (api_Pix.mk 4 0) (api_Pix.mk 0 4) v5 hc6))) ?_
  refine EVT.p1 (.agg [aI64 0, aI64 0]) ?_
  refine EVT.p1 (.agg [aI64 4, aI64 0]) ?_
  refine EVT.p1 (.agg [aI64 0, aI64 4]) ?_
  refine EVT.cal (by kernel_rfl) (by kernel_rfl) (callOf_at (by kernel_rfl)) (by kernel_rfl) ?_
  refine EVT.pure (v := aB false) (by kernel_rfl) (Eq.trans (b := some (.pure (aB ((v5 : Int) == 1)))) (by kernel_rfl) (by rw [hb7])) (by kernel_rfl) ?_
  refine EVT.p1 (aB false) ?_
  refine EVT.s1 ?_
  refine EVT.s1 ?_
  refine EVT.s1 ?_
  refine EVT.s1 ?_
  refine EVT.s1 ?_
  refine EVT.s1 ?_
  refine EVT.p1 (aB false) ?_
  refine EVT.p1 (aB false) ?_
  refine EVT.s1 ?_
  refine EVT.s1 ?_
  refine EVT.p1 (aB false) ?_
  refine EVT.p1 (aB false) ?_
  refine EVT.s1 ?_
  refine EVT.s1 ?_
  refine EVT.p1 (aB false) ?_
  refine EVT.p1 (aB false) ?_
  refine EVT.s1 ?_
  refine EVT.s1 ?_
  refine EVT.p1 (aB false) ?_
  refine EVT.p1 (aB false) ?_
  refine EVT.s1 ?_
  refine EVT.s1 ?_
  refine EVT.s1 ?_
  refine EVT.s1 ?_
  refine EVT.p1 (aB false) ?_
  refine EVT.p1 (aB false) ?_
  refine EVT.s1 ?_
  refine EVT.s1 ?_
  refine EVT.s1 ?_
  refine EVT.s1 ?_
  refine EVT.p1 (aB false) ?_
  refine EVT.p1 (aB false) ?_
  refine EVT.done ⟨by kernel_rfl, ?_⟩
  refine CQ.ret ?_
  obtain rfl := Option.some.inj hr
  exact FinQ.r1 [aB false]

theorem fiducialref09_Valid_ok (n : Nat) (p : api_Pix) (r : Bool) (hr : fiducialref09_Valid n p = some r) : FnOk Tryz.prog 59 [.agg [.at (.int .i64 p.X), .at (.int .i64 p.Y)]] (.at (.bool r)) := by
 unfold fiducialref09_Valid at hr
 refine FnOk.body fine Tryz.func59 (c := (Tryz.f59.body).getD .skip) rfl (s := mkS 21 0 [(0, .agg (api_Pix.c p))]) (by kernel_rfl) (rs := [.tmp 2]) rfl ?_
 unfold Tryz.f59
 simp only [Option.getD_some]
 refine CQ.seq ?_
 refine CQ.r0 fine ?_
 refine EVO.e1 (.hp 0 0) [(0, .own (api_Pix.c p))] ?_
 refine EVO.p1 (aB false) ?_
 refine EVO.done ?_
 refine CQ.n1 [1] (mkS 21 0 [(1, .hp 0 0)]) [.own (api_Pix.c p)] ?_
 refine CQ.seq ?_
 rcases Bool.eq_false_or_eq_true (decide (p.X ≥ (-1048576))) with hb1 | hb1
 ·replace hr := cd_t hb1 hr
  rcases Bool.eq_false_or_eq_true (decide (p.X ≤ 1048576)) with hb2 | hb2
  ·replace hr := cd_t hb2 hr
   rcases Bool.eq_false_or_eq_true (decide (p.Y ≥ (-1048576))) with hb3 | hb3
   ·replace hr := cd_t hb3 hr
    refine CQ.r0 fine ?_
    refine EVO.p1 (.hp 0 0) ?_
    refine EVO.p1 (aI64 p.X) ?_
    refine EVO.p0 (v := aB true) (Eq.trans (b := some (.pure (aB (decide (p.X ≥ (-1048576)))))) (by kernel_rfl) (by rw [hb1])) ?_
    refine EVO.p1 (aB true) ?_
    refine EVO.q1 (.hp 0 0) ?_
    refine EVO.q1 (aI64 p.X) ?_
    refine EVO.pure (v := aB true) (by kernel_rfl) (Eq.trans (b := some (.pure (aB (decide (p.X ≤ 1048576))))) (by kernel_rfl) (by rw [hb2])) ?_
    refine EVO.p1 (aB true) ?_
    refine EVO.p1 (aB true) ?_
    refine EVO.q1 (.hp 0 1) ?_
    refine EVO.q1 (aI64 p.Y) ?_
    refine EVO.pure (v := aB true) (by kernel_rfl) (Eq.trans (b := some (.pure (aB (decide (p.Y ≥ (-1048576)))))) (by kernel_rfl) (by rw [hb3])) ?_
    refine EVO.p1 (aB true) ?_
    refine EVO.p1 (aB true) ?_
    refine EVO.q1 (.hp 0 1) ?_
    refine EVO.q1 (aI64 p.Y) ?_
    refine EVO.q1 (aB (decide (p.Y ≤ 1048576))) ?_
    refine EVO.p1 (aB (decide (p.Y ≤ 1048576))) ?_
    refine EVO.p1 (aB (decide (p.Y ≤ 1048576))) ?_
    refine EVO.done ?_
    refine CQ.ret ?_
    obtain rfl := Option.some.inj hr
    exact FinQ.r1 [aB (decide (p.Y ≤ 1048576))]
   ·replace hr := cd_f hb3 hr
    refine CQ.r0 fine ?_
    refine EVO.p1 (.hp 0 0) ?_
    refine EVO.p1 (aI64 p.X) ?_
    refine EVO.p0 (v := aB true) (Eq.trans (b := some (.pure (aB (decide (p.X ≥ (-1048576)))))) (by kernel_rfl) (by rw [hb1])) ?_
    refine EVO.p1 (aB true) ?_
    refine EVO.q1 (.hp 0 0) ?_
    refine EVO.q1 (aI64 p.X) ?_
    refine EVO.pure (v := aB true) (by kernel_rfl) (Eq.trans (b := some (.pure (aB (decide (p.X ≤ 1048576))))) (by kernel_rfl) (by rw [hb2])) ?_
    refine EVO.p1 (aB true) ?_
    refine EVO.p1 (aB true) ?_
    refine EVO.q1 (.hp 0 1) ?_
    refine EVO.q1 (aI64 p.Y) ?_
    refine EVO.pure (v := aB false) (by kernel_rfl) (Eq.trans (b := some (.pure (aB (decide (p.Y ≥ (-1048576)))))) (by kernel_rfl) (by rw [hb3])) ?_
    refine EVO.p1 (aB false) ?_
    refine EVO.p1 (aB false) ?_
    refine EVO.s1 ?_
    refine EVO.s1 ?_
    refine EVO.s1 ?_
    refine EVO.p1 (aB false) ?_
    refine EVO.p1 (aB false) ?_
    refine EVO.done ?_
    refine CQ.ret ?_
    obtain rfl := Option.some.inj hr
    exact FinQ.r1 [aB false]
  ·replace hr := cd_f hb2 hr
   refine CQ.r0 fine ?_
   refine EVO.p1 (.hp 0 0) ?_
   refine EVO.p1 (aI64 p.X) ?_
   refine EVO.p0 (v := aB true) (Eq.trans (b := some (.pure (aB (decide (p.X ≥ (-1048576)))))) (by kernel_rfl) (by rw [hb1])) ?_
   refine EVO.p1 (aB true) ?_
   refine EVO.q1 (.hp 0 0) ?_
   refine EVO.q1 (aI64 p.X) ?_
   refine EVO.pure (v := aB false) (by kernel_rfl) (Eq.trans (b := some (.pure (aB (decide (p.X ≤ 1048576))))) (by kernel_rfl) (by rw [hb2])) ?_
   refine EVO.p1 (aB false) ?_
   refine EVO.p1 (aB false) ?_
   refine EVO.s1 ?_
   refine EVO.s1 ?_
   refine EVO.s1 ?_
   refine EVO.p1 (aB false) ?_
   refine EVO.p1 (aB false) ?_
   refine EVO.s1 ?_
   refine EVO.s1 ?_
   refine EVO.s1 ?_
   refine EVO.p1 (aB false) ?_
   refine EVO.p1 (aB false) ?_
   refine EVO.done ?_
   refine CQ.ret ?_
   obtain rfl := Option.some.inj hr
   exact FinQ.r1 [aB false]
 ·replace hr := cd_f hb1 hr
  refine CQ.r0 fine ?_
  refine EVO.p1 (.hp 0 0) ?_
  refine EVO.p1 (aI64 p.X) ?_
  refine EVO.p0 (v := aB false) (Eq.trans (b := some (.pure (aB (decide (p.X ≥ (-1048576)))))) (by kernel_rfl) (by rw [hb1])) ?_
  refine EVO.p1 (aB false) ?_
  refine EVO.s1 ?_
  refine EVO.s1 ?_
  refine EVO.s1 ?_
  refine EVO.p1 (aB false) ?_
  refine EVO.p1 (aB false) ?_
  refine EVO.s1 ?_
  refine EVO.s1 ?_
  refine EVO.s1 ?_
  refine EVO.p1 (aB false) ?_
  refine EVO.p1 (aB false) ?_
  refine EVO.s1 ?_
  refine EVO.s1 ?_
  refine EVO.s1 ?_
  refine EVO.p1 (aB false) ?_
  refine EVO.p1 (aB false) ?_
  refine EVO.done ?_
  refine CQ.ret ?_
  obtain rfl := Option.some.inj hr
  exact FinQ.r1 [aB false]

theorem fiducialref09_All_ok (n : Nat) (l : List api_Pix) (r : Bool) (hr : fiducialref09_All n l = some r) : FnOk Tryz.prog 30 [slT api_Pix.c l] (.at (.bool r)) := by
 unfold fiducialref09_All at hr
 refine FnOk.body fine Tryz.func30 (c := (Tryz.f30.body).getD .skip) rfl (s := mkS 16 0 [(0, slT api_Pix.c l)]) (by kernel_rfl) (rs := [.tmp 2]) rfl ?_
 unfold Tryz.f30
 simp only [Option.getD_some]
 refine CQ.seq ?_
 refine CQ.r0 fine ?_
 refine EVO.p1 (aB false) ?_
 refine EVO.done ?_
 refine CQ.n1 [0] (mkS 16 0 [(0, slT api_Pix.c l)]) [] ?_
 refine CQ.seq ?_
 refine CQ.seq ?_
 refine CQ.r0 fine ?_
 refine EVO.p1 (aI64 0) ?_
 refine EVO.done ?_
 refine CQ.block ?_
 replace hr := bd hr; obtain ⟨o13, hL14, hr⟩ := hr
 refine CQ.loopO (σ := fun z0 => match z0 with | i_1 => ⟨mkS 16 0 [(0, slT api_Pix.c l), (3, aI64 i_1)], []⟩) (Q := fun x st' => match (generalizing := false) o13 with | .inl _ => x = .exit 0 ∧ Wk 0 st' ⟨mkS 16 0 [], []⟩ | .inr (r0) => x = .ret ∧ FinQ Tryz.prog [.tmp 2] (aB r0) .ret st') hL14 ((Wk.gc [0, 3] [] rfl trivial).to (by kernel_rfl)) ?_ ?_
 ·clear hr
  rintro m i_1 hr
  show CQ _ _ _ _ _ ⟨_, _⟩
  refine CQ.seq ?_
  refine CQ.seq ?_
  refine CQ.r0 fine ?_
  refine EVO.p1 (aI64 i_1) ?_
  refine EVO.p1 (slT api_Pix.c l) ?_
  refine EVO.p1 (aI64 (l.length : Int)) ?_
  refine EVO.p1 (aB (decide (i_1 < (l.length : Int)))) ?_
  refine EVO.done ?_
  refine CQ.n1 [0, 3, 7] (mkS 16 0 [(0, slT api_Pix.c l), (3, aI64 i_1), (7, aB (decide (i_1 < (l.length : Int))))]) [] ?_
  refine CQ.cond (t := decide (i_1 < (l.length : Int))) (by kernel_rfl) (fun hb8 => ?_) (fun hb8 => ?_)
  ·replace hr := cd_t hb8 hr
   refine CQ.skip ?_
   refine CQ.seq ?_
   refine CQ.block ?_
   refine CQ.seq ?_
   replace hr := gd hr; obtain ⟨hg9, hr⟩ := hr
   replace hr := bd hr; obtain ⟨v10, hc11, hr⟩ := hr
   refine CQ.region fine (callOf_1 59 [.agg (api_Pix.c (gt l i_1))] [] (.loc (aB v10) [] [] 0) (callOk_val (l := []) (args' := [.agg (api_Pix.c (gt l i_1))]) rfl (SnL.cons (Sn.pure rfl) SnL.nil) (fiducialref09_Valid_ok n (gt l i_1) v10 hc11))) ?_
   refine EVO.p1 (slT api_Pix.c l) ?_
   refine EVO.p1 (aI64 i_1) ?_
   refine EVO.p0 (v := .pp (l.flatMap api_Pix.c) (i_1.toNat * 2)) (Eq.trans (b := ORes.ofP (guardV (inR i_1 l.length) (.pp (l.flatMap api_Pix.c) (i_1.toNat * 2)))) (by kernel_rfl) (ofP_guard hg9)) ?_
   refine EVO.p0 (v := .agg (api_Pix.c (gt l i_1))) (Eq.trans (b := ORes.ofP (guardV (decide (2 ≤ ((l.flatMap api_Pix.c).drop (i_1.toNat * 2)).length)) (.agg (((l.flatMap api_Pix.c).drop (i_1.toNat * 2)).take 2)))) (by kernel_rfl) (flat_load api_Pix.len (inR_lt hg9) (by decide) (by omega : i_1.toNat * 2 = i_1.toNat * 2 + 0) (by kernel_rfl))) ?_
   refine EVO.c0 (by kernel_rfl) (callOf_at (by kernel_rfl)) ?_
   refine EVO.p1 (aB (!v10)) ?_
   refine EVO.done ?_
   refine CQ.n1 [0, 3, 15] (mkS 16 0 [(0, slT api_Pix.c l), (3, aI64 i_1), (15, aB (!v10))]) [] ?_
   refine CQ.cond (t := !v10) (by kernel_rfl) (fun hb12 => ?_) (fun hb12 => ?_)
   ·replace hr := cd_t hb12 hr
    refine CQ.seq ?_
    refine CQ.r0 fine ?_
    refine EVO.p1 (aB false) ?_
    refine EVO.done ?_
    refine CQ.ret ?_
    obtain rfl := Option.some.inj hr
    exact ⟨rfl, FinQ.ret (vs := [aB false]) (by kernel_rfl) (Sn.pure rfl)⟩
   ·replace hr := cd_f hb12 hr
    refine CQ.skip ?_
    refine CQ.pop ?_
    refine CQ.r0 fine ?_
    refine EVO.p1 (aI64 i_1) ?_
    refine EVO.p1 (aI64 (wrapF .i64 (i_1 + 1))) ?_
    refine EVO.p1 (aI64 (wrapF .i64 (i_1 + 1))) ?_
    refine EVO.done ?_
    exact loopF_back (wrapF .i64 (i_1 + 1)) hr ((Wk.gc [0, 3] [] rfl trivial).to (by kernel_rfl))
  ·replace hr := cd_f hb8 hr
   refine CQ.leave rfl ?_
   obtain rfl := Option.some.inj hr
   exact ⟨rfl, ((Wk.gc [] [] rfl trivial).to (by kernel_rfl))⟩
 ·rcases o13 with ⟨⟩ | r0
  ·rintro x st' hq15
   clear hL14
   obtain ⟨rfl, hq15⟩ := hq15
   refine CQ_exit _ rfl ?_
   refine CQ.wk hq15 ?_
   refine CQ.seq ?_
   refine CQ.r0 fine ?_
   refine EVO.p1 (aB true) ?_
   refine EVO.done ?_
   refine CQ.ret ?_
   obtain rfl := Option.some.inj hr
   exact FinQ.r1 [aB true]
  ·rintro x st' hq15
   clear hL14
   obtain ⟨rfl, hq15⟩ := hq15
   obtain rfl := Option.some.inj hr
   exact CQ_ret _ hq15

theorem fiducialref09_sign_ok (n : Nat) (n' : Int) (r : Int) (hr : fiducialref09_sign n n' = some r) : FnOk Tryz.prog 60 [.at (.int .i64 n')] (.at (.int .i64 r)) := by
 unfold fiducialref09_sign at hr
 refine FnOk.body fine Tryz.func60 (c := (Tryz.f60.body).getD .skip) rfl (s := mkS 7 0 [(0, aI64 n')]) (by kernel_rfl) (rs := [.tmp 2]) rfl ?_
 unfold Tryz.f60
 simp only [Option.getD_some]
 refine CQ.seq ?_
 refine CQ.r0 fine ?_
 refine EVO.p1 (aI64 0) ?_
 refine EVO.done ?_
 refine CQ.n1 [0] (mkS 7 0 [(0, aI64 n')]) [] ?_
 refine CQ.seq ?_
 refine CQ.seq ?_
 refine CQ.r0 fine ?_
 refine EVO.p1 (aI64 n') ?_
 refine EVO.p1 (aB (decide (n' < 0))) ?_
 refine EVO.done ?_
 refine CQ.n1 [0, 4] (mkS 7 0 [(0, aI64 n'), (4, aB (decide (n' < 0)))]) [] ?_
 refine CQ.cond (t := decide (n' < 0)) (by kernel_rfl) (fun hb1 => ?_) (fun hb1 => ?_)
 ·replace hr := cd_t hb1 hr
  refine CQ.seq ?_
  refine CQ.r0 fine ?_
  refine EVO.p1 (aI64 (-1)) ?_
  refine EVO.done ?_
  refine CQ.ret ?_
  obtain rfl := Option.some.inj hr
  exact FinQ.r1 [aI64 (-1)]
 ·replace hr := cd_f hb1 hr
  refine CQ.skip ?_
  refine CQ.seq ?_
  refine CQ.seq ?_
  refine CQ.r0 fine ?_
  refine EVO.p1 (aI64 n') ?_
  refine EVO.p1 (aB (decide (n' > 0))) ?_
  refine EVO.done ?_
  refine CQ.n1 [6] (mkS 7 0 [(6, aB (decide (n' > 0)))]) [] ?_
  refine CQ.cond (t := decide (n' > 0)) (by kernel_rfl) (fun hb2 => ?_) (fun hb2 => ?_)
  ·replace hr := cd_t hb2 hr
   refine CQ.seq ?_
   refine CQ.r0 fine ?_
   refine EVO.p1 (aI64 1) ?_
   refine EVO.done ?_
   refine CQ.ret ?_
   obtain rfl := Option.some.inj hr
   exact FinQ.r1 [aI64 1]
  ·replace hr := cd_f hb2 hr
   refine CQ.skip ?_
   refine CQ.seq ?_
   refine CQ.r0 fine ?_
   refine EVO.p1 (aI64 0) ?_
   refine EVO.done ?_
   refine CQ.ret ?_
   obtain rfl := Option.some.inj hr
   exact FinQ.r1 [aI64 0]

theorem fiducialref09_Orient_inj {a : api_Pix} {b : api_Pix} {c : api_Pix} {a_ : api_Pix} {b_ : api_Pix} {c_ : api_Pix} (h : ([.agg [.at (.int .i64 a.X), .at (.int .i64 a.Y)], .agg [.at (.int .i64 b.X), .at (.int .i64 b.Y)], .agg [.at (.int .i64 c.X), .at (.int .i64 c.Y)]] : List AV) = [.agg [.at (.int .i64 a_.X), .at (.int .i64 a_.Y)], .agg [.at (.int .i64 b_.X), .at (.int .i64 b_.Y)], .agg [.at (.int .i64 c_.X), .at (.int .i64 c_.Y)]]) : a = a_ ∧ b = b_ ∧ c = c_ := by
 obtain ⟨_, _⟩ := a
 obtain ⟨_, _⟩ := a_
 obtain ⟨_, _⟩ := b
 obtain ⟨_, _⟩ := b_
 obtain ⟨_, _⟩ := c
 obtain ⟨_, _⟩ := c_
 simp only [List.cons.injEq, AV.agg.injEq, AV.at.injEq, Value.int.injEq, Value.bool.injEq, AV.fn.injEq, AV.pp.injEq, true_and, and_true] at h
 simp_all
theorem fiducialref09_Orient_ok (n : Nat) (a : api_Pix) (b : api_Pix) (c : api_Pix) (r : Int) (hr : fiducialref09_Orient n a b c = some r) : FnOk Tryz.prog 31 [.agg [.at (.int .i64 a.X), .at (.int .i64 a.Y)], .agg [.at (.int .i64 b.X), .at (.int .i64 b.Y)], .agg [.at (.int .i64 c.X), .at (.int .i64 c.Y)]] (.at (.int .i64 r)) := by
 unfold fiducialref09_Orient at hr
 refine FnOk.body fine Tryz.func31 (c := (Tryz.f31.body).getD .skip) rfl (s := mkS 37 0 [(0, .agg (api_Pix.c a)), (1, .agg (api_Pix.c b)), (2, .agg (api_Pix.c c))]) (by kernel_rfl) (rs := [.tmp 6]) rfl ?_
 unfold Tryz.f31
 simp only [Option.getD_some]
 refine CQ.seq ?_
 refine CQ.r0 fine ?_
 refine EVO.e1 (.hp 0 0) [(0, .own (api_Pix.c a))] ?_
 refine EVO.e1 (.hp 1 0) [(1, .own (api_Pix.c b))] ?_
 refine EVO.e1 (.hp 2 0) [(2, .own (api_Pix.c c))] ?_
 refine EVO.p1 (aI64 0) ?_
 refine EVO.done ?_
 refine CQ.n1 [3, 4, 5] (mkS 37 0 [(3, .hp 0 0), (4, .hp 1 0), (5, .hp 2 0)]) [.own (api_Pix.c a), .own (api_Pix.c b), .own (api_Pix.c c)] ?_
 refine CQ.seq ?_
 refine CQ.seq ?_
 replace hr := bd hr; obtain ⟨v1, hc2, hr⟩ := hr
 refine CQ.region fine (callOf_1 30 [.hs 3 0 3 2] [.own (api_Pix.c a), .own (api_Pix.c b), .own (api_Pix.c c), .own [aI64 a.X, aI64 a.Y, aI64 b.X, aI64 b.Y, aI64 c.X, aI64 c.Y]] (.loc (aB v1) [] [3] 0) (callOk_val (l := [3]) (args' := [slT api_Pix.c [a, b, c]]) rfl (SnL.cons (Sn.hs rfl (.inl rfl) (SnC.cons (Sn.pure rfl) (SnC.cons (Sn.pure rfl) (SnC.cons (Sn.pure rfl) (SnC.cons (Sn.pure rfl) (SnC.cons (Sn.pure rfl) (SnC.cons (Sn.pure rfl) SnC.nil)))))) (fun h => nomatch h)) SnL.nil) (fiducialref09_All_ok n [a, b, c] v1 hc2))) ?_
 refine EVO.p1 (.agg (api_Pix.c a)) ?_
 refine EVO.p1 (.agg (api_Pix.c b)) ?_
 refine EVO.p1 (.agg (api_Pix.c c)) ?_
 refine EVO.e1 (.hs 3 0 3 2) [(3, .own [aI64 a.X, aI64 a.Y, aI64 b.X, aI64 b.Y, aI64 c.X, aI64 c.Y])] ?_
 refine EVO.c0 (by kernel_rfl) (callOf_at (by kernel_rfl)) ?_
 refine EVO.p1 (aB (!v1)) ?_
 refine EVO.done ?_
 refine CQ.n1 [3, 4, 5, 12] (mkS 37 0 [(3, .hp 0 0), (4, .hp 1 0), (5, .hp 2 0), (12, aB (!v1))]) [.own (api_Pix.c a), .own (api_Pix.c b), .own (api_Pix.c c), .own [aI64 a.X, aI64 a.Y, aI64 b.X, aI64 b.Y, aI64 c.X, aI64 c.Y]] ?_
 refine CQ.cond (t := !v1) (by kernel_rfl) (fun hb3 => ?_) (fun hb3 => ?_)
 ·replace hr := cd_t hb3 hr
  refine CQ.seq ?_
  refine CQ.r0 fine ?_
  refine EVO.p1 (aI64 0) ?_
  refine EVO.done ?_
  refine CQ.ret ?_
  obtain rfl := Option.some.inj hr
  exact FinQ.r1 [aI64 0]
 ·replace hr := cd_f hb3 hr
  refine CQ.skip ?_
  refine CQ.seq ?_
  replace hr := bd hr; obtain ⟨v4, hc5, hr⟩ := hr
  refine CQ.region fine (callOf_1 60 [aI64 (wrapF .i64 ((wrapF .i64 ((wrapF .i64 (b.X - a.X)) * (wrapF .i64 (c.Y - a.Y)))) - (wrapF .i64 ((wrapF .i64 (b.Y - a.Y)) * (wrapF .i64 (c.X - a.X))))))] [.own (api_Pix.c a), .own (api_Pix.c b), .own (api_Pix.c c), .own [aI64 a.X, aI64 a.Y, aI64 b.X, aI64 b.Y, aI64 c.X, aI64 c.Y]] (.loc (aI64 v4) [] [] 0) (callOk_val (l := []) (args' := [aI64 (wrapF .i64 ((wrapF .i64 ((wrapF .i64 (b.X - a.X)) * (wrapF .i64 (c.Y - a.Y)))) - (wrapF .i64 ((wrapF .i64 (b.Y - a.Y)) * (wrapF .i64 (c.X - a.X))))))]) rfl (SnL.cons (Sn.pure rfl) SnL.nil) (fiducialref09_sign_ok n (wrapF .i64 ((wrapF .i64 ((wrapF .i64 (b.X - a.X)) * (wrapF .i64 (c.Y - a.Y)))) - (wrapF .i64 ((wrapF .i64 (b.Y - a.Y)) * (wrapF .i64 (c.X - a.X)))))) v4 hc5))) ?_
  refine EVO.p1 (.hp 1 0) ?_
  refine EVO.p1 (aI64 b.X) ?_
  refine EVO.p1 (.hp 0 0) ?_
  refine EVO.p1 (aI64 a.X) ?_
  refine EVO.p1 (aI64 (wrapF .i64 (b.X - a.X))) ?_
  refine EVO.p1 (.hp 2 1) ?_
  refine EVO.p1 (aI64 c.Y) ?_
  refine EVO.p1 (.hp 0 1) ?_
  refine EVO.p1 (aI64 a.Y) ?_
  refine EVO.p1 (aI64 (wrapF .i64 (c.Y - a.Y))) ?_
  refine EVO.p1 (aI64 (wrapF .i64 ((wrapF .i64 (b.X - a.X)) * (wrapF .i64 (c.Y - a.Y))))) ?_
  refine EVO.p1 (.hp 1 1) ?_
  refine EVO.p1 (aI64 b.Y) ?_
  refine EVO.p1 (.hp 0 1) ?_
  refine EVO.p1 (aI64 a.Y) ?_
  refine EVO.p1 (aI64 (wrapF .i64 (b.Y - a.Y))) ?_
  refine EVO.p1 (.hp 2 0) ?_
  refine EVO.p1 (aI64 c.X) ?_
  refine EVO.p1 (.hp 0 0) ?_
  refine EVO.p1 (aI64 a.X) ?_
  refine EVO.p1 (aI64 (wrapF .i64 (c.X - a.X))) ?_
  refine EVO.p1 (aI64 (wrapF .i64 ((wrapF .i64 (b.Y - a.Y)) * (wrapF .i64 (c.X - a.X))))) ?_
  refine EVO.p1 (aI64 (wrapF .i64 ((wrapF .i64 ((wrapF .i64 (b.X - a.X)) * (wrapF .i64 (c.Y - a.Y)))) - (wrapF .i64 ((wrapF .i64 (b.Y - a.Y)) * (wrapF .i64 (c.X - a.X))))))) ?_
  refine EVO.c0 (by kernel_rfl) (callOf_at (by kernel_rfl)) ?_
  refine EVO.p1 (aI64 v4) ?_
  refine EVO.done ?_
  refine CQ.ret ?_
  obtain rfl := Option.some.inj hr
  exact FinQ.r1 [aI64 v4]

theorem fiducialref09_least_inj {a : Int} {b : Int} {a_ : Int} {b_ : Int} (h : ([.at (.int .i64 a), .at (.int .i64 b)] : List AV) = [.at (.int .i64 a_), .at (.int .i64 b_)]) : a = a_ ∧ b = b_ := by
 simp only [List.cons.injEq, AV.agg.injEq, AV.at.injEq, Value.int.injEq, Value.bool.injEq, AV.fn.injEq, AV.pp.injEq, true_and, and_true] at h
 simp_all
theorem fiducialref09_least_ok (n : Nat) (a : Int) (b : Int) (r : Int) (hr : fiducialref09_least n a b = some r) : FnOk Tryz.prog 89 [.at (.int .i64 a), .at (.int .i64 b)] (.at (.int .i64 r)) := by
 unfold fiducialref09_least at hr
 refine FnOk.body fine Tryz.func89 (c := (Tryz.f89.body).getD .skip) rfl (s := mkS 10 0 [(0, aI64 a), (1, aI64 b)]) (by kernel_rfl) (rs := [.tmp 4]) rfl ?_
 unfold Tryz.f89
 simp only [Option.getD_some]
 refine CQ.seq ?_
 refine CQ.r0 fine ?_
 refine EVO.p1 (aI64 0) ?_
 refine EVO.done ?_
 refine CQ.n1 [0, 1] (mkS 10 0 [(0, aI64 a), (1, aI64 b)]) [] ?_
 refine CQ.seq ?_
 refine CQ.seq ?_
 refine CQ.r0 fine ?_
 refine EVO.p1 (aI64 a) ?_
 refine EVO.p1 (aI64 b) ?_
 refine EVO.p1 (aB (decide (a < b))) ?_
 refine EVO.done ?_
 refine CQ.n1 [0, 1, 7] (mkS 10 0 [(0, aI64 a), (1, aI64 b), (7, aB (decide (a < b)))]) [] ?_
 refine CQ.cond (t := decide (a < b)) (by kernel_rfl) (fun hb1 => ?_) (fun hb1 => ?_)
 ·replace hr := cd_t hb1 hr
  refine CQ.seq ?_
  refine CQ.r0 fine ?_
  refine EVO.p1 (aI64 a) ?_
  refine EVO.p1 (aI64 a) ?_
  refine EVO.done ?_
  refine CQ.ret ?_
  obtain rfl := Option.some.inj hr
  exact FinQ.r1 [aI64 a]
 ·replace hr := cd_f hb1 hr
  refine CQ.skip ?_
  refine CQ.seq ?_
  refine CQ.r0 fine ?_
  refine EVO.p1 (aI64 b) ?_
  refine EVO.p1 (aI64 b) ?_
  refine EVO.done ?_
  refine CQ.ret ?_
  obtain rfl := Option.some.inj hr
  exact FinQ.r1 [aI64 b]

theorem fiducialref09_most_inj {a : Int} {b : Int} {a_ : Int} {b_ : Int} (h : ([.at (.int .i64 a), .at (.int .i64 b)] : List AV) = [.at (.int .i64 a_), .at (.int .i64 b_)]) : a = a_ ∧ b = b_ := by
 simp only [List.cons.injEq, AV.agg.injEq, AV.at.injEq, Value.int.injEq, Value.bool.injEq, AV.fn.injEq, AV.pp.injEq, true_and, and_true] at h
 simp_all
theorem fiducialref09_most_ok (n : Nat) (a : Int) (b : Int) (r : Int) (hr : fiducialref09_most n a b = some r) : FnOk Tryz.prog 90 [.at (.int .i64 a), .at (.int .i64 b)] (.at (.int .i64 r)) := by
 unfold fiducialref09_most at hr
 refine FnOk.body fine Tryz.func90 (c := (Tryz.f90.body).getD .skip) rfl (s := mkS 10 0 [(0, aI64 a), (1, aI64 b)]) (by kernel_rfl) (rs := [.tmp 4]) rfl ?_
 unfold Tryz.f90
 simp only [Option.getD_some]
 refine CQ.seq ?_
 refine CQ.r0 fine ?_
 refine EVO.p1 (aI64 0) ?_
 refine EVO.done ?_
 refine CQ.n1 [0, 1] (mkS 10 0 [(0, aI64 a), (1, aI64 b)]) [] ?_
 refine CQ.seq ?_
 refine CQ.seq ?_
 refine CQ.r0 fine ?_
 refine EVO.p1 (aI64 a) ?_
 refine EVO.p1 (aI64 b) ?_
 refine EVO.p1 (aB (decide (a > b))) ?_
 refine EVO.done ?_
 refine CQ.n1 [0, 1, 7] (mkS 10 0 [(0, aI64 a), (1, aI64 b), (7, aB (decide (a > b)))]) [] ?_
 refine CQ.cond (t := decide (a > b)) (by kernel_rfl) (fun hb1 => ?_) (fun hb1 => ?_)
 ·replace hr := cd_t hb1 hr
  refine CQ.seq ?_
  refine CQ.r0 fine ?_
  refine EVO.p1 (aI64 a) ?_
  refine EVO.p1 (aI64 a) ?_
  refine EVO.done ?_
  refine CQ.ret ?_
  obtain rfl := Option.some.inj hr
  exact FinQ.r1 [aI64 a]
 ·replace hr := cd_f hb1 hr
  refine CQ.skip ?_
  refine CQ.seq ?_
  refine CQ.r0 fine ?_
  refine EVO.p1 (aI64 b) ?_
  refine EVO.p1 (aI64 b) ?_
  refine EVO.done ?_
  refine CQ.ret ?_
  obtain rfl := Option.some.inj hr
  exact FinQ.r1 [aI64 b]

theorem fiducialref09_Between_ok (n : Nat) (a : api_Pix) (b : api_Pix) (c : api_Pix) (r : Bool) (hr : fiducialref09_Between n a b c = some r) : FnOk Tryz.prog 42 [.agg [.at (.int .i64 a.X), .at (.int .i64 a.Y)], .agg [.at (.int .i64 b.X), .at (.int .i64 b.Y)], .agg [.at (.int .i64 c.X), .at (.int .i64 c.Y)]] (.at (.bool r)) := by
 unfold fiducialref09_Between at hr
 refine FnOk.body fine Tryz.func42 (c := (Tryz.f42.body).getD .skip) rfl (s := mkS 58 0 [(0, .agg (api_Pix.c a)), (1, .agg (api_Pix.c b)), (2, .agg (api_Pix.c c))]) (by kernel_rfl) (rs := [.tmp 6]) rfl ?_
 unfold Tryz.f42
 simp only [Option.getD_some]
 refine CQ.seq ?_
 refine CQ.r0 fine ?_
 refine EVO.e1 (.hp 0 0) [(0, .own (api_Pix.c a))] ?_
 refine EVO.e1 (.hp 1 0) [(1, .own (api_Pix.c b))] ?_
 refine EVO.e1 (.hp 2 0) [(2, .own (api_Pix.c c))] ?_
 refine EVO.p1 (aB false) ?_
 refine EVO.done ?_
 refine CQ.n1 [3, 4, 5] (mkS 58 0 [(3, .hp 0 0), (4, .hp 1 0), (5, .hp 2 0)]) [.own (api_Pix.c a), .own (api_Pix.c b), .own (api_Pix.c c)] ?_
 refine CQ.seq ?_
 refine CQ.seq ?_
 replace hr := bd hr; obtain ⟨v1, hc2, hr⟩ := hr
 rcases Bool.eq_false_or_eq_true (!v1) with hb3 | hb3
 ·replace hr := cd_t hb3 hr
  refine CQ.region fine (callOf_1 30 [.hs 3 0 3 2] [.own (api_Pix.c a), .own (api_Pix.c b), .own (api_Pix.c c), .own [aI64 a.X, aI64 a.Y, aI64 b.X, aI64 b.Y, aI64 c.X, aI64 c.Y]] (.loc (aB v1) [] [3] 0) (callOk_val (l := [3]) (args' := [slT api_Pix.c [a, b, c]]) rfl (SnL.cons (Sn.hs rfl (.inl rfl) (SnC.cons (Sn.pure rfl) (SnC.cons (Sn.pure rfl) (SnC.cons (Sn.pure rfl) (SnC.cons (Sn.pure rfl) (SnC.cons (Sn.pure rfl) (SnC.cons (Sn.pure rfl) SnC.nil)))))) (fun h => nomatch h)) SnL.nil) (fiducialref09_All_ok n [a, b, c] v1 hc2))) ?_
  refine EVO.p1 (.agg (api_Pix.c a)) ?_
  refine EVO.p1 (.agg (api_Pix.c b)) ?_
  refine EVO.p1 (.agg (api_Pix.c c)) ?_
  refine EVO.e1 (.hs 3 0 3 2) [(3, .own [aI64 a.X, aI64 a.Y, aI64 b.X, aI64 b.Y, aI64 c.X, aI64 c.Y])] ?_
  refine EVO.c0 (by kernel_rfl) (callOf_at (by kernel_rfl)) ?_
  refine EVO.p0 (v := aB true) (Eq.trans (b := some (.pure (aB (!v1)))) (by kernel_rfl) (by rw [hb3])) ?_
  refine EVO.p1 (aB true) ?_
  refine EVO.s1 ?_
  refine EVO.s1 ?_
  refine EVO.s1 ?_
  refine EVO.s1 ?_
  refine EVO.s1 ?_
  refine EVO.p1 (aB true) ?_
  refine EVO.done ?_
  refine CQ.n1 [3, 4, 5, 19] (mkS 58 0 [(3, .hp 0 0), (4, .hp 1 0), (5, .hp 2 0), (19, aB true)]) [.own (api_Pix.c a), .own (api_Pix.c b), .own (api_Pix.c c), .own [aI64 a.X, aI64 a.Y, aI64 b.X, aI64 b.Y, aI64 c.X, aI64 c.Y]] ?_
  refine CQ.cT (by kernel_rfl) ?_
  refine CQ.seq ?_
  refine CQ.r0 fine ?_
  refine EVO.p1 (aB false) ?_
  refine EVO.done ?_
  refine CQ.ret ?_
  obtain rfl := Option.some.inj hr
  exact FinQ.r1 [aB false]
 ·replace hr := cd_f hb3 hr
  replace hr := bd hr; obtain ⟨v4, hc5, hr⟩ := hr
  refine CQ.region fine (callOf_ok [{ f := 30, args := [.hs 3 0 3 2], H := [.own (api_Pix.c a), .own (api_Pix.c b), .own (api_Pix.c c), .own [aI64 a.X, aI64 a.Y, aI64 b.X, aI64 b.Y, aI64 c.X, aI64 c.Y]], r := .loc (aB v1) [] [3] 0 : CE }, { f := 31, args := [.agg (api_Pix.c a), .agg (api_Pix.c b), .agg (api_Pix.c c)], H := [.own (api_Pix.c a), .own (api_Pix.c b), .own (api_Pix.c c), .own [aI64 a.X, aI64 a.Y, aI64 b.X, aI64 b.Y, aI64 c.X, aI64 c.Y]], r := .loc (aI64 v4) [] [] 0 : CE }] (List.forall_mem_cons.2 ⟨(callOk_val (l := [3]) (args' := [slT api_Pix.c [a, b, c]]) rfl (SnL.cons (Sn.hs rfl (.inl rfl) (SnC.cons (Sn.pure rfl) (SnC.cons (Sn.pure rfl) (SnC.cons (Sn.pure rfl) (SnC.cons (Sn.pure rfl) (SnC.cons (Sn.pure rfl) (SnC.cons (Sn.pure rfl) SnC.nil)))))) (fun h => nomatch h)) SnL.nil) (fiducialref09_All_ok n [a, b, c] v1 hc2)), (List.forall_mem_cons.2 ⟨(callOk_val (l := []) (args' := [.agg (api_Pix.c a), .agg (api_Pix.c b), .agg (api_Pix.c c)]) rfl (SnL.cons (Sn.pure rfl) (SnL.cons (Sn.pure rfl) (SnL.cons (Sn.pure rfl) SnL.nil))) (fiducialref09_Orient_ok n a b c v4 hc5)), ce0⟩)⟩)) ?_
  refine EVO.p1 (.agg (api_Pix.c a)) ?_
  refine EVO.p1 (.agg (api_Pix.c b)) ?_
  refine EVO.p1 (.agg (api_Pix.c c)) ?_
  refine EVO.e1 (.hs 3 0 3 2) [(3, .own [aI64 a.X, aI64 a.Y, aI64 b.X, aI64 b.Y, aI64 c.X, aI64 c.Y])] ?_
  refine EVO.c0 (by kernel_rfl) (callOf_at (by kernel_rfl)) ?_
  refine EVO.p0 (v := aB false) (Eq.trans (b := some (.pure (aB (!v1)))) (by kernel_rfl) (by rw [hb3])) ?_
  refine EVO.p1 (aB false) ?_
  refine EVO.q1 (.agg (api_Pix.c a)) ?_
  refine EVO.q1 (.agg (api_Pix.c b)) ?_
  refine EVO.q1 (.agg (api_Pix.c c)) ?_
  refine EVO.cal (by kernel_rfl) (by kernel_rfl) (callOf_skip (fun h _ => absurd (show (31 : Nat) = 30 from h) (by decide)) (callOf_at (by kernel_rfl))) ?_
  refine EVO.q1 (aB ((v4 : Int) != 0)) ?_
  refine EVO.p1 (aB ((v4 : Int) != 0)) ?_
  refine EVO.done ?_
  refine CQ.n1 [3, 4, 5, 19] (mkS 58 0 [(3, .hp 0 0), (4, .hp 1 0), (5, .hp 2 0), (19, aB ((v4 : Int) != 0))]) [.own (api_Pix.c a), .own (api_Pix.c b), .own (api_Pix.c c), .own [aI64 a.X, aI64 a.Y, aI64 b.X, aI64 b.Y, aI64 c.X, aI64 c.Y]] ?_
  refine CQ.cond (t := (v4 : Int) != 0) (by kernel_rfl) (fun hb6 => ?_) (fun hb6 => ?_)
  ·replace hr := cd_t hb6 hr
   refine CQ.seq ?_
   refine CQ.r0 fine ?_
   refine EVO.p1 (aB false) ?_
   refine EVO.done ?_
   refine CQ.ret ?_
   obtain rfl := Option.some.inj hr
   exact FinQ.r1 [aB false]
  ·replace hr := cd_f hb6 hr
   refine CQ.skip ?_
   refine CQ.seq ?_
   replace hr := bd hr; obtain ⟨v7, hc8, hr⟩ := hr
   rcases Bool.eq_false_or_eq_true (decide (c.X ≥ v7)) with hb9 | hb9
   ·replace hr := cd_t hb9 hr
    replace hr := bd hr; obtain ⟨v10, hc11, hr⟩ := hr
    rcases Bool.eq_false_or_eq_true (decide (c.X ≤ v10)) with hb12 | hb12
    ·replace hr := cd_t hb12 hr
     replace hr := bd hr; obtain ⟨v13, hc14, hr⟩ := hr
     rcases Bool.eq_false_or_eq_true (decide (c.Y ≥ v13)) with hb15 | hb15
     ·replace hr := cd_t hb15 hr
      replace hr := bd hr; obtain ⟨v16, hc17, hr⟩ := hr
      refine CQ.regionT fine (callOf_ok [{ f := 89, args := [aI64 a.X, aI64 b.X], H := [.own (api_Pix.c a), .own (api_Pix.c b), .own (api_Pix.c c), .own [aI64 a.X, aI64 a.Y, aI64 b.X, aI64 b.Y, aI64 c.X, aI64 c.Y]], r := .loc (aI64 v7) [] [] 0 : CE }, { f := 90, args := [aI64 a.X, aI64 b.X], H := [.own (api_Pix.c a), .own (api_Pix.c b), .own (api_Pix.c c), .own [aI64 a.X, aI64 a.Y, aI64 b.X, aI64 b.Y, aI64 c.X, aI64 c.Y]], r := .loc (aI64 v10) [] [] 0 : CE }, { f := 89, args := [aI64 a.Y, aI64 b.Y], H := [.own (api_Pix.c a), .own (api_Pix.c b), .own (api_Pix.c c), .own [aI64 a.X, aI64 a.Y, aI64 b.X, aI64 b.Y, aI64 c.X, aI64 c.Y]], r := .loc (aI64 v13) [] [] 0 : CE }, { f := 90, args := [aI64 a.Y, aI64 b.Y], H := [.own (api_Pix.c a), .own (api_Pix.c b), .own (api_Pix.c c), .own [aI64 a.X, aI64 a.Y, aI64 b.X, aI64 b.Y, aI64 c.X, aI64 c.Y]], r := .loc (aI64 v16) [] [] 0 : CE }] (List.forall_mem_cons.2 ⟨(callOk_val (l := []) (args' := [aI64 a.X, aI64 b.X]) rfl (SnL.cons (Sn.pure rfl) (SnL.cons (Sn.pure rfl) SnL.nil)) (fiducialref09_least_ok n a.X b.X v7 hc8)), (List.forall_mem_cons.2 ⟨(callOk_val (l := []) (args' := [aI64 a.X, aI64 b.X]) rfl (SnL.cons (Sn.pure rfl) (SnL.cons (Sn.pure rfl) SnL.nil)) (fiducialref09_most_ok n a.X b.X v10 hc11)), (List.forall_mem_cons.2 ⟨(callOk_val (l := []) (args' := [aI64 a.Y, aI64 b.Y]) rfl (SnL.cons (Sn.pure rfl) (SnL.cons (Sn.pure rfl) SnL.nil)) (fiducialref09_least_ok n a.Y b.Y v13 hc14)), (List.forall_mem_cons.2 ⟨(callOk_val (l := []) (args' := [aI64 a.Y, aI64 b.Y]) rfl (SnL.cons (Sn.pure rfl) (SnL.cons (Sn.pure rfl) SnL.nil)) (fiducialref09_most_ok n a.Y b.Y v16 hc17)), ce0⟩)⟩)⟩)⟩)) ?_
      refine EVT.p1 (.hp 2 0) ?_
      refine EVT.p1 (aI64 c.X) ?_
      refine EVT.p1 (.hp 0 0) ?_
      refine EVT.p1 (aI64 a.X) ?_
      refine EVT.p1 (.hp 1 0) ?_
      refine EVT.p1 (aI64 b.X) ?_
      refine EVT.cal (by kernel_rfl) (by kernel_rfl) (callOf_at (by kernel_rfl)) (by kernel_rfl) ?_
      refine EVT.pure (v := aB true) (by kernel_rfl) (Eq.trans (b := some (.pure (aB (decide (c.X ≥ v7))))) (by kernel_rfl) (by rw [hb9])) (by kernel_rfl) ?_
      refine EVT.p1 (aB true) ?_
      refine EVT.p1 (.hp 2 0) ?_
      refine EVT.p1 (aI64 c.X) ?_
      refine EVT.p1 (.hp 0 0) ?_
      refine EVT.p1 (aI64 a.X) ?_
      refine EVT.p1 (.hp 1 0) ?_
      refine EVT.p1 (aI64 b.X) ?_
      refine EVT.cal (by kernel_rfl) (by kernel_rfl) (callOf_skip (fun h _ => absurd (show (90 : Nat) = 89 from h) (by decide)) (callOf_at (by kernel_rfl))) (by kernel_rfl) ?_
      refine EVT.pure (v := aB true) (by kernel_rfl) (Eq.trans (b := some (.pure (aB (decide (c.X ≤ v10))))) (by kernel_rfl) (by rw [hb12])) (by kernel_rfl) ?_
      refine EVT.p1 (aB true) ?_
      refine EVT.p1 (aB true) ?_
      refine EVT.p1 (.hp 2 1) ?_
      refine EVT.p1 (aI64 c.Y) ?_
      refine EVT.p1 (.hp 0 1) ?_
      refine EVT.p1 (aI64 a.Y) ?_
      refine EVT.p1 (.hp 1 1) ?_
      refine EVT.p1 (aI64 b.Y) ?_
      refine EVT.cal (by kernel_rfl) (by kernel_rfl) (callOf_skip (fun _ h => by obtain ⟨e0, e1⟩ := fiducialref09_least_inj h; rw [show v13 = v7 from Option.some.inj (hc14.symm.trans ((show fiducialref09_least n a.Y b.Y = fiducialref09_least n a.X b.X from (congr (congr rfl e0) e1)).trans hc8))]) (callOf_skip (fun h _ => absurd (show (89 : Nat) = 90 from h) (by decide)) (callOf_at (by kernel_rfl)))) (by kernel_rfl) ?_
      refine EVT.pure (v := aB true) (by kernel_rfl) (Eq.trans (b := some (.pure (aB (decide (c.Y ≥ v13))))) (by kernel_rfl) (by rw [hb15])) (by kernel_rfl) ?_
      refine EVT.p1 (aB true) ?_
      refine EVT.p1 (aB true) ?_
      refine EVT.p1 (.hp 2 1) ?_
      refine EVT.p1 (aI64 c.Y) ?_
      refine EVT.p1 (.hp 0 1) ?_
      refine EVT.p1 (aI64 a.Y) ?_
      refine EVT.p1 (.hp 1 1) ?_
      refine EVT.p1 (aI64 b.Y) ?_
      refine EVT.cal (by kernel_rfl) (by kernel_rfl) (callOf_skip (fun h _ => absurd (show (90 : Nat) = 89 from h) (by decide)) (callOf_skip (fun _ h => by obtain ⟨e0, e1⟩ := fiducialref09_most_inj h; rw [show v16 = v10 from Option.some.inj (hc17.symm.trans ((show fiducialref09_most n a.Y b.Y = fiducialref09_most n a.X b.X from (congr (congr rfl e0) e1)).trans hc11))]) (callOf_skip (fun h _ => absurd (show (90 : Nat) = 89 from h) (by decide)) (callOf_at (by kernel_rfl))))) (by kernel_rfl) ?_
      refine EVT.p1 (aB (decide (c.Y ≤ v16))) ?_
      refine EVT.p1 (aB (decide (c.Y ≤ v16))) ?_
      refine EVT.p1 (aB (decide (c.Y ≤ v16))) ?_
      refine EVT.done ⟨by kernel_rfl, ?_⟩
      refine CQ.ret ?_
      obtain rfl := Option.some.inj hr
      exact FinQ.r1 [aB (decide (c.Y ≤ v16))]
     ·replace hr := cd_f hb15 hr
      refine CQ.regionT fine (callOf_ok [{ f := 89, args := [aI64 a.X, aI64 b.X], H := [.own (api_Pix.c a), .own (api_Pix.c b), .own (api_Pix.c c), .own [aI64 a.X, aI64 a.Y, aI64 b.X, aI64 b.Y, aI64 c.X, aI64 c.Y]], r := .loc (aI64 v7) [] [] 0 : CE }, { f := 90, args := [aI64 a.X, aI64 b.X], H := [.own (api_Pix.c a), .own (api_Pix.c b), .own (api_Pix.c c), .own [aI64 a.X, aI64 a.Y, aI64 b.X, aI64 b.Y, aI64 c.X, aI64 c.Y]], r := .loc (aI64 v10) [] [] 0 : CE }, { f := 89, args := [aI64 a.Y, aI64 b.Y], H := [.own (api_Pix.c a), .own (api_Pix.c b), .own (api_Pix.c c), .own [aI64 a.X, aI64 a.Y, aI64 b.X, aI64 b.Y, aI64 c.X, aI64 c.Y]], r := .loc (aI64 v13) [] [] 0 : CE }] (List.forall_mem_cons.2 ⟨(callOk_val (l := []) (args' := [aI64 a.X, aI64 b.X]) rfl (SnL.cons (Sn.pure rfl) (SnL.cons (Sn.pure rfl) SnL.nil)) (fiducialref09_least_ok n a.X b.X v7 hc8)), (List.forall_mem_cons.2 ⟨(callOk_val (l := []) (args' := [aI64 a.X, aI64 b.X]) rfl (SnL.cons (Sn.pure rfl) (SnL.cons (Sn.pure rfl) SnL.nil)) (fiducialref09_most_ok n a.X b.X v10 hc11)), (List.forall_mem_cons.2 ⟨(callOk_val (l := []) (args' := [aI64 a.Y, aI64 b.Y]) rfl (SnL.cons (Sn.pure rfl) (SnL.cons (Sn.pure rfl) SnL.nil)) (fiducialref09_least_ok n a.Y b.Y v13 hc14)), ce0⟩)⟩)⟩)) ?_
      refine EVT.p1 (.hp 2 0) ?_
      refine EVT.p1 (aI64 c.X) ?_
      refine EVT.p1 (.hp 0 0) ?_
      refine EVT.p1 (aI64 a.X) ?_
      refine EVT.p1 (.hp 1 0) ?_
      refine EVT.p1 (aI64 b.X) ?_
      refine EVT.cal (by kernel_rfl) (by kernel_rfl) (callOf_at (by kernel_rfl)) (by kernel_rfl) ?_
      refine EVT.pure (v := aB true) (by kernel_rfl) (Eq.trans (b := some (.pure (aB (decide (c.X ≥ v7))))) (by kernel_rfl) (by rw [hb9])) (by kernel_rfl) ?_
      refine EVT.p1 (aB true) ?_
      refine EVT.p1 (.hp 2 0) ?_
      refine EVT.p1 (aI64 c.X) ?_
      refine EVT.p1 (.hp 0 0) ?_
      refine EVT.p1 (aI64 a.X) ?_
      refine EVT.p1 (.hp 1 0) ?_
      refine EVT.p1 (aI64 b.X) ?_
      refine EVT.cal (by kernel_rfl) (by kernel_rfl) (callOf_skip (fun h _ => absurd (show (90 : Nat) = 89 from h) (by decide)) (callOf_at (by kernel_rfl))) (by kernel_rfl) ?_
      refine EVT.pure (v := aB true) (by kernel_rfl) (Eq.trans (b := some (.pure (aB (decide (c.X ≤ v10))))) (by kernel_rfl) (by rw [hb12])) (by kernel_rfl) ?_
      refine EVT.p1 (aB true) ?_
      refine EVT.p1 (aB true) ?_
      refine EVT.p1 (.hp 2 1) ?_
      refine EVT.p1 (aI64 c.Y) ?_
      refine EVT.p1 (.hp 0 1) ?_
      refine EVT.p1 (aI64 a.Y) ?_
      refine EVT.p1 (.hp 1 1) ?_
      refine EVT.p1 (aI64 b.Y) ?_
      refine EVT.cal (by kernel_rfl) (by kernel_rfl) (callOf_skip (fun _ h => by obtain ⟨e0, e1⟩ := fiducialref09_least_inj h; rw [show v13 = v7 from Option.some.inj (hc14.symm.trans ((show fiducialref09_least n a.Y b.Y = fiducialref09_least n a.X b.X from (congr (congr rfl e0) e1)).trans hc8))]) (callOf_skip (fun h _ => absurd (show (89 : Nat) = 90 from h) (by decide)) (callOf_at (by kernel_rfl)))) (by kernel_rfl) ?_
      refine EVT.pure (v := aB false) (by kernel_rfl) (Eq.trans (b := some (.pure (aB (decide (c.Y ≥ v13))))) (by kernel_rfl) (by rw [hb15])) (by kernel_rfl) ?_
      refine EVT.p1 (aB false) ?_
      refine EVT.p1 (aB false) ?_
      refine EVT.s1 ?_
      refine EVT.s1 ?_
      refine EVT.s1 ?_
      refine EVT.s1 ?_
      refine EVT.s1 ?_
      refine EVT.s1 ?_
      refine EVT.s1 ?_
      refine EVT.s1 ?_
      refine EVT.p1 (aB false) ?_
      refine EVT.p1 (aB false) ?_
      refine EVT.done ⟨by kernel_rfl, ?_⟩
      refine CQ.ret ?_
      obtain rfl := Option.some.inj hr
      exact FinQ.r1 [aB false]
    ·replace hr := cd_f hb12 hr
     refine CQ.regionT fine (callOf_ok [{ f := 89, args := [aI64 a.X, aI64 b.X], H := [.own (api_Pix.c a), .own (api_Pix.c b), .own (api_Pix.c c), .own [aI64 a.X, aI64 a.Y, aI64 b.X, aI64 b.Y, aI64 c.X, aI64 c.Y]], r := .loc (aI64 v7) [] [] 0 : CE }, { f := 90, args := [aI64 a.X, aI64 b.X], H := [.own (api_Pix.c a), .own (api_Pix.c b), .own (api_Pix.c c), .own [aI64 a.X, aI64 a.Y, aI64 b.X, aI64 b.Y, aI64 c.X, aI64 c.Y]], r := .loc (aI64 v10) [] [] 0 : CE }] (List.forall_mem_cons.2 ⟨(callOk_val (l := []) (args' := [aI64 a.X, aI64 b.X]) rfl (SnL.cons (Sn.pure rfl) (SnL.cons (Sn.pure rfl) SnL.nil)) (fiducialref09_least_ok n a.X b.X v7 hc8)), (List.forall_mem_cons.2 ⟨(callOk_val (l := []) (args' := [aI64 a.X, aI64 b.X]) rfl (SnL.cons (Sn.pure rfl) (SnL.cons (Sn.pure rfl) SnL.nil)) (fiducialref09_most_ok n a.X b.X v10 hc11)), ce0⟩)⟩)) ?_
     refine EVT.p1 (.hp 2 0) ?_
     refine EVT.p1 (aI64 c.X) ?_
     refine EVT.p1 (.hp 0 0) ?_
     refine EVT.p1 (aI64 a.X) ?_
     refine EVT.p1 (.hp 1 0) ?_
     refine EVT.p1 (aI64 b.X) ?_
     refine EVT.cal (by kernel_rfl) (by kernel_rfl) (callOf_at (by kernel_rfl)) (by kernel_rfl) ?_
     refine EVT.pure (v := aB true) (by kernel_rfl) (Eq.trans (b := some (.pure (aB (decide (c.X ≥ v7))))) (by kernel_rfl) (by rw [hb9])) (by kernel_rfl) ?_
     refine EVT.p1 (aB true) ?_
     refine EVT.p1 (.hp 2 0) ?_
     refine EVT.p1 (aI64 c.X) ?_
     refine EVT.p1 (.hp 0 0) ?_
     refine EVT.p1 (aI64 a.X) ?_
     refine EVT.p1 (.hp 1 0) ?_
     refine EVT.p1 (aI64 b.X) ?_
     refine EVT.cal (by kernel_rfl) (by kernel_rfl) (callOf_skip (fun h _ => absurd (show (90 : Nat) = 89 from h) (by decide)) (callOf_at (by kernel_rfl))) (by kernel_rfl) ?_
     refine EVT.pure (v := aB false) (by kernel_rfl) (Eq.trans (b := some (.pure (aB (decide (c.X ≤ v10))))) (by kernel_rfl) (by rw [hb12])) (by kernel_rfl) ?_
     refine EVT.p1 (aB false) ?_
     refine EVT.p1 (aB false) ?_
     refine EVT.s1 ?_
     refine EVT.s1 ?_
     refine EVT.s1 ?_
     refine EVT.s1 ?_
     refine EVT.s1 ?_
     refine EVT.s1 ?_
     refine EVT.s1 ?_
     refine EVT.s1 ?_
     refine EVT.p1 (aB false) ?_
     refine EVT.p1 (aB false) ?_
     refine EVT.s1 ?_
     refine EVT.s1 ?_
     refine EVT.s1 ?_
     refine EVT.s1 ?_
     refine EVT.s1 ?_
     refine EVT.s1 ?_
     refine EVT.s1 ?_
     refine EVT.s1 ?_
     refine EVT.p1 (aB false) ?_
     refine EVT.p1 (aB false) ?_
     refine EVT.done ⟨by kernel_rfl, ?_⟩
     refine CQ.ret ?_
     obtain rfl := Option.some.inj hr
     exact FinQ.r1 [aB false]
   ·replace hr := cd_f hb9 hr
    refine CQ.regionT fine (callOf_1 89 [aI64 a.X, aI64 b.X] [.own (api_Pix.c a), .own (api_Pix.c b), .own (api_Pix.c c), .own [aI64 a.X, aI64 a.Y, aI64 b.X, aI64 b.Y, aI64 c.X, aI64 c.Y]] (.loc (aI64 v7) [] [] 0) (callOk_val (l := []) (args' := [aI64 a.X, aI64 b.X]) rfl (SnL.cons (Sn.pure rfl) (SnL.cons (Sn.pure rfl) SnL.nil)) (fiducialref09_least_ok n a.X b.X v7 hc8))) ?_
    refine EVT.p1 (.hp 2 0) ?_
    refine EVT.p1 (aI64 c.X) ?_
    refine EVT.p1 (.hp 0 0) ?_
    refine EVT.p1 (aI64 a.X) ?_
    refine EVT.p1 (.hp 1 0) ?_
    refine EVT.p1 (aI64 b.X) ?_
    refine EVT.cal (by kernel_rfl) (by kernel_rfl) (callOf_at (by kernel_rfl)) (by kernel_rfl) ?_
    refine EVT.pure (v := aB false) (by kernel_rfl) (Eq.trans (b := some (.pure (aB (decide (c.X ≥ v7))))) (by kernel_rfl) (by rw [hb9])) (by kernel_rfl) ?_
    refine EVT.p1 (aB false) ?_
    refine EVT.s1 ?_
    refine EVT.s1 ?_
    refine EVT.s1 ?_
    refine EVT.s1 ?_
    refine EVT.s1 ?_
    refine EVT.s1 ?_
    refine EVT.s1 ?_
    refine EVT.s1 ?_
    refine EVT.p1 (aB false) ?_
    refine EVT.p1 (aB false) ?_
    refine EVT.s1 ?_
    refine EVT.s1 ?_
    refine EVT.s1 ?_
    refine EVT.s1 ?_
    refine EVT.s1 ?_
    refine EVT.s1 ?_
    refine EVT.s1 ?_
    refine EVT.s1 ?_
    refine EVT.p1 (aB false) ?_
    refine EVT.p1 (aB false) ?_
    refine EVT.s1 ?_
    refine EVT.s1 ?_
    refine EVT.s1 ?_
    refine EVT.s1 ?_
    refine EVT.s1 ?_
    refine EVT.s1 ?_
    refine EVT.s1 ?_
    refine EVT.s1 ?_
    refine EVT.p1 (aB false) ?_
    refine EVT.p1 (aB false) ?_
    refine EVT.done ⟨by kernel_rfl, ?_⟩
    refine CQ.ret ?_
    obtain rfl := Option.some.inj hr
    exact FinQ.r1 [aB false]

theorem fiducialref09_ends_ok (n : Nat) (a : api_Pix) (b : api_Pix) (c : api_Pix) (d : api_Pix) (r : List api_Pix) (hr : fiducialref09_ends n a b c d = some r) : FnOk Tryz.prog 79 [.agg [.at (.int .i64 a.X), .at (.int .i64 a.Y)], .agg [.at (.int .i64 b.X), .at (.int .i64 b.Y)], .agg [.at (.int .i64 c.X), .at (.int .i64 c.Y)], .agg [.at (.int .i64 d.X), .at (.int .i64 d.Y)]] (slT api_Pix.c r) := by
 unfold fiducialref09_ends at hr
 refine FnOk.body fine Tryz.func79 (c := (Tryz.f79.body).getD .skip) rfl (s := mkS 72 0 [(0, .agg (api_Pix.c a)), (1, .agg (api_Pix.c b)), (2, .agg (api_Pix.c c)), (3, .agg (api_Pix.c d))]) (by kernel_rfl) (rs := [.tmp 8]) rfl ?_
 unfold Tryz.f79
 simp only [Option.getD_some]
 refine CQ.seq ?_
 refine CQ.r0 fine ?_
 refine EVO.e1 (.hp 0 0) [(0, .own (api_Pix.c a))] ?_
 refine EVO.e1 (.hp 1 0) [(1, .own (api_Pix.c b))] ?_
 refine EVO.e1 (.hp 2 0) [(2, .own (api_Pix.c c))] ?_
 refine EVO.e1 (.hp 3 0) [(3, .own (api_Pix.c d))] ?_
 refine EVO.p1 (.at (.slice none 0 0)) ?_
 refine EVO.done ?_
 refine CQ.n1 [4, 5, 6, 7] (mkS 72 0 [(4, .hp 0 0), (5, .hp 1 0), (6, .hp 2 0), (7, .hp 3 0)]) [.own (api_Pix.c a), .own (api_Pix.c b), .own (api_Pix.c c), .own (api_Pix.c d)] ?_
 refine CQ.seq ?_
 refine CQ.r0 fine ?_
 refine EVO.e1 (.hs 4 0 0 2) [(4, .own [])] ?_
 refine EVO.p1 (.hs 4 0 0 2) ?_
 refine EVO.done ?_
 refine CQ.n1 [4, 5, 6, 7, 9] (mkS 72 0 [(4, .hp 0 0), (5, .hp 1 0), (6, .hp 2 0), (7, .hp 3 0), (9, .hs 4 0 0 2)]) [.own (api_Pix.c a), .own (api_Pix.c b), .own (api_Pix.c c), .own (api_Pix.c d), .own []] ?_
 refine CQ.seq ?_
 refine CQ.r0 fine ?_
 refine EVO.p1 (.agg (api_Pix.c a)) ?_
 refine EVO.p1 (.agg (api_Pix.c b)) ?_
 refine EVO.p1 (.agg (api_Pix.c c)) ?_
 refine EVO.p1 (.agg (api_Pix.c d)) ?_
 refine EVO.e1 (.hs 5 0 4 2) [(5, .own [aI64 a.X, aI64 a.Y, aI64 b.X, aI64 b.Y, aI64 c.X, aI64 c.Y, aI64 d.X, aI64 d.Y])] ?_
 refine EVO.p1 (.hs 5 0 4 2) ?_
 refine EVO.done ?_
 refine CQ.n1 [4, 5, 6, 7, 9, 10] (mkS 72 0 [(4, .hp 0 0), (5, .hp 1 0), (6, .hp 2 0), (7, .hp 3 0), (9, .hs 4 0 0 2), (10, .hs 5 0 4 2)]) [.own (api_Pix.c a), .own (api_Pix.c b), .own (api_Pix.c c), .own (api_Pix.c d), .own [], .own [aI64 a.X, aI64 a.Y, aI64 b.X, aI64 b.Y, aI64 c.X, aI64 c.Y, aI64 d.X, aI64 d.Y]] ?_
 refine CQ.seq ?_
 refine CQ.seq ?_
 refine CQ.r0 fine ?_
 refine EVO.p1 (aI64 0) ?_
 refine EVO.done ?_
 refine CQ.block ?_
 replace hr := bd hr; obtain ⟨out_44, hL88, hr⟩ := hr
 refine CQ.loopO (σ := fun z0 => match z0 with | (out_1, i_2) => ⟨mkS 72 0 [(4, .hp 0 0), (5, .hp 1 0), (6, .hp 2 0), (7, .hp 3 0), (9, .hs 4 0 out_1.length 2), (10, .hs 5 0 ([a, b, c, d].length) 2), (11, aI64 i_2)], [.own (api_Pix.c a), .own (api_Pix.c b), .own (api_Pix.c c), .own (api_Pix.c d), .own (out_1.flatMap api_Pix.c), .own ([a, b, c, d].flatMap api_Pix.c)]⟩) (Q := fun x st' => x = .exit 0 ∧ Wk 0 st' ⟨mkS 72 0 [(9, .hs 0 0 out_44.length 2)], [.own (out_44.flatMap api_Pix.c)]⟩) hL88 ((Wk.gc [4, 5, 6, 7, 9, 10, 11] [(0, true), (1, true), (2, true), (3, true), (4, false), (5, false)] rfl (by exact ⟨rfl, ⟨rfl, trivial⟩⟩)).to (by kernel_rfl)) ?_ ?_
 ·clear hr
  rintro m ⟨out_1, i_2⟩ hr
  show CQ _ _ _ _ _ ⟨_, _⟩
  refine CQ.seq ?_
  refine CQ.seq ?_
  refine CQ.r0 fine ?_
  refine EVO.p1 (aI64 i_2) ?_
  refine EVO.p1 (aB (decide (i_2 < 4))) ?_
  refine EVO.done ?_
  refine CQ.n1 [4, 5, 6, 7, 9, 10, 11, 22] (mkS 72 0 [(4, .hp 0 0), (5, .hp 1 0), (6, .hp 2 0), (7, .hp 3 0), (9, .hs 4 0 out_1.length 2), (10, .hs 5 0 ([a, b, c, d].length) 2), (11, aI64 i_2), (22, aB (decide (i_2 < 4)))]) [.own (api_Pix.c a), .own (api_Pix.c b), .own (api_Pix.c c), .own (api_Pix.c d), .own (out_1.flatMap api_Pix.c), .own ([a, b, c, d].flatMap api_Pix.c)] ?_
  refine CQ.cond (t := decide (i_2 < 4)) (by kernel_rfl) (fun hb46 => ?_) (fun hb46 => ?_)
  ·replace hr := cd_t hb46 hr
   refine CQ.skip ?_
   refine CQ.seq ?_
   refine CQ.block ?_
   refine CQ.seq ?_
   replace hr := gd hr; obtain ⟨hg47, hr⟩ := hr
   replace hr := bd hr; obtain ⟨v48, hc49, hr⟩ := hr
   refine CQ.regionT fine (callOf_1 42 [.agg (api_Pix.c c), .agg (api_Pix.c d), .agg (api_Pix.c (gt [a, b, c, d] i_2))] [.own (api_Pix.c a), .own (api_Pix.c b), .own (api_Pix.c c), .own (api_Pix.c d), .own (out_1.flatMap api_Pix.c), .own ([a, b, c, d].flatMap api_Pix.c)] (.loc (aB v48) [] [] 0) (callOk_val (l := []) (args' := [.agg (api_Pix.c c), .agg (api_Pix.c d), .agg (api_Pix.c (gt [a, b, c, d] i_2))]) rfl (SnL.cons (Sn.pure rfl) (SnL.cons (Sn.pure rfl) (SnL.cons (Sn.pure rfl) SnL.nil))) (fiducialref09_Between_ok n c d (gt [a, b, c, d] i_2) v48 hc49))) ?_
   refine EVT.p1 (.agg (api_Pix.c c)) ?_
   refine EVT.p1 (.agg (api_Pix.c d)) ?_
   refine EVT.p1 (.hs 5 0 ([a, b, c, d].length) 2) ?_
   refine EVT.p1 (aI64 i_2) ?_
   refine EVT.pure (v := .hp 5 (0 + i_2.toNat * 2)) (by kernel_rfl) (Eq.trans (b := ORes.ofP (guardV (inR i_2 ([a, b, c, d].length)) (.hp 5 (0 + i_2.toNat * 2)))) (by kernel_rfl) (ofP_guard hg47)) (by kernel_rfl) ?_
   refine EVT.pure (v := .agg (api_Pix.c (gt [a, b, c, d] i_2))) (by kernel_rfl) (Eq.trans (b := ORes.ofP (guardV (decide (2 ≤ (([a, b, c, d].flatMap api_Pix.c).drop (0 + i_2.toNat * 2)).length)) (.agg ((([a, b, c, d].flatMap api_Pix.c).drop (0 + i_2.toNat * 2)).take 2)))) (by kernel_rfl) (flat_load api_Pix.len (inR_lt hg47) (by decide) (by omega : 0 + i_2.toNat * 2 = i_2.toNat * 2 + 0) (by kernel_rfl))) (by kernel_rfl) ?_
   refine EVT.cal (by kernel_rfl) (by kernel_rfl) (callOf_at (by kernel_rfl)) (by kernel_rfl) ?_
   refine EVT.p1 (aB v48) ?_
   refine EVT.done ⟨by kernel_rfl, ?_⟩
   refine CQ.n1 [4, 5, 6, 7, 9, 10, 11, 12] (mkS 72 0 [(4, .hp 0 0), (5, .hp 1 0), (6, .hp 2 0), (7, .hp 3 0), (9, .hs 4 0 out_1.length 2), (10, .hs 5 0 ([a, b, c, d].length) 2), (11, aI64 i_2), (12, aB v48)]) [.own (api_Pix.c a), .own (api_Pix.c b), .own (api_Pix.c c), .own (api_Pix.c d), .own (out_1.flatMap api_Pix.c), .own ([a, b, c, d].flatMap api_Pix.c)] ?_
   refine CQ.seq ?_
   refine CQ.seq ?_
   refine CQ.r0 fine ?_
   refine EVO.p1 (aI64 i_2) ?_
   refine EVO.p1 (aB (decide (i_2 ≥ 2))) ?_
   refine EVO.done ?_
   refine CQ.n1 [4, 5, 6, 7, 9, 10, 11, 12, 33] (mkS 72 0 [(4, .hp 0 0), (5, .hp 1 0), (6, .hp 2 0), (7, .hp 3 0), (9, .hs 4 0 out_1.length 2), (10, .hs 5 0 ([a, b, c, d].length) 2), (11, aI64 i_2), (12, aB v48), (33, aB (decide (i_2 ≥ 2)))]) [.own (api_Pix.c a), .own (api_Pix.c b), .own (api_Pix.c c), .own (api_Pix.c d), .own (out_1.flatMap api_Pix.c), .own ([a, b, c, d].flatMap api_Pix.c)] ?_
   refine CQ.cond (t := decide (i_2 ≥ 2)) (by kernel_rfl) (fun hb50 => ?_) (fun hb50 => ?_)
   ·replace hr := cd_t hb50 hr
    replace hr := bd hr; obtain ⟨v51, hc52, hr⟩ := hr
    refine CQ.regionT fine (callOf_1 42 [.agg (api_Pix.c a), .agg (api_Pix.c b), .agg (api_Pix.c (gt [a, b, c, d] i_2))] [.own (api_Pix.c a), .own (api_Pix.c b), .own (api_Pix.c c), .own (api_Pix.c d), .own (out_1.flatMap api_Pix.c), .own ([a, b, c, d].flatMap api_Pix.c)] (.loc (aB v51) [] [] 0) (callOk_val (l := []) (args' := [.agg (api_Pix.c a), .agg (api_Pix.c b), .agg (api_Pix.c (gt [a, b, c, d] i_2))]) rfl (SnL.cons (Sn.pure rfl) (SnL.cons (Sn.pure rfl) (SnL.cons (Sn.pure rfl) SnL.nil))) (fiducialref09_Between_ok n a b (gt [a, b, c, d] i_2) v51 hc52))) ?_
    refine EVT.p1 (.agg (api_Pix.c a)) ?_
    refine EVT.p1 (.agg (api_Pix.c b)) ?_
    refine EVT.p1 (.hs 5 0 ([a, b, c, d].length) 2) ?_
    refine EVT.p1 (aI64 i_2) ?_
    refine EVT.pure (v := .hp 5 (0 + i_2.toNat * 2)) (by kernel_rfl) (Eq.trans (b := ORes.ofP (guardV (inR i_2 ([a, b, c, d].length)) (.hp 5 (0 + i_2.toNat * 2)))) (by kernel_rfl) (ofP_guard hg47)) (by kernel_rfl) ?_
    refine EVT.pure (v := .agg (api_Pix.c (gt [a, b, c, d] i_2))) (by kernel_rfl) (Eq.trans (b := ORes.ofP (guardV (decide (2 ≤ (([a, b, c, d].flatMap api_Pix.c).drop (0 + i_2.toNat * 2)).length)) (.agg ((([a, b, c, d].flatMap api_Pix.c).drop (0 + i_2.toNat * 2)).take 2)))) (by kernel_rfl) (flat_load api_Pix.len (inR_lt hg47) (by decide) (by omega : 0 + i_2.toNat * 2 = i_2.toNat * 2 + 0) (by kernel_rfl))) (by kernel_rfl) ?_
    refine EVT.cal (by kernel_rfl) (by kernel_rfl) (callOf_at (by kernel_rfl)) (by kernel_rfl) ?_
    refine EVT.p1 (aB v51) ?_
    refine EVT.done ⟨by kernel_rfl, ?_⟩
    refine CQ.n1 [4, 5, 6, 7, 9, 10, 11, 12] (mkS 72 0 [(4, .hp 0 0), (5, .hp 1 0), (6, .hp 2 0), (7, .hp 3 0), (9, .hs 4 0 out_1.length 2), (10, .hs 5 0 ([a, b, c, d].length) 2), (11, aI64 i_2), (12, aB v51)]) [.own (api_Pix.c a), .own (api_Pix.c b), .own (api_Pix.c c), .own (api_Pix.c d), .own (out_1.flatMap api_Pix.c), .own ([a, b, c, d].flatMap api_Pix.c)] ?_
    refine CQ.seq ?_
    refine CQ.r0 fine ?_
    refine EVO.p1 (aB false) ?_
    refine EVO.done ?_
    refine CQ.seq ?_
    refine CQ.seq ?_
    refine CQ.r0 fine ?_
    refine EVO.p1 (aI64 0) ?_
    refine EVO.done ?_
    refine CQ.block ?_
    replace hr := bd hr; obtain ⟨again_58, hL64, hr⟩ := hr
    refine CQ.loopO (σ := fun z0 => match z0 with | (again_53, j_54) => ⟨mkS 72 0 [(4, .hp 0 0), (5, .hp 1 0), (6, .hp 2 0), (7, .hp 3 0), (9, .hs 4 0 out_1.length 2), (10, .hs 5 0 ([a, b, c, d].length) 2), (11, aI64 i_2), (12, aB v51), (13, aB again_53), (14, aI64 j_54)], [.own (api_Pix.c a), .own (api_Pix.c b), .own (api_Pix.c c), .own (api_Pix.c d), .own (out_1.flatMap api_Pix.c), .own ([a, b, c, d].flatMap api_Pix.c)]⟩) (Q := fun x st' => x = .exit 2 ∧ Wk 0 st' ⟨mkS 72 0 [(4, .hp 0 0), (5, .hp 1 0), (6, .hp 2 0), (7, .hp 3 0), (9, .hs 4 0 out_1.length 2), (10, .hs 5 0 ([a, b, c, d].length) 2), (11, aI64 i_2), (12, aB v51), (13, aB again_58)], [.own (api_Pix.c a), .own (api_Pix.c b), .own (api_Pix.c c), .own (api_Pix.c d), .own (out_1.flatMap api_Pix.c), .own ([a, b, c, d].flatMap api_Pix.c)]⟩) hL64 ((Wk.gc [4, 5, 6, 7, 9, 10, 11, 12, 13, 14] [(0, true), (1, true), (2, true), (3, true), (4, false), (5, false)] rfl (by exact ⟨ids_flat api_Pix.pure _, ⟨ids_flat api_Pix.pure _, trivial⟩⟩)).to (by kernel_rfl)) ?_ ?_
    ·clear hr
     rintro m ⟨again_53, j_54⟩ hr
     show CQ _ _ _ _ _ ⟨_, _⟩
     refine CQ.seq ?_
     refine CQ.seq ?_
     refine CQ.r0 fine ?_
     refine EVO.p1 (aI64 j_54) ?_
     refine EVO.p1 (.hs 4 0 out_1.length 2) ?_
     refine EVO.p1 (aI64 (out_1.length : Int)) ?_
     refine EVO.p1 (aB (decide (j_54 < (out_1.length : Int)))) ?_
     refine EVO.done ?_
     refine CQ.n1 [4, 5, 6, 7, 9, 10, 11, 12, 13, 14, 44] (mkS 72 0 [(4, .hp 0 0), (5, .hp 1 0), (6, .hp 2 0), (7, .hp 3 0), (9, .hs 4 0 out_1.length 2), (10, .hs 5 0 ([a, b, c, d].length) 2), (11, aI64 i_2), (12, aB v51), (13, aB again_53), (14, aI64 j_54), (44, aB (decide (j_54 < (out_1.length : Int))))]) [.own (api_Pix.c a), .own (api_Pix.c b), .own (api_Pix.c c), .own (api_Pix.c d), .own (out_1.flatMap api_Pix.c), .own ([a, b, c, d].flatMap api_Pix.c)] ?_
     refine CQ.cond (t := decide (j_54 < (out_1.length : Int))) (by kernel_rfl) (fun hb60 => ?_) (fun hb60 => ?_)
     ·replace hr := cd_t hb60 hr
      refine CQ.skip ?_
      refine CQ.seq ?_
      refine CQ.block ?_
      rcases Bool.eq_false_or_eq_true again_53 with hb61 | hb61
      ·replace hr := cd_t hb61 hr
       refine CQ.regionT fine callOf_nil ?_
       refine EVT.pure (v := aB true) (by kernel_rfl) (Eq.trans (b := some (.pure (aB again_53))) (by kernel_rfl) (by rw [hb61])) (by kernel_rfl) ?_
       refine EVT.p1 (aB true) ?_
       refine EVT.s1 ?_
       refine EVT.s1 ?_
       refine EVT.s1 ?_
       refine EVT.s1 ?_
       refine EVT.s1 ?_
       refine EVT.s1 ?_
       refine EVT.s1 ?_
       refine EVT.s1 ?_
       refine EVT.s1 ?_
       refine EVT.p1 (aB true) ?_
       refine EVT.p1 (aB true) ?_
       refine EVT.done ⟨by kernel_rfl, ?_⟩
       refine CQ.pop ?_
       refine CQ.r0 fine ?_
       refine EVO.p1 (aI64 j_54) ?_
       refine EVO.p1 (aI64 (wrapF .i64 (j_54 + 1))) ?_
       refine EVO.p1 (aI64 (wrapF .i64 (j_54 + 1))) ?_
       refine EVO.done ?_
       exact loopF_back (true, wrapF .i64 (j_54 + 1)) hr ((Wk.gc [4, 5, 6, 7, 9, 10, 11, 12, 13, 14] [(0, true), (1, true), (2, true), (3, true), (4, false), (5, false)] rfl (by exact ⟨ids_flat api_Pix.pure _, ⟨ids_flat api_Pix.pure _, trivial⟩⟩)).to (by kernel_rfl))
      ·replace hr := cd_f hb61 hr
       replace hr := gd hr; obtain ⟨hg62, hr⟩ := hr
       refine CQ.regionT fine callOf_nil ?_
       refine EVT.pure (v := aB false) (by kernel_rfl) (Eq.trans (b := some (.pure (aB again_53))) (by kernel_rfl) (by rw [hb61])) (by kernel_rfl) ?_
       refine EVT.p1 (aB false) ?_
       refine EVT.p1 (.hs 4 0 out_1.length 2) ?_
       refine EVT.p1 (aI64 j_54) ?_
       refine EVT.pure (v := .hp 4 (0 + j_54.toNat * 2)) (by kernel_rfl) (Eq.trans (b := ORes.ofP (guardV (inR j_54 out_1.length) (.hp 4 (0 + j_54.toNat * 2)))) (by kernel_rfl) (ofP_guard hg62)) (by kernel_rfl) ?_
       refine EVT.pure (v := .agg (api_Pix.c (gt out_1 j_54))) (by kernel_rfl) (Eq.trans (b := ORes.ofP (guardV (decide (2 ≤ ((out_1.flatMap api_Pix.c).drop (0 + j_54.toNat * 2)).length)) (.agg (((out_1.flatMap api_Pix.c).drop (0 + j_54.toNat * 2)).take 2)))) (by kernel_rfl) (flat_load api_Pix.len (inR_lt hg62) (by decide) (by omega : 0 + j_54.toNat * 2 = j_54.toNat * 2 + 0) (by kernel_rfl))) (by kernel_rfl) ?_
       refine EVT.p1 (.hs 5 0 ([a, b, c, d].length) 2) ?_
       refine EVT.p1 (aI64 i_2) ?_
       refine EVT.pure (v := .hp 5 (0 + i_2.toNat * 2)) (by kernel_rfl) (Eq.trans (b := ORes.ofP (guardV (inR i_2 ([a, b, c, d].length)) (.hp 5 (0 + i_2.toNat * 2)))) (by kernel_rfl) (ofP_guard hg47)) (by kernel_rfl) ?_
       refine EVT.pure (v := .agg (api_Pix.c (gt [a, b, c, d] i_2))) (by kernel_rfl) (Eq.trans (b := ORes.ofP (guardV (decide (2 ≤ (([a, b, c, d].flatMap api_Pix.c).drop (0 + i_2.toNat * 2)).length)) (.agg ((([a, b, c, d].flatMap api_Pix.c).drop (0 + i_2.toNat * 2)).take 2)))) (by kernel_rfl) (flat_load api_Pix.len (inR_lt hg47) (by decide) (by omega : 0 + i_2.toNat * 2 = i_2.toNat * 2 + 0) (by kernel_rfl))) (by kernel_rfl) ?_
       refine EVT.p1 (aB ((((gt out_1 j_54).X : Int) == (gt [a, b, c, d] i_2).X) && ((((gt out_1 j_54).Y : Int) == (gt [a, b, c, d] i_2).Y) && true))) ?_
       refine EVT.p1 (aB ((((gt out_1 j_54).X : Int) == (gt [a, b, c, d] i_2).X) && ((((gt out_1 j_54).Y : Int) == (gt [a, b, c, d] i_2).Y) && true))) ?_
       refine EVT.p1 (aB ((((gt out_1 j_54).X : Int) == (gt [a, b, c, d] i_2).X) && ((((gt out_1 j_54).Y : Int) == (gt [a, b, c, d] i_2).Y) && true))) ?_
       refine EVT.done ⟨by kernel_rfl, ?_⟩
       refine CQ.pop ?_
       refine CQ.r0 fine ?_
       refine EVO.p1 (aI64 j_54) ?_
       refine EVO.p1 (aI64 (wrapF .i64 (j_54 + 1))) ?_
       refine EVO.p1 (aI64 (wrapF .i64 (j_54 + 1))) ?_
       refine EVO.done ?_
       exact loopF_back ((((gt out_1 j_54).X : Int) == (gt [a, b, c, d] i_2).X) && ((((gt out_1 j_54).Y : Int) == (gt [a, b, c, d] i_2).Y) && true), wrapF .i64 (j_54 + 1)) hr ((Wk.gc [4, 5, 6, 7, 9, 10, 11, 12, 13, 14] [(0, true), (1, true), (2, true), (3, true), (4, false), (5, false)] rfl (by exact ⟨ids_flat api_Pix.pure _, ⟨ids_flat api_Pix.pure _, trivial⟩⟩)).to (by kernel_rfl))
     ·replace hr := cd_f hb60 hr
      refine CQ.leave rfl ?_
      obtain rfl := Option.some.inj hr
      exact ⟨rfl, ((Wk.gc [4, 5, 6, 7, 9, 10, 11, 12, 13] [(0, true), (1, true), (2, true), (3, true), (4, false), (5, false)] rfl (by exact ⟨ids_flat api_Pix.pure _, ⟨ids_flat api_Pix.pure _, trivial⟩⟩)).to (by kernel_rfl))⟩
    ·rintro x st' hq65
     clear hL64
     obtain ⟨rfl, hq65⟩ := hq65
     refine CQ_exit _ rfl ?_
     refine CQ.wk hq65 ?_
     refine CQ.seq ?_
     rcases Bool.eq_false_or_eq_true v51 with hb66 | hb66
     ·replace hr := cd_t hb66 hr
      refine CQ.r0 fine ?_
      refine EVO.p0 (v := aB true) (Eq.trans (b := some (.pure (aB v51))) (by kernel_rfl) (by rw [hb66])) ?_
      refine EVO.p1 (aB true) ?_
      refine EVO.q1 (aB again_58) ?_
      refine EVO.q1 (aB (!again_58)) ?_
      refine EVO.p1 (aB (!again_58)) ?_
      refine EVO.done ?_
      refine CQ.n1 [4, 5, 6, 7, 9, 10, 11, 63] (mkS 72 0 [(4, .hp 0 0), (5, .hp 1 0), (6, .hp 2 0), (7, .hp 3 0), (9, .hs 4 0 out_1.length 2), (10, .hs 5 0 ([a, b, c, d].length) 2), (11, aI64 i_2), (63, aB (!again_58))]) [.own (api_Pix.c a), .own (api_Pix.c b), .own (api_Pix.c c), .own (api_Pix.c d), .own (out_1.flatMap api_Pix.c), .own ([a, b, c, d].flatMap api_Pix.c)] ?_
      refine CQ.cond (t := !again_58) (by kernel_rfl) (fun hb67 => ?_) (fun hb67 => ?_)
      ·replace hr := cd_t hb67 hr
       replace hr := gd hr; obtain ⟨hg68, hr⟩ := hr
       replace hr := gd hr; obtain ⟨hg69, hr⟩ := hr
       refine CQ.r0 fine ?_
       refine EVO.p1 (.hs 4 0 out_1.length 2) ?_
       refine EVO.p1 (.hs 5 0 ([a, b, c, d].length) 2) ?_
       refine EVO.p1 (aI64 i_2) ?_
       refine EVO.p0 (v := .hp 5 (0 + i_2.toNat * 2)) (Eq.trans (b := ORes.ofP (guardV (inR i_2 ([a, b, c, d].length)) (.hp 5 (0 + i_2.toNat * 2)))) (by kernel_rfl) (ofP_guard hg47)) ?_
       refine EVO.p0 (v := .agg (api_Pix.c (gt [a, b, c, d] i_2))) (Eq.trans (b := ORes.ofP (guardV (decide (2 ≤ (([a, b, c, d].flatMap api_Pix.c).drop (0 + i_2.toNat * 2)).length)) (.agg ((([a, b, c, d].flatMap api_Pix.c).drop (0 + i_2.toNat * 2)).take 2)))) (by kernel_rfl) (flat_load api_Pix.len (inR_lt hg47) (by decide) (by omega : 0 + i_2.toNat * 2 = i_2.toNat * 2 + 0) (by kernel_rfl))) ?_
       refine EVO.e1 (.hs 6 0 1 2) [(6, .own (api_Pix.c (gt [a, b, c, d] i_2)))] ?_
       refine EVO.e0 (v := .hs 7 0 (out_1 ++ [(gt [a, b, c, d] i_2)]).length 2) (ws := [(4, .dead), (7, .own ((out_1 ++ [(gt [a, b, c, d] i_2)]).flatMap api_Pix.c))]) (Eq.trans (b := guardO (decide (0 + out_1.length * 2 ≤ (out_1.flatMap api_Pix.c).length) && decide ((out_1.length + 1) * 16 ≤ 140737488355328) && decide (out_1.length + 1 ≤ 4611686018427387904)) (some (.eff (.hs 7 0 (out_1.length + 1) 2) [(4, .dead), (7, .own (((out_1.flatMap api_Pix.c).drop 0).take (out_1.length * 2) ++ (api_Pix.c (gt [a, b, c, d] i_2))))]))) (by kernel_rfl) (app_own (l := out_1) (xs := [(gt [a, b, c, d] i_2)]) api_Pix.len rfl rfl (by kernel_rfl) hg68 hg69)) ?_
       refine EVO.p1 (.hs 7 0 (out_1 ++ [(gt [a, b, c, d] i_2)]).length 2) ?_
       refine EVO.done ?_
       refine CQ.pop ?_
       refine CQ.r0 fine ?_
       refine EVO.p1 (aI64 i_2) ?_
       refine EVO.p1 (aI64 (wrapF .i64 (i_2 + 1))) ?_
       refine EVO.p1 (aI64 (wrapF .i64 (i_2 + 1))) ?_
       refine EVO.done ?_
       exact loopF_back (out_1 ++ [(gt [a, b, c, d] i_2)], wrapF .i64 (i_2 + 1)) hr ((Wk.gc [4, 5, 6, 7, 9, 10, 11] [(0, true), (1, true), (2, true), (3, true), (7, false), (5, false)] rfl (by exact ⟨ids_flat api_Pix.pure _, ⟨ids_flat api_Pix.pure _, trivial⟩⟩)).to (by kernel_rfl))
      ·replace hr := cd_f hb67 hr
       refine CQ.skip ?_
       refine CQ.pop ?_
       refine CQ.r0 fine ?_
       refine EVO.p1 (aI64 i_2) ?_
       refine EVO.p1 (aI64 (wrapF .i64 (i_2 + 1))) ?_
       refine EVO.p1 (aI64 (wrapF .i64 (i_2 + 1))) ?_
       refine EVO.done ?_
       exact loopF_back (out_1, wrapF .i64 (i_2 + 1)) hr ((Wk.gc [4, 5, 6, 7, 9, 10, 11] [(0, true), (1, true), (2, true), (3, true), (4, false), (5, false)] rfl (by exact ⟨ids_flat api_Pix.pure _, ⟨ids_flat api_Pix.pure _, trivial⟩⟩)).to (by kernel_rfl))
     ·replace hr := cd_f hb66 hr
      refine CQ.r0 fine ?_
      refine EVO.p0 (v := aB false) (Eq.trans (b := some (.pure (aB v51))) (by kernel_rfl) (by rw [hb66])) ?_
      refine EVO.p1 (aB false) ?_
      refine EVO.s1 ?_
      refine EVO.s1 ?_
      refine EVO.p1 (aB false) ?_
      refine EVO.done ?_
      refine CQ.n1 [4, 5, 6, 7, 9, 10, 11, 63] (mkS 72 0 [(4, .hp 0 0), (5, .hp 1 0), (6, .hp 2 0), (7, .hp 3 0), (9, .hs 4 0 out_1.length 2), (10, .hs 5 0 ([a, b, c, d].length) 2), (11, aI64 i_2), (63, aB false)]) [.own (api_Pix.c a), .own (api_Pix.c b), .own (api_Pix.c c), .own (api_Pix.c d), .own (out_1.flatMap api_Pix.c), .own ([a, b, c, d].flatMap api_Pix.c)] ?_
      refine CQ.cF (by kernel_rfl) ?_
      refine CQ.skip ?_
      refine CQ.pop ?_
      refine CQ.r0 fine ?_
      refine EVO.p1 (aI64 i_2) ?_
      refine EVO.p1 (aI64 (wrapF .i64 (i_2 + 1))) ?_
      refine EVO.p1 (aI64 (wrapF .i64 (i_2 + 1))) ?_
      refine EVO.done ?_
      exact loopF_back (out_1, wrapF .i64 (i_2 + 1)) hr ((Wk.gc [4, 5, 6, 7, 9, 10, 11] [(0, true), (1, true), (2, true), (3, true), (4, false), (5, false)] rfl (by exact ⟨ids_flat api_Pix.pure _, ⟨ids_flat api_Pix.pure _, trivial⟩⟩)).to (by kernel_rfl))
   ·replace hr := cd_f hb50 hr
    refine CQ.skip ?_
    refine CQ.seq ?_
    refine CQ.r0 fine ?_
    refine EVO.p1 (aB false) ?_
    refine EVO.done ?_
    refine CQ.n1 [4, 5, 6, 7, 9, 10, 11, 12, 13] (mkS 72 0 [(4, .hp 0 0), (5, .hp 1 0), (6, .hp 2 0), (7, .hp 3 0), (9, .hs 4 0 out_1.length 2), (10, .hs 5 0 ([a, b, c, d].length) 2), (11, aI64 i_2), (12, aB v48), (13, aB false)]) [.own (api_Pix.c a), .own (api_Pix.c b), .own (api_Pix.c c), .own (api_Pix.c d), .own (out_1.flatMap api_Pix.c), .own ([a, b, c, d].flatMap api_Pix.c)] ?_
    refine CQ.seq ?_
    refine CQ.seq ?_
    refine CQ.r0 fine ?_
    refine EVO.p1 (aI64 0) ?_
    refine EVO.done ?_
    refine CQ.block ?_
    replace hr := bd hr; obtain ⟨again_75, hL81, hr⟩ := hr
    refine CQ.loopO (σ := fun z0 => match z0 with | (again_70, j_71) => ⟨mkS 72 0 [(4, .hp 0 0), (5, .hp 1 0), (6, .hp 2 0), (7, .hp 3 0), (9, .hs 4 0 out_1.length 2), (10, .hs 5 0 ([a, b, c, d].length) 2), (11, aI64 i_2), (12, aB v48), (13, aB again_70), (14, aI64 j_71)], [.own (api_Pix.c a), .own (api_Pix.c b), .own (api_Pix.c c), .own (api_Pix.c d), .own (out_1.flatMap api_Pix.c), .own ([a, b, c, d].flatMap api_Pix.c)]⟩) (Q := fun x st' => x = .exit 2 ∧ Wk 0 st' ⟨mkS 72 0 [(4, .hp 0 0), (5, .hp 1 0), (6, .hp 2 0), (7, .hp 3 0), (9, .hs 4 0 out_1.length 2), (10, .hs 5 0 ([a, b, c, d].length) 2), (11, aI64 i_2), (12, aB v48), (13, aB again_75)], [.own (api_Pix.c a), .own (api_Pix.c b), .own (api_Pix.c c), .own (api_Pix.c d), .own (out_1.flatMap api_Pix.c), .own ([a, b, c, d].flatMap api_Pix.c)]⟩) hL81 ((Wk.gc [4, 5, 6, 7, 9, 10, 11, 12, 13, 14] [(0, true), (1, true), (2, true), (3, true), (4, false), (5, false)] rfl (by exact ⟨ids_flat api_Pix.pure _, ⟨ids_flat api_Pix.pure _, trivial⟩⟩)).to (by kernel_rfl)) ?_ ?_
    ·clear hr
     rintro m ⟨again_70, j_71⟩ hr
     show CQ _ _ _ _ _ ⟨_, _⟩
     refine CQ.seq ?_
     refine CQ.seq ?_
     refine CQ.r0 fine ?_
     refine EVO.p1 (aI64 j_71) ?_
     refine EVO.p1 (.hs 4 0 out_1.length 2) ?_
     refine EVO.p1 (aI64 (out_1.length : Int)) ?_
     refine EVO.p1 (aB (decide (j_71 < (out_1.length : Int)))) ?_
     refine EVO.done ?_
     refine CQ.n1 [4, 5, 6, 7, 9, 10, 11, 12, 13, 14, 44] (mkS 72 0 [(4, .hp 0 0), (5, .hp 1 0), (6, .hp 2 0), (7, .hp 3 0), (9, .hs 4 0 out_1.length 2), (10, .hs 5 0 ([a, b, c, d].length) 2), (11, aI64 i_2), (12, aB v48), (13, aB again_70), (14, aI64 j_71), (44, aB (decide (j_71 < (out_1.length : Int))))]) [.own (api_Pix.c a), .own (api_Pix.c b), .own (api_Pix.c c), .own (api_Pix.c d), .own (out_1.flatMap api_Pix.c), .own ([a, b, c, d].flatMap api_Pix.c)] ?_
     refine CQ.cond (t := decide (j_71 < (out_1.length : Int))) (by kernel_rfl) (fun hb77 => ?_) (fun hb77 => ?_)
     ·replace hr := cd_t hb77 hr
      refine CQ.skip ?_
      refine CQ.seq ?_
      refine CQ.block ?_
      rcases Bool.eq_false_or_eq_true again_70 with hb78 | hb78
      ·replace hr := cd_t hb78 hr
       refine CQ.regionT fine callOf_nil ?_
       refine EVT.pure (v := aB true) (by kernel_rfl) (Eq.trans (b := some (.pure (aB again_70))) (by kernel_rfl) (by rw [hb78])) (by kernel_rfl) ?_
       refine EVT.p1 (aB true) ?_
       refine EVT.s1 ?_
       refine EVT.s1 ?_
       refine EVT.s1 ?_
       refine EVT.s1 ?_
       refine EVT.s1 ?_
       refine EVT.s1 ?_
       refine EVT.s1 ?_
       refine EVT.s1 ?_
       refine EVT.s1 ?_
       refine EVT.p1 (aB true) ?_
       refine EVT.p1 (aB true) ?_
       refine EVT.done ⟨by kernel_rfl, ?_⟩
       refine CQ.pop ?_
       refine CQ.r0 fine ?_
       refine EVO.p1 (aI64 j_71) ?_
       refine EVO.p1 (aI64 (wrapF .i64 (j_71 + 1))) ?_
       refine EVO.p1 (aI64 (wrapF .i64 (j_71 + 1))) ?_
       refine EVO.done ?_
       exact loopF_back (true, wrapF .i64 (j_71 + 1)) hr ((Wk.gc [4, 5, 6, 7, 9, 10, 11, 12, 13, 14] [(0, true), (1, true), (2, true), (3, true), (4, false), (5, false)] rfl (by exact ⟨ids_flat api_Pix.pure _, ⟨ids_flat api_Pix.pure _, trivial⟩⟩)).to (by kernel_rfl))
      ·replace hr := cd_f hb78 hr
       replace hr := gd hr; obtain ⟨hg79, hr⟩ := hr
       refine CQ.regionT fine callOf_nil ?_
       refine EVT.pure (v := aB false) (by kernel_rfl) (Eq.trans (b := some (.pure (aB again_70))) (by kernel_rfl) (by rw [hb78])) (by kernel_rfl) ?_
       refine EVT.p1 (aB false) ?_
       refine EVT.p1 (.hs 4 0 out_1.length 2) ?_
       refine EVT.p1 (aI64 j_71) ?_
       refine EVT.pure (v := .hp 4 (0 + j_71.toNat * 2)) (by kernel_rfl) (Eq.trans (b := ORes.ofP (guardV (inR j_71 out_1.length) (.hp 4 (0 + j_71.toNat * 2)))) (by kernel_rfl) (ofP_guard hg79)) (by kernel_rfl) ?_
       refine EVT.pure (v := .agg (api_Pix.c (gt out_1 j_71))) (by kernel_rfl) (Eq.trans (b := ORes.ofP (guardV (decide (2 ≤ ((out_1.flatMap api_Pix.c).drop (0 + j_71.toNat * 2)).length)) (.agg (((out_1.flatMap api_Pix.c).drop (0 + j_71.toNat * 2)).take 2)))) (by kernel_rfl) (flat_load api_Pix.len (inR_lt hg79) (by decide) (by omega : 0 + j_71.toNat * 2 = j_71.toNat * 2 + 0) (by kernel_rfl))) (by kernel_rfl) ?_
       refine EVT.p1 (.hs 5 0 ([a, b, c, d].length) 2) ?_
       refine EVT.p1 (aI64 i_2) ?_
       refine EVT.pure (v := .hp 5 (0 + i_2.toNat * 2)) (by kernel_rfl) (Eq.trans (b := ORes.ofP (guardV (inR i_2 ([a, b, c, d].length)) (.hp 5 (0 + i_2.toNat * 2)))) (by kernel_rfl) (ofP_guard hg47)) (by kernel_rfl) ?_
       refine EVT.pure (v := .agg (api_Pix.c (gt [a, b, c, d] i_2))) (by kernel_rfl) (Eq.trans (b := ORes.ofP (guardV (decide (2 ≤ (([a, b, c, d].flatMap api_Pix.c).drop (0 + i_2.toNat * 2)).length)) (.agg ((([a, b, c, d].flatMap api_Pix.c).drop (0 + i_2.toNat * 2)).take 2)))) (by kernel_rfl) (flat_load api_Pix.len (inR_lt hg47) (by decide) (by omega : 0 + i_2.toNat * 2 = i_2.toNat * 2 + 0) (by kernel_rfl))) (by kernel_rfl) ?_
       refine EVT.p1 (aB ((((gt out_1 j_71).X : Int) == (gt [a, b, c, d] i_2).X) && ((((gt out_1 j_71).Y : Int) == (gt [a, b, c, d] i_2).Y) && true))) ?_
       refine EVT.p1 (aB ((((gt out_1 j_71).X : Int) == (gt [a, b, c, d] i_2).X) && ((((gt out_1 j_71).Y : Int) == (gt [a, b, c, d] i_2).Y) && true))) ?_
       refine EVT.p1 (aB ((((gt out_1 j_71).X : Int) == (gt [a, b, c, d] i_2).X) && ((((gt out_1 j_71).Y : Int) == (gt [a, b, c, d] i_2).Y) && true))) ?_
       refine EVT.done ⟨by kernel_rfl, ?_⟩
       refine CQ.pop ?_
       refine CQ.r0 fine ?_
       refine EVO.p1 (aI64 j_71) ?_
       refine EVO.p1 (aI64 (wrapF .i64 (j_71 + 1))) ?_
       refine EVO.p1 (aI64 (wrapF .i64 (j_71 + 1))) ?_
       refine EVO.done ?_
       exact loopF_back ((((gt out_1 j_71).X : Int) == (gt [a, b, c, d] i_2).X) && ((((gt out_1 j_71).Y : Int) == (gt [a, b, c, d] i_2).Y) && true), wrapF .i64 (j_71 + 1)) hr ((Wk.gc [4, 5, 6, 7, 9, 10, 11, 12, 13, 14] [(0, true), (1, true), (2, true), (3, true), (4, false), (5, false)] rfl (by exact ⟨ids_flat api_Pix.pure _, ⟨ids_flat api_Pix.pure _, trivial⟩⟩)).to (by kernel_rfl))
     ·replace hr := cd_f hb77 hr
      refine CQ.leave rfl ?_
      obtain rfl := Option.some.inj hr
      exact ⟨rfl, ((Wk.gc [4, 5, 6, 7, 9, 10, 11, 12, 13] [(0, true), (1, true), (2, true), (3, true), (4, false), (5, false)] rfl (by exact ⟨ids_flat api_Pix.pure _, ⟨ids_flat api_Pix.pure _, trivial⟩⟩)).to (by kernel_rfl))⟩
    ·rintro x st' hq82
     clear hL81
     obtain ⟨rfl, hq82⟩ := hq82
     refine CQ_exit _ rfl ?_
     refine CQ.wk hq82 ?_
     refine CQ.seq ?_
     rcases Bool.eq_false_or_eq_true v48 with hb83 | hb83
     ·replace hr := cd_t hb83 hr
      refine CQ.r0 fine ?_
      refine EVO.p0 (v := aB true) (Eq.trans (b := some (.pure (aB v48))) (by kernel_rfl) (by rw [hb83])) ?_
      refine EVO.p1 (aB true) ?_
      refine EVO.q1 (aB again_75) ?_
      refine EVO.q1 (aB (!again_75)) ?_
      refine EVO.p1 (aB (!again_75)) ?_
      refine EVO.done ?_
      refine CQ.n1 [4, 5, 6, 7, 9, 10, 11, 63] (mkS 72 0 [(4, .hp 0 0), (5, .hp 1 0), (6, .hp 2 0), (7, .hp 3 0), (9, .hs 4 0 out_1.length 2), (10, .hs 5 0 ([a, b, c, d].length) 2), (11, aI64 i_2), (63, aB (!again_75))]) [.own (api_Pix.c a), .own (api_Pix.c b), .own (api_Pix.c c), .own (api_Pix.c d), .own (out_1.flatMap api_Pix.c), .own ([a, b, c, d].flatMap api_Pix.c)] ?_
      refine CQ.cond (t := !again_75) (by kernel_rfl) (fun hb84 => ?_) (fun hb84 => ?_)
      ·replace hr := cd_t hb84 hr
       replace hr := gd hr; obtain ⟨hg85, hr⟩ := hr
       replace hr := gd hr; obtain ⟨hg86, hr⟩ := hr
       refine CQ.r0 fine ?_
       refine EVO.p1 (.hs 4 0 out_1.length 2) ?_
       refine EVO.p1 (.hs 5 0 ([a, b, c, d].length) 2) ?_
       refine EVO.p1 (aI64 i_2) ?_
       refine EVO.p0 (v := .hp 5 (0 + i_2.toNat * 2)) (Eq.trans (b := ORes.ofP (guardV (inR i_2 ([a, b, c, d].length)) (.hp 5 (0 + i_2.toNat * 2)))) (by kernel_rfl) (ofP_guard hg47)) ?_
       refine EVO.p0 (v := .agg (api_Pix.c (gt [a, b, c, d] i_2))) (Eq.trans (b := ORes.ofP (guardV (decide (2 ≤ (([a, b, c, d].flatMap api_Pix.c).drop (0 + i_2.toNat * 2)).length)) (.agg ((([a, b, c, d].flatMap api_Pix.c).drop (0 + i_2.toNat * 2)).take 2)))) (by kernel_rfl) (flat_load api_Pix.len (inR_lt hg47) (by decide) (by omega : 0 + i_2.toNat * 2 = i_2.toNat * 2 + 0) (by kernel_rfl))) ?_
       refine EVO.e1 (.hs 6 0 1 2) [(6, .own (api_Pix.c (gt [a, b, c, d] i_2)))] ?_
       refine EVO.e0 (v := .hs 7 0 (out_1 ++ [(gt [a, b, c, d] i_2)]).length 2) (ws := [(4, .dead), (7, .own ((out_1 ++ [(gt [a, b, c, d] i_2)]).flatMap api_Pix.c))]) (Eq.trans (b := guardO (decide (0 + out_1.length * 2 ≤ (out_1.flatMap api_Pix.c).length) && decide ((out_1.length + 1) * 16 ≤ 140737488355328) && decide (out_1.length + 1 ≤ 4611686018427387904)) (some (.eff (.hs 7 0 (out_1.length + 1) 2) [(4, .dead), (7, .own (((out_1.flatMap api_Pix.c).drop 0).take (out_1.length * 2) ++ (api_Pix.c (gt [a, b, c, d] i_2))))]))) (by kernel_rfl) (app_own (l := out_1) (xs := [(gt [a, b, c, d] i_2)]) api_Pix.len rfl rfl (by kernel_rfl) hg85 hg86)) ?_
       refine EVO.p1 (.hs 7 0 (out_1 ++ [(gt [a, b, c, d] i_2)]).length 2) ?_
       refine EVO.done ?_
       refine CQ.pop ?_
       refine CQ.r0 fine ?_
       refine EVO.p1 (aI64 i_2) ?_
       refine EVO.p1 (aI64 (wrapF .i64 (i_2 + 1))) ?_
       refine EVO.p1 (aI64 (wrapF .i64 (i_2 + 1))) ?_
       refine EVO.done ?_
       exact loopF_back (out_1 ++ [(gt [a, b, c, d] i_2)], wrapF .i64 (i_2 + 1)) hr ((Wk.gc [4, 5, 6, 7, 9, 10, 11] [(0, true), (1, true), (2, true), (3, true), (7, false), (5, false)] rfl (by exact ⟨ids_flat api_Pix.pure _, ⟨ids_flat api_Pix.pure _, trivial⟩⟩)).to (by kernel_rfl))
      ·replace hr := cd_f hb84 hr
       refine CQ.skip ?_
       refine CQ.pop ?_
       refine CQ.r0 fine ?_
       refine EVO.p1 (aI64 i_2) ?_
       refine EVO.p1 (aI64 (wrapF .i64 (i_2 + 1))) ?_
       refine EVO.p1 (aI64 (wrapF .i64 (i_2 + 1))) ?_
       refine EVO.done ?_
       exact loopF_back (out_1, wrapF .i64 (i_2 + 1)) hr ((Wk.gc [4, 5, 6, 7, 9, 10, 11] [(0, true), (1, true), (2, true), (3, true), (4, false), (5, false)] rfl (by exact ⟨ids_flat api_Pix.pure _, ⟨ids_flat api_Pix.pure _, trivial⟩⟩)).to (by kernel_rfl))
     ·replace hr := cd_f hb83 hr
      refine CQ.r0 fine ?_
      refine EVO.p0 (v := aB false) (Eq.trans (b := some (.pure (aB v48))) (by kernel_rfl) (by rw [hb83])) ?_
      refine EVO.p1 (aB false) ?_
      refine EVO.s1 ?_
      refine EVO.s1 ?_
      refine EVO.p1 (aB false) ?_
      refine EVO.done ?_
      refine CQ.n1 [4, 5, 6, 7, 9, 10, 11, 63] (mkS 72 0 [(4, .hp 0 0), (5, .hp 1 0), (6, .hp 2 0), (7, .hp 3 0), (9, .hs 4 0 out_1.length 2), (10, .hs 5 0 ([a, b, c, d].length) 2), (11, aI64 i_2), (63, aB false)]) [.own (api_Pix.c a), .own (api_Pix.c b), .own (api_Pix.c c), .own (api_Pix.c d), .own (out_1.flatMap api_Pix.c), .own ([a, b, c, d].flatMap api_Pix.c)] ?_
      refine CQ.cF (by kernel_rfl) ?_
      refine CQ.skip ?_
      refine CQ.pop ?_
      refine CQ.r0 fine ?_
      refine EVO.p1 (aI64 i_2) ?_
      refine EVO.p1 (aI64 (wrapF .i64 (i_2 + 1))) ?_
      refine EVO.p1 (aI64 (wrapF .i64 (i_2 + 1))) ?_
      refine EVO.done ?_
      exact loopF_back (out_1, wrapF .i64 (i_2 + 1)) hr ((Wk.gc [4, 5, 6, 7, 9, 10, 11] [(0, true), (1, true), (2, true), (3, true), (4, false), (5, false)] rfl (by exact ⟨ids_flat api_Pix.pure _, ⟨ids_flat api_Pix.pure _, trivial⟩⟩)).to (by kernel_rfl))
  ·replace hr := cd_f hb46 hr
   refine CQ.leave rfl ?_
   obtain rfl := Option.some.inj hr
   exact ⟨rfl, ((Wk.gc [9] [(4, false)] rfl (by exact ⟨ids_flat api_Pix.pure _, trivial⟩)).to (by kernel_rfl))⟩
 ·rintro x st' hq89
  clear hL88
  obtain ⟨rfl, hq89⟩ := hq89
  refine CQ_exit _ rfl ?_
  refine CQ.wk hq89 ?_
  refine CQ.seq ?_
  refine CQ.r0 fine ?_
  refine EVO.p1 (.hs 0 0 out_44.length 2) ?_
  refine EVO.p1 (.hs 0 0 out_44.length 2) ?_
  refine EVO.done ?_
  refine CQ.ret ?_
  obtain rfl := Option.some.inj hr
  exact FinQ.ret (vs := [.hs 0 0 out_44.length 2]) (by kernel_rfl) (Sn.hs rfl (.inl rfl) (SnC.pure (ids_flat api_Pix.pure _)) (fun h => flat_nil0 h))

theorem fiducialref09_Relate_ok (n : Nat) (a : api_Pix) (b : api_Pix) (c : api_Pix) (d : api_Pix) (r : Int) (hr : fiducialref09_Relate n a b c d = some r) : FnOk Tryz.prog 36 [.agg [.at (.int .i64 a.X), .at (.int .i64 a.Y)], .agg [.at (.int .i64 b.X), .at (.int .i64 b.Y)], .agg [.at (.int .i64 c.X), .at (.int .i64 c.Y)], .agg [.at (.int .i64 d.X), .at (.int .i64 d.Y)]] (.at (.int .i64 r)) := by
 unfold fiducialref09_Relate at hr
 refine FnOk.body fine Tryz.func36 (c := (Tryz.f36.body).getD .skip) rfl (s := mkS 43 0 [(0, .agg (api_Pix.c a)), (1, .agg (api_Pix.c b)), (2, .agg (api_Pix.c c)), (3, .agg (api_Pix.c d))]) (by kernel_rfl) (rs := [.tmp 8]) rfl ?_
 unfold Tryz.f36
 simp only [Option.getD_some]
 refine CQ.seq ?_
 refine CQ.r0 fine ?_
 refine EVO.e1 (.hp 0 0) [(0, .own (api_Pix.c a))] ?_
 refine EVO.e1 (.hp 1 0) [(1, .own (api_Pix.c b))] ?_
 refine EVO.e1 (.hp 2 0) [(2, .own (api_Pix.c c))] ?_
 refine EVO.e1 (.hp 3 0) [(3, .own (api_Pix.c d))] ?_
 refine EVO.p1 (aI64 0) ?_
 refine EVO.done ?_
 refine CQ.n1 [4, 5, 6, 7] (mkS 43 0 [(4, .hp 0 0), (5, .hp 1 0), (6, .hp 2 0), (7, .hp 3 0)]) [.own (api_Pix.c a), .own (api_Pix.c b), .own (api_Pix.c c), .own (api_Pix.c d)] ?_
 refine CQ.seq ?_
 replace hr := bd hr; obtain ⟨v1, hc2, hr⟩ := hr
 refine CQ.region fine (callOf_1 79 [.agg (api_Pix.c a), .agg (api_Pix.c b), .agg (api_Pix.c c), .agg (api_Pix.c d)] [.own (api_Pix.c a), .own (api_Pix.c b), .own (api_Pix.c c), .own (api_Pix.c d)] (.loc (slT api_Pix.c v1) [] [] 0) (callOk_ref (l := []) (args' := [.agg (api_Pix.c a), .agg (api_Pix.c b), .agg (api_Pix.c c), .agg (api_Pix.c d)]) (SnL.cons (Sn.pure rfl) (SnL.cons (Sn.pure rfl) (SnL.cons (Sn.pure rfl) (SnL.cons (Sn.pure rfl) SnL.nil)))) (fiducialref09_ends_ok n a b c d v1 hc2))) ?_
 refine EVO.p1 (.agg (api_Pix.c a)) ?_
 refine EVO.p1 (.agg (api_Pix.c b)) ?_
 refine EVO.p1 (.agg (api_Pix.c c)) ?_
 refine EVO.p1 (.agg (api_Pix.c d)) ?_
 refine EVO.c0 (by kernel_rfl) (callOf_at (by kernel_rfl)) ?_
 refine EVO.p1 (slT api_Pix.c v1) ?_
 refine EVO.done ?_
 refine CQ.n1 [4, 5, 6, 7, 9] (mkS 43 0 [(4, .hp 0 0), (5, .hp 1 0), (6, .hp 2 0), (7, .hp 3 0), (9, slT api_Pix.c v1)]) [.own (api_Pix.c a), .own (api_Pix.c b), .own (api_Pix.c c), .own (api_Pix.c d)] ?_
 refine CQ.seq ?_
 refine CQ.seq ?_
 refine CQ.r0 fine ?_
 refine EVO.p1 (slT api_Pix.c v1) ?_
 refine EVO.p1 (aI64 (v1.length : Int)) ?_
 refine EVO.p1 (aB (decide ((v1.length : Int) > 1))) ?_
 refine EVO.done ?_
 refine CQ.n1 [4, 5, 6, 7, 9, 17] (mkS 43 0 [(4, .hp 0 0), (5, .hp 1 0), (6, .hp 2 0), (7, .hp 3 0), (9, slT api_Pix.c v1), (17, aB (decide ((v1.length : Int) > 1)))]) [.own (api_Pix.c a), .own (api_Pix.c b), .own (api_Pix.c c), .own (api_Pix.c d)] ?_
 refine CQ.cond (t := decide ((v1.length : Int) > 1)) (by kernel_rfl) (fun hb3 => ?_) (fun hb3 => ?_)
 ·replace hr := cd_t hb3 hr
  refine CQ.seq ?_
  refine CQ.r0 fine ?_
  refine EVO.p1 (aI64 3) ?_
  refine EVO.done ?_
  refine CQ.ret ?_
  obtain rfl := Option.some.inj hr
  exact FinQ.r1 [aI64 3]
 ·replace hr := cd_f hb3 hr
  refine CQ.skip ?_
  refine CQ.seq ?_
  refine CQ.seq ?_
  refine CQ.r0 fine ?_
  refine EVO.p1 (slT api_Pix.c v1) ?_
  refine EVO.p1 (aI64 (v1.length : Int)) ?_
  refine EVO.p1 (aB (((v1.length : Int) : Int) == 1)) ?_
  refine EVO.done ?_
  refine CQ.n1 [4, 5, 6, 7, 20] (mkS 43 0 [(4, .hp 0 0), (5, .hp 1 0), (6, .hp 2 0), (7, .hp 3 0), (20, aB (((v1.length : Int) : Int) == 1))]) [.own (api_Pix.c a), .own (api_Pix.c b), .own (api_Pix.c c), .own (api_Pix.c d)] ?_
  refine CQ.cond (t := ((v1.length : Int) : Int) == 1) (by kernel_rfl) (fun hb4 => ?_) (fun hb4 => ?_)
  ·replace hr := cd_t hb4 hr
   refine CQ.seq ?_
   refine CQ.r0 fine ?_
   refine EVO.p1 (aI64 1) ?_
   refine EVO.done ?_
   refine CQ.ret ?_
   obtain rfl := Option.some.inj hr
   exact FinQ.r1 [aI64 1]
  ·replace hr := cd_f hb4 hr
   refine CQ.skip ?_
   refine CQ.seq ?_
   refine CQ.seq ?_
   replace hr := bd hr; obtain ⟨v5, hc6, hr⟩ := hr
   replace hr := bd hr; obtain ⟨v7, hc8, hr⟩ := hr
   rcases Bool.eq_false_or_eq_true (decide ((wrapF .i64 (v5 * v7)) < 0)) with hb9 | hb9
   ·replace hr := cd_t hb9 hr
    replace hr := bd hr; obtain ⟨v10, hc11, hr⟩ := hr
    replace hr := bd hr; obtain ⟨v12, hc13, hr⟩ := hr
    refine CQ.regionT fine (callOf_ok [{ f := 31, args := [.agg (api_Pix.c a), .agg (api_Pix.c b), .agg (api_Pix.c c)], H := [.own (api_Pix.c a), .own (api_Pix.c b), .own (api_Pix.c c), .own (api_Pix.c d)], r := .loc (aI64 v5) [] [] 0 : CE }, { f := 31, args := [.agg (api_Pix.c a), .agg (api_Pix.c b), .agg (api_Pix.c d)], H := [.own (api_Pix.c a), .own (api_Pix.c b), .own (api_Pix.c c), .own (api_Pix.c d)], r := .loc (aI64 v7) [] [] 0 : CE }, { f := 31, args := [.agg (api_Pix.c c), .agg (api_Pix.c d), .agg (api_Pix.c a)], H := [.own (api_Pix.c a), .own (api_Pix.c b), .own (api_Pix.c c), .own (api_Pix.c d)], r := .loc (aI64 v10) [] [] 0 : CE }, { f := 31, args := [.agg (api_Pix.c c), .agg (api_Pix.c d), .agg (api_Pix.c b)], H := [.own (api_Pix.c a), .own (api_Pix.c b), .own (api_Pix.c c), .own (api_Pix.c d)], r := .loc (aI64 v12) [] [] 0 : CE }] (List.forall_mem_cons.2 ⟨(callOk_val (l := []) (args' := [.agg (api_Pix.c a), .agg (api_Pix.c b), .agg (api_Pix.c c)]) rfl (SnL.cons (Sn.pure rfl) (SnL.cons (Sn.pure rfl) (SnL.cons (Sn.pure rfl) SnL.nil))) (fiducialref09_Orient_ok n a b c v5 hc6)), (List.forall_mem_cons.2 ⟨(callOk_val (l := []) (args' := [.agg (api_Pix.c a), .agg (api_Pix.c b), .agg (api_Pix.c d)]) rfl (SnL.cons (Sn.pure rfl) (SnL.cons (Sn.pure rfl) (SnL.cons (Sn.pure rfl) SnL.nil))) (fiducialref09_Orient_ok n a b d v7 hc8)), (List.forall_mem_cons.2 ⟨(callOk_val (l := []) (args' := [.agg (api_Pix.c c), .agg (api_Pix.c d), .agg (api_Pix.c a)]) rfl (SnL.cons (Sn.pure rfl) (SnL.cons (Sn.pure rfl) (SnL.cons (Sn.pure rfl) SnL.nil))) (fiducialref09_Orient_ok n c d a v10 hc11)), (List.forall_mem_cons.2 ⟨(callOk_val (l := []) (args' := [.agg (api_Pix.c c), .agg (api_Pix.c d), .agg (api_Pix.c b)]) rfl (SnL.cons (Sn.pure rfl) (SnL.cons (Sn.pure rfl) (SnL.cons (Sn.pure rfl) SnL.nil))) (fiducialref09_Orient_ok n c d b v12 hc13)), ce0⟩)⟩)⟩)⟩)) ?_
    refine EVT.p1 (.agg (api_Pix.c a)) ?_
    refine EVT.p1 (.agg (api_Pix.c b)) ?_
    refine EVT.p1 (.agg (api_Pix.c c)) ?_
    refine EVT.cal (by kernel_rfl) (by kernel_rfl) (callOf_at (by kernel_rfl)) (by kernel_rfl) ?_
    refine EVT.p1 (.agg (api_Pix.c a)) ?_
    refine EVT.p1 (.agg (api_Pix.c b)) ?_
    refine EVT.p1 (.agg (api_Pix.c d)) ?_
    refine EVT.cal (by kernel_rfl) (by kernel_rfl) (callOf_skip (fun _ h => by obtain ⟨e0, e1, e2⟩ := fiducialref09_Orient_inj h; rw [show v7 = v5 from Option.some.inj (hc8.symm.trans ((show fiducialref09_Orient n a b d = fiducialref09_Orient n a b c from (congr (congr (congr rfl e0) e1) e2)).trans hc6))]) (callOf_at (by kernel_rfl))) (by kernel_rfl) ?_
    refine EVT.p1 (aI64 (wrapF .i64 (v5 * v7))) ?_
    refine EVT.pure (v := aB true) (by kernel_rfl) (Eq.trans (b := some (.pure (aB (decide ((wrapF .i64 (v5 * v7)) < 0))))) (by kernel_rfl) (by rw [hb9])) (by kernel_rfl) ?_
    refine EVT.p1 (aB true) ?_
    refine EVT.p1 (.agg (api_Pix.c c)) ?_
    refine EVT.p1 (.agg (api_Pix.c d)) ?_
    refine EVT.p1 (.agg (api_Pix.c a)) ?_
    refine EVT.cal (by kernel_rfl) (by kernel_rfl) (callOf_skip (fun _ h => by obtain ⟨e0, e1, e2⟩ := fiducialref09_Orient_inj h; rw [show v10 = v5 from Option.some.inj (hc11.symm.trans ((show fiducialref09_Orient n c d a = fiducialref09_Orient n a b c from (congr (congr (congr rfl e0) e1) e2)).trans hc6))]) (callOf_skip (fun _ h => by obtain ⟨e0, e1, e2⟩ := fiducialref09_Orient_inj h; rw [show v10 = v7 from Option.some.inj (hc11.symm.trans ((show fiducialref09_Orient n c d a = fiducialref09_Orient n a b d from (congr (congr (congr rfl e0) e1) e2)).trans hc8))]) (callOf_at (by kernel_rfl)))) (by kernel_rfl) ?_
    refine EVT.p1 (.agg (api_Pix.c c)) ?_
    refine EVT.p1 (.agg (api_Pix.c d)) ?_
    refine EVT.p1 (.agg (api_Pix.c b)) ?_
    refine EVT.cal (by kernel_rfl) (by kernel_rfl) (callOf_skip (fun _ h => by obtain ⟨e0, e1, e2⟩ := fiducialref09_Orient_inj h; rw [show v12 = v5 from Option.some.inj (hc13.symm.trans ((show fiducialref09_Orient n c d b = fiducialref09_Orient n a b c from (congr (congr (congr rfl e0) e1) e2)).trans hc6))]) (callOf_skip (fun _ h => by obtain ⟨e0, e1, e2⟩ := fiducialref09_Orient_inj h; rw [show v12 = v7 from Option.some.inj (hc13.symm.trans ((show fiducialref09_Orient n c d b = fiducialref09_Orient n a b d from (congr (congr (congr rfl e0) e1) e2)).trans hc8))]) (callOf_skip (fun _ h => by obtain ⟨e0, e1, e2⟩ := fiducialref09_Orient_inj h; rw [show v12 = v10 from Option.some.inj (hc13.symm.trans ((show fiducialref09_Orient n c d b = fiducialref09_Orient n c d a from (congr (congr (congr rfl e0) e1) e2)).trans hc11))]) (callOf_at (by kernel_rfl))))) (by kernel_rfl) ?_
    refine EVT.p1 (aI64 (wrapF .i64 (v10 * v12))) ?_
    refine EVT.p1 (aB (decide ((wrapF .i64 (v10 * v12)) < 0))) ?_
    refine EVT.p1 (aB (decide ((wrapF .i64 (v10 * v12)) < 0))) ?_
    refine EVT.done ⟨by kernel_rfl, ?_⟩
    refine CQ.n1 [42] (mkS 43 0 [(42, aB (decide ((wrapF .i64 (v10 * v12)) < 0)))]) [.own (api_Pix.c a), .own (api_Pix.c b), .own (api_Pix.c c), .own (api_Pix.c d)] ?_
    refine CQ.cond (t := decide ((wrapF .i64 (v10 * v12)) < 0)) (by kernel_rfl) (fun hb14 => ?_) (fun hb14 => ?_)
    ·replace hr := cd_t hb14 hr
     refine CQ.seq ?_
     refine CQ.r0 fine ?_
     refine EVO.p1 (aI64 2) ?_
     refine EVO.done ?_
     refine CQ.ret ?_
     obtain rfl := Option.some.inj hr
     exact FinQ.r1 [aI64 2]
    ·replace hr := cd_f hb14 hr
     refine CQ.skip ?_
     refine CQ.seq ?_
     refine CQ.r0 fine ?_
     refine EVO.p1 (aI64 0) ?_
     refine EVO.done ?_
     refine CQ.ret ?_
     obtain rfl := Option.some.inj hr
     exact FinQ.r1 [aI64 0]
   ·replace hr := cd_f hb9 hr
    refine CQ.regionT fine (callOf_ok [{ f := 31, args := [.agg (api_Pix.c a), .agg (api_Pix.c b), .agg (api_Pix.c c)], H := [.own (api_Pix.c a), .own (api_Pix.c b), .own (api_Pix.c c), .own (api_Pix.c d)], r := .loc (aI64 v5) [] [] 0 : CE }, { f := 31, args := [.agg (api_Pix.c a), .agg (api_Pix.c b), .agg (api_Pix.c d)], H := [.own (api_Pix.c a), .own (api_Pix.c b), .own (api_Pix.c c), .own (api_Pix.c d)], r := .loc (aI64 v7) [] [] 0 : CE }] (List.forall_mem_cons.2 ⟨(callOk_val (l := []) (args' := [.agg (api_Pix.c a), .agg (api_Pix.c b), .agg (api_Pix.c c)]) rfl (SnL.cons (Sn.pure rfl) (SnL.cons (Sn.pure rfl) (SnL.cons (Sn.pure rfl) SnL.nil))) (fiducialref09_Orient_ok n a b c v5 hc6)), (List.forall_mem_cons.2 ⟨(callOk_val (l := []) (args' := [.agg (api_Pix.c a), .agg (api_Pix.c b), .agg (api_Pix.c d)]) rfl (SnL.cons (Sn.pure rfl) (SnL.cons (Sn.pure rfl) (SnL.cons (Sn.pure rfl) SnL.nil))) (fiducialref09_Orient_ok n a b d v7 hc8)), ce0⟩)⟩)) ?_
    refine EVT.p1 (.agg (api_Pix.c a)) ?_
    refine EVT.p1 (.agg (api_Pix.c b)) ?_
    refine EVT.p1 (.agg (api_Pix.c c)) ?_
    refine EVT.cal (by kernel_rfl) (by kernel_rfl) (callOf_at (by kernel_rfl)) (by kernel_rfl) ?_
    refine EVT.p1 (.agg (api_Pix.c a)) ?_
    refine EVT.p1 (.agg (api_Pix.c b)) ?_
    refine EVT.p1 (.agg (api_Pix.c d)) ?_
    refine EVT.cal (by kernel_rfl) (by kernel_rfl) (callOf_skip (fun _ h => by obtain ⟨e0, e1, e2⟩ := fiducialref09_Orient_inj h; rw [show v7 = v5 from Option.some.inj (hc8.symm.trans ((show fiducialref09_Orient n a b d = fiducialref09_Orient n a b c from (congr (congr (congr rfl e0) e1) e2)).trans hc6))]) (callOf_at (by kernel_rfl))) (by kernel_rfl) ?_
    refine EVT.p1 (aI64 (wrapF .i64 (v5 * v7))) ?_
    refine EVT.pure (v := aB false) (by kernel_rfl) (Eq.trans (b := some (.pure (aB (decide ((wrapF .i64 (v5 * v7)) < 0))))) (by kernel_rfl) (by rw [hb9])) (by kernel_rfl) ?_
    refine EVT.p1 (aB false) ?_
    refine EVT.s1 ?_
    refine EVT.s1 ?_
    refine EVT.s1 ?_
    refine EVT.s1 ?_
    refine EVT.s1 ?_
    refine EVT.s1 ?_
    refine EVT.s1 ?_
    refine EVT.s1 ?_
    refine EVT.s1 ?_
    refine EVT.s1 ?_
    refine EVT.p1 (aB false) ?_
    refine EVT.done ⟨by kernel_rfl, ?_⟩
    refine CQ.n1 [42] (mkS 43 0 [(42, aB false)]) [.own (api_Pix.c a), .own (api_Pix.c b), .own (api_Pix.c c), .own (api_Pix.c d)] ?_
    refine CQ.cF (by kernel_rfl) ?_
    refine CQ.skip ?_
    refine CQ.seq ?_
    refine CQ.r0 fine ?_
    refine EVO.p1 (aI64 0) ?_
    refine EVO.done ?_
    refine CQ.ret ?_
    obtain rfl := Option.some.inj hr
    exact FinQ.r1 [aI64 0]

theorem fiduciallaw09_PredicateRelate_ok (n : Nat) (l : A4 api_Pix) (r : Bool) (hr : fiduciallaw09_PredicateRelate n l = some r) : FnOk Tryz.prog 8 [.agg [.at (.int .i64 l.e0.X), .at (.int .i64 l.e0.Y), .at (.int .i64 l.e1.X), .at (.int .i64 l.e1.Y), .at (.int .i64 l.e2.X), .at (.int .i64 l.e2.Y), .at (.int .i64 l.e3.X), .at (.int .i64 l.e3.Y)]] (.at (.bool r)) := by
 unfold fiduciallaw09_PredicateRelate at hr
 refine FnOk.body fine Tryz.func8 (c := (Tryz.f8.body).getD .skip) rfl (s := mkS 66 0 [(0, .agg [aI64 l.e0.X, aI64 l.e0.Y, aI64 l.e1.X, aI64 l.e1.Y, aI64 l.e2.X, aI64 l.e2.Y, aI64 l.e3.X, aI64 l.e3.Y])]) (by kernel_rfl) (rs := [.tmp 2]) rfl ?_
 unfold Tryz.f8
 simp only [Option.getD_some]
 refine CQ.seq ?_
 refine CQ.r0 fine ?_
 refine EVO.e1 (.hp 0 0) [(0, .own [aI64 l.e0.X, aI64 l.e0.Y, aI64 l.e1.X, aI64 l.e1.Y, aI64 l.e2.X, aI64 l.e2.Y, aI64 l.e3.X, aI64 l.e3.Y])] ?_
 refine EVO.p1 (aB false) ?_
 refine EVO.done ?_
 refine CQ.n1 [1] (mkS 66 0 [(1, .hp 0 0)]) [.own [aI64 l.e0.X, aI64 l.e0.Y, aI64 l.e1.X, aI64 l.e1.Y, aI64 l.e2.X, aI64 l.e2.Y, aI64 l.e3.X, aI64 l.e3.Y]] ?_
 refine CQ.seq ?_
 refine CQ.seq ?_
 replace hr := bd hr; obtain ⟨v1, hc2, hr⟩ := hr
 refine CQ.region fine (callOf_1 28 [] [.own [aI64 l.e0.X, aI64 l.e0.Y, aI64 l.e1.X, aI64 l.e1.Y, aI64 l.e2.X, aI64 l.e2.Y, aI64 l.e3.X, aI64 l.e3.Y]] (.loc (aB v1) [] [] 0) (callOk_val (l := []) (args' := []) rfl SnL.nil (fiduciallaw09_known_ok n v1 hc2))) ?_
 refine EVO.c0 (by kernel_rfl) (callOf_at (by kernel_rfl)) ?_
 refine EVO.p1 (aB (!v1)) ?_
 refine EVO.done ?_
 refine CQ.n1 [1, 8] (mkS 66 0 [(1, .hp 0 0), (8, aB (!v1))]) [.own [aI64 l.e0.X, aI64 l.e0.Y, aI64 l.e1.X, aI64 l.e1.Y, aI64 l.e2.X, aI64 l.e2.Y, aI64 l.e3.X, aI64 l.e3.Y]] ?_
 refine CQ.cond (t := !v1) (by kernel_rfl) (fun hb3 => ?_) (fun hb3 => ?_)
 ·replace hr := cd_t hb3 hr
  refine CQ.seq ?_
  refine CQ.r0 fine ?_
  refine EVO.p1 (aB false) ?_
  refine EVO.done ?_
  refine CQ.ret ?_
  obtain rfl := Option.some.inj hr
  exact FinQ.r1 [aB false]
 ·replace hr := cd_f hb3 hr
  refine CQ.skip ?_
  refine CQ.seq ?_
  replace hr := bd hr; obtain ⟨v4, hc5, hr⟩ := hr
  refine CQ.region fine (callOf_1 35 [.agg (api_Pix.c l.e0), .agg (api_Pix.c l.e1), .agg (api_Pix.c l.e2), .agg (api_Pix.c l.e3)] [.own [aI64 l.e0.X, aI64 l.e0.Y, aI64 l.e1.X, aI64 l.e1.Y, aI64 l.e2.X, aI64 l.e2.Y, aI64 l.e3.X, aI64 l.e3.Y]] (.loc (.tup [aI64 v4.1, aI64 v4.2]) [] [] 0) (callOk_val (l := []) (args' := [.agg (api_Pix.c l.e0), .agg (api_Pix.c l.e1), .agg (api_Pix.c l.e2), .agg (api_Pix.c l.e3)]) rfl (SnL.cons (Sn.pure rfl) (SnL.cons (Sn.pure rfl) (SnL.cons (Sn.pure rfl) (SnL.cons (Sn.pure rfl) SnL.nil)))) (predicate_Relate_ok n l.e0 l.e1 l.e2 l.e3 v4 hc5))) ?_
  refine EVO.p1 (.hp 0 0) ?_
  refine EVO.p1 (.agg (api_Pix.c l.e0)) ?_
  refine EVO.p1 (.hp 0 2) ?_
  refine EVO.p1 (.agg (api_Pix.c l.e1)) ?_
  refine EVO.p1 (.hp 0 4) ?_
  refine EVO.p1 (.agg (api_Pix.c l.e2)) ?_
  refine EVO.p1 (.hp 0 6) ?_
  refine EVO.p1 (.agg (api_Pix.c l.e3)) ?_
  refine EVO.c0 (by kernel_rfl) (callOf_at (by kernel_rfl)) ?_
  refine EVO.p1 (.tup [aI64 v4.1, aI64 v4.2]) ?_
  refine EVO.p1 (aI64 v4.1) ?_
  refine EVO.p1 (aI64 v4.2) ?_
  refine EVO.p1 (aI64 v4.1) ?_
  refine EVO.p1 (aI64 v4.2) ?_
  refine EVO.done ?_
  refine CQ.n1 [1, 3, 4] (mkS 66 0 [(1, .hp 0 0), (3, aI64 v4.1), (4, aI64 v4.2)]) [.own [aI64 l.e0.X, aI64 l.e0.Y, aI64 l.e1.X, aI64 l.e1.Y, aI64 l.e2.X, aI64 l.e2.Y, aI64 l.e3.X, aI64 l.e3.Y]] ?_
  refine CQ.seq ?_
  refine CQ.seq ?_
  replace hr := bd hr; obtain ⟨v6, hc7, hr⟩ := hr
  refine CQ.region fine (callOf_1 30 [.hs 0 0 4 2] [.own [aI64 l.e0.X, aI64 l.e0.Y, aI64 l.e1.X, aI64 l.e1.Y, aI64 l.e2.X, aI64 l.e2.Y, aI64 l.e3.X, aI64 l.e3.Y]] (.loc (aB v6) [] [0] 0) (callOk_val (l := [0]) (args' := [slT api_Pix.c [l.e0, l.e1, l.e2, l.e3]]) rfl (SnL.cons (Sn.hs rfl (.inl rfl) (SnC.cons (Sn.pure rfl) (SnC.cons (Sn.pure rfl) (SnC.cons (Sn.pure rfl) (SnC.cons (Sn.pure rfl) (SnC.cons (Sn.pure rfl) (SnC.cons (Sn.pure rfl) (SnC.cons (Sn.pure rfl) (SnC.cons (Sn.pure rfl) SnC.nil)))))))) (fun h => nomatch h)) SnL.nil) (fiducialref09_All_ok n [l.e0, l.e1, l.e2, l.e3] v6 hc7))) ?_
  refine EVO.p1 (.hs 0 0 4 2) ?_
  refine EVO.c0 (by kernel_rfl) (callOf_at (by kernel_rfl)) ?_
  refine EVO.p1 (aB (!v6)) ?_
  refine EVO.done ?_
  refine CQ.n1 [1, 3, 4, 23] (mkS 66 0 [(1, .hp 0 0), (3, aI64 v4.1), (4, aI64 v4.2), (23, aB (!v6))]) [.own [aI64 l.e0.X, aI64 l.e0.Y, aI64 l.e1.X, aI64 l.e1.Y, aI64 l.e2.X, aI64 l.e2.Y, aI64 l.e3.X, aI64 l.e3.Y]] ?_
  refine CQ.cond (t := !v6) (by kernel_rfl) (fun hb8 => ?_) (fun hb8 => ?_)
  ·replace hr := cd_t hb8 hr
   refine CQ.seq ?_
   rcases Bool.eq_false_or_eq_true ((v4.1 : Int) == 0) with hb9 | hb9
   ·replace hr := cd_t hb9 hr
    refine CQ.r0 fine ?_
    refine EVO.p1 (aI64 v4.1) ?_
    refine EVO.p0 (v := aB true) (Eq.trans (b := some (.pure (aB ((v4.1 : Int) == 0)))) (by kernel_rfl) (by rw [hb9])) ?_
    refine EVO.p1 (aB true) ?_
    refine EVO.q1 (aI64 v4.2) ?_
    refine EVO.q1 (aB ((v4.2 : Int) == 2)) ?_
    refine EVO.p1 (aB ((v4.2 : Int) == 2)) ?_
    refine EVO.p1 (aB ((v4.2 : Int) == 2)) ?_
    refine EVO.done ?_
    refine CQ.ret ?_
    obtain rfl := Option.some.inj hr
    exact FinQ.r1 [aB ((v4.2 : Int) == 2)]
   ·replace hr := cd_f hb9 hr
    refine CQ.r0 fine ?_
    refine EVO.p1 (aI64 v4.1) ?_
    refine EVO.p0 (v := aB false) (Eq.trans (b := some (.pure (aB ((v4.1 : Int) == 0)))) (by kernel_rfl) (by rw [hb9])) ?_
    refine EVO.p1 (aB false) ?_
    refine EVO.s1 ?_
    refine EVO.s1 ?_
    refine EVO.p1 (aB false) ?_
    refine EVO.p1 (aB false) ?_
    refine EVO.done ?_
    refine CQ.ret ?_
    obtain rfl := Option.some.inj hr
    exact FinQ.r1 [aB false]
  ·replace hr := cd_f hb8 hr
   refine CQ.skip ?_
   refine CQ.seq ?_
   replace hr := bd hr; obtain ⟨v10, hc11, hr⟩ := hr
   refine CQ.region fine (callOf_1 35 [.agg (api_Pix.c l.e3), .agg (api_Pix.c l.e2), .agg (api_Pix.c l.e0), .agg (api_Pix.c l.e1)] [.own [aI64 l.e0.X, aI64 l.e0.Y, aI64 l.e1.X, aI64 l.e1.Y, aI64 l.e2.X, aI64 l.e2.Y, aI64 l.e3.X, aI64 l.e3.Y]] (.loc (.tup [aI64 v10.1, aI64 v10.2]) [] [] 0) (callOk_val (l := []) (args' := [.agg (api_Pix.c l.e3), .agg (api_Pix.c l.e2), .agg (api_Pix.c l.e0), .agg (api_Pix.c l.e1)]) rfl (SnL.cons (Sn.pure rfl) (SnL.cons (Sn.pure rfl) (SnL.cons (Sn.pure rfl) (SnL.cons (Sn.pure rfl) SnL.nil)))) (predicate_Relate_ok n l.e3 l.e2 l.e0 l.e1 v10 hc11))) ?_
   refine EVO.p1 (.hp 0 6) ?_
   refine EVO.p1 (.agg (api_Pix.c l.e3)) ?_
   refine EVO.p1 (.hp 0 4) ?_
   refine EVO.p1 (.agg (api_Pix.c l.e2)) ?_
   refine EVO.p1 (.hp 0 0) ?_
   refine EVO.p1 (.agg (api_Pix.c l.e0)) ?_
   refine EVO.p1 (.hp 0 2) ?_
   refine EVO.p1 (.agg (api_Pix.c l.e1)) ?_
   refine EVO.c0 (by kernel_rfl) (callOf_at (by kernel_rfl)) ?_
   refine EVO.p1 (.tup [aI64 v10.1, aI64 v10.2]) ?_
   refine EVO.p1 (aI64 v10.1) ?_
   refine EVO.p1 (aI64 v10.2) ?_
   refine EVO.p1 (aI64 v10.1) ?_
   refine EVO.p1 (aI64 v10.2) ?_
   refine EVO.done ?_
   refine CQ.n1 [1, 3, 4, 5, 6] (mkS 66 0 [(1, .hp 0 0), (3, aI64 v4.1), (4, aI64 v4.2), (5, aI64 v10.1), (6, aI64 v10.2)]) [.own [aI64 l.e0.X, aI64 l.e0.Y, aI64 l.e1.X, aI64 l.e1.Y, aI64 l.e2.X, aI64 l.e2.Y, aI64 l.e3.X, aI64 l.e3.Y]] ?_
   refine CQ.seq ?_
   rcases Bool.eq_false_or_eq_true ((v4.2 : Int) == 0) with hb12 | hb12
   ·replace hr := cd_t hb12 hr
    rcases Bool.eq_false_or_eq_true ((v10.2 : Int) == 0) with hb13 | hb13
    ·replace hr := cd_t hb13 hr
     replace hr := bd hr; obtain ⟨v14, hc15, hr⟩ := hr
     rcases Bool.eq_false_or_eq_true ((v4.1 : Int) == v14) with hb16 | hb16
     ·replace hr := cd_t hb16 hr
      refine CQ.region fine (callOf_1 36 [.agg (api_Pix.c l.e0), .agg (api_Pix.c l.e1), .agg (api_Pix.c l.e2), .agg (api_Pix.c l.e3)] [.own [aI64 l.e0.X, aI64 l.e0.Y, aI64 l.e1.X, aI64 l.e1.Y, aI64 l.e2.X, aI64 l.e2.Y, aI64 l.e3.X, aI64 l.e3.Y]] (.loc (aI64 v14) [] [] 0) (callOk_val (l := []) (args' := [.agg (api_Pix.c l.e0), .agg (api_Pix.c l.e1), .agg (api_Pix.c l.e2), .agg (api_Pix.c l.e3)]) rfl (SnL.cons (Sn.pure rfl) (SnL.cons (Sn.pure rfl) (SnL.cons (Sn.pure rfl) (SnL.cons (Sn.pure rfl) SnL.nil)))) (fiducialref09_Relate_ok n l.e0 l.e1 l.e2 l.e3 v14 hc15))) ?_
      refine EVO.p1 (aI64 v4.2) ?_
      refine EVO.p0 (v := aB true) (Eq.trans (b := some (.pure (aB ((v4.2 : Int) == 0)))) (by kernel_rfl) (by rw [hb12])) ?_
      refine EVO.p1 (aB true) ?_
      refine EVO.q1 (aI64 v10.2) ?_
      refine EVO.pure (v := aB true) (by kernel_rfl) (Eq.trans (b := some (.pure (aB ((v10.2 : Int) == 0)))) (by kernel_rfl) (by rw [hb13])) ?_
      refine EVO.p1 (aB true) ?_
      refine EVO.p1 (aB true) ?_
      refine EVO.q1 (aI64 v4.1) ?_
      refine EVO.q1 (.hp 0 0) ?_
      refine EVO.q1 (.agg (api_Pix.c l.e0)) ?_
      refine EVO.q1 (.hp 0 2) ?_
      refine EVO.q1 (.agg (api_Pix.c l.e1)) ?_
      refine EVO.q1 (.hp 0 4) ?_
      refine EVO.q1 (.agg (api_Pix.c l.e2)) ?_
      refine EVO.q1 (.hp 0 6) ?_
      refine EVO.q1 (.agg (api_Pix.c l.e3)) ?_
      refine EVO.cal (by kernel_rfl) (by kernel_rfl) (callOf_at (by kernel_rfl)) ?_
      refine EVO.pure (v := aB true) (by kernel_rfl) (Eq.trans (b := some (.pure (aB ((v4.1 : Int) == v14)))) (by kernel_rfl) (by rw [hb16])) ?_
      refine EVO.p1 (aB true) ?_
      refine EVO.p1 (aB true) ?_
      refine EVO.q1 (aI64 v4.1) ?_
      refine EVO.q1 (aI64 v10.1) ?_
      refine EVO.q1 (aB ((v4.1 : Int) == v10.1)) ?_
      refine EVO.p1 (aB ((v4.1 : Int) == v10.1)) ?_
      refine EVO.p1 (aB ((v4.1 : Int) == v10.1)) ?_
      refine EVO.done ?_
      refine CQ.ret ?_
      obtain rfl := Option.some.inj hr
      exact FinQ.r1 [aB ((v4.1 : Int) == v10.1)]
     ·replace hr := cd_f hb16 hr
      refine CQ.region fine (callOf_1 36 [.agg (api_Pix.c l.e0), .agg (api_Pix.c l.e1), .agg (api_Pix.c l.e2), .agg (api_Pix.c l.e3)] [.own [aI64 l.e0.X, aI64 l.e0.Y, aI64 l.e1.X, aI64 l.e1.Y, aI64 l.e2.X, aI64 l.e2.Y, aI64 l.e3.X, aI64 l.e3.Y]] (.loc (aI64 v14) [] [] 0) (callOk_val (l := []) (args' := [.agg (api_Pix.c l.e0), .agg (api_Pix.c l.e1), .agg (api_Pix.c l.e2), .agg (api_Pix.c l.e3)]) rfl (SnL.cons (Sn.pure rfl) (SnL.cons (Sn.pure rfl) (SnL.cons (Sn.pure rfl) (SnL.cons (Sn.pure rfl) SnL.nil)))) (fiducialref09_Relate_ok n l.e0 l.e1 l.e2 l.e3 v14 hc15))) ?_
      refine EVO.p1 (aI64 v4.2) ?_
      refine EVO.p0 (v := aB true) (Eq.trans (b := some (.pure (aB ((v4.2 : Int) == 0)))) (by kernel_rfl) (by rw [hb12])) ?_
      refine EVO.p1 (aB true) ?_
      refine EVO.q1 (aI64 v10.2) ?_
      refine EVO.pure (v := aB true) (by kernel_rfl) (Eq.trans (b := some (.pure (aB ((v10.2 : Int) == 0)))) (by kernel_rfl) (by rw [hb13])) ?_
      refine EVO.p1 (aB true) ?_
      refine EVO.p1 (aB true) ?_
      refine EVO.q1 (aI64 v4.1) ?_
      refine EVO.q1 (.hp 0 0) ?_
      refine EVO.q1 (.agg (api_Pix.c l.e0)) ?_
      refine EVO.q1 (.hp 0 2) ?_
      refine EVO.q1 (.agg (api_Pix.c l.e1)) ?_
      refine EVO.q1 (.hp 0 4) ?_
      refine EVO.q1 (.agg (api_Pix.c l.e2)) ?_
      refine EVO.q1 (.hp 0 6) ?_
      refine EVO.q1 (.agg (api_Pix.c l.e3)) ?_
      refine EVO.cal (by kernel_rfl) (by kernel_rfl) (callOf_at (by kernel_rfl)) ?_
      refine EVO.pure (v := aB false) (by kernel_rfl) (Eq.trans (b := some (.pure (aB ((v4.1 : Int) == v14)))) (by kernel_rfl) (by rw [hb16])) ?_
      refine EVO.p1 (aB false) ?_
      refine EVO.p1 (aB false) ?_
      refine EVO.s1 ?_
      refine EVO.s1 ?_
      refine EVO.s1 ?_
      refine EVO.p1 (aB false) ?_
      refine EVO.p1 (aB false) ?_
      refine EVO.done ?_
      refine CQ.ret ?_
      obtain rfl := Option.some.inj hr
      exact FinQ.r1 [aB false]
    ·replace hr := cd_f hb13 hr
     refine CQ.r0 fine ?_
     refine EVO.p1 (aI64 v4.2) ?_
     refine EVO.p0 (v := aB true) (Eq.trans (b := some (.pure (aB ((v4.2 : Int) == 0)))) (by kernel_rfl) (by rw [hb12])) ?_
     refine EVO.p1 (aB true) ?_
     refine EVO.q1 (aI64 v10.2) ?_
     refine EVO.pure (v := aB false) (by kernel_rfl) (Eq.trans (b := some (.pure (aB ((v10.2 : Int) == 0)))) (by kernel_rfl) (by rw [hb13])) ?_
     refine EVO.p1 (aB false) ?_
     refine EVO.p1 (aB false) ?_
     refine EVO.s1 ?_
     refine EVO.s1 ?_
     refine EVO.s1 ?_
     refine EVO.s1 ?_
     refine EVO.s1 ?_
     refine EVO.s1 ?_
     refine EVO.s1 ?_
     refine EVO.s1 ?_
     refine EVO.s1 ?_
     refine EVO.s1 ?_
     refine EVO.s1 ?_
     refine EVO.p1 (aB false) ?_
     refine EVO.p1 (aB false) ?_
     refine EVO.s1 ?_
     refine EVO.s1 ?_
     refine EVO.s1 ?_
     refine EVO.p1 (aB false) ?_
     refine EVO.p1 (aB false) ?_
     refine EVO.done ?_
     refine CQ.ret ?_
     obtain rfl := Option.some.inj hr
     exact FinQ.r1 [aB false]
   ·replace hr := cd_f hb12 hr
    refine CQ.r0 fine ?_
    refine EVO.p1 (aI64 v4.2) ?_
    refine EVO.p0 (v := aB false) (Eq.trans (b := some (.pure (aB ((v4.2 : Int) == 0)))) (by kernel_rfl) (by rw [hb12])) ?_
    refine EVO.p1 (aB false) ?_
    refine EVO.s1 ?_
    refine EVO.s1 ?_
    refine EVO.p1 (aB false) ?_
    refine EVO.p1 (aB false) ?_
    refine EVO.s1 ?_
    refine EVO.s1 ?_
    refine EVO.s1 ?_
    refine EVO.s1 ?_
    refine EVO.s1 ?_
    refine EVO.s1 ?_
    refine EVO.s1 ?_
    refine EVO.s1 ?_
    refine EVO.s1 ?_
    refine EVO.s1 ?_
    refine EVO.s1 ?_
    refine EVO.p1 (aB false) ?_
    refine EVO.p1 (aB false) ?_
    refine EVO.s1 ?_
    refine EVO.s1 ?_
    refine EVO.s1 ?_
    refine EVO.p1 (aB false) ?_
    refine EVO.p1 (aB false) ?_
    refine EVO.done ?_
    refine CQ.ret ?_
    obtain rfl := Option.some.inj hr
    exact FinQ.r1 [aB false]
end Go.L
