/- The program's functions compute what the plain Lean programs compute, part 4; printed by a program. -/
import Derived.Test.YtlajgmapmocpbabGreatTriaLP3
import Derived.Test.YtlajgmapmocpbabGreatL0c
import Derived.Test.YtlajgmapmocpbabGreatChecked
import Derived.KernelRfl
set_option linter.unusedVariables false
set_option linter.unusedSimpArgs false
set_option maxRecDepth 100000
set_option maxHeartbeats 4000000
namespace Go.L
open Go Go.Eng Go.Proofs
theorem fiducialref02_Same_ok (n : Nat) (x' : api_Rat) (y : api_Rat) (r : Bool) (hr : fiducialref02_Same n x' y = some r) : FnOk Tryz.prog 16 [.agg [.at (.bool x'.Num.Negative), slT (iC .u32) x'.Num.Groups, .at (.bool x'.Den.Negative), slT (iC .u32) x'.Den.Groups], .agg [.at (.bool y.Num.Negative), slT (iC .u32) y.Num.Groups, .at (.bool y.Den.Negative), slT (iC .u32) y.Den.Groups]] (.at (.bool r)) := by
 unfold fiducialref02_Same at hr
 refine FnOk.body fine Tryz.func16 (c := (Tryz.f16.body).getD .skip) rfl (s := mkS 17 0 [(0, .agg (api_Rat.c x')), (1, .agg (api_Rat.c y))]) (by kernel_rfl) (rs := [.tmp 4]) rfl ?_
 unfold Tryz.f16
 simp only [Option.getD_some]
 refine CQ.seq ?_
 refine CQ.r0 fine ?_
 refine EVO.e1 (.hp 0 0) [(0, .own (api_Rat.c x'))] ?_
 refine EVO.e1 (.hp 1 0) [(1, .own (api_Rat.c y))] ?_
 refine EVO.p1 (aB false) ?_
 refine EVO.done ?_
 refine CQ.n1 [2, 3] (mkS 17 0 [(2, .hp 0 0), (3, .hp 1 0)]) [.own (api_Rat.c x'), .own (api_Rat.c y)] ?_
 refine CQ.seq ?_
 replace hr := bd hr; obtain ⟨v1, hc2, hr⟩ := hr
 rcases Bool.eq_false_or_eq_true v1 with hb3 | hb3
 ·subst hb3
  replace hr := cd_t rfl hr
  replace hr := bd hr; obtain ⟨v4, hc5, hr⟩ := hr
  rcases Bool.eq_false_or_eq_true v4 with hb6 | hb6
  ·subst hb6
   replace hr := cd_t rfl hr
   replace hr := bd hr; obtain ⟨v7, hc8, hr⟩ := hr
   refine CQ.region fine (callOf_ok [{ f := 54, args := [.agg (api_Rat.c x')], H := [.own (api_Rat.c x'), .own (api_Rat.c y)], r := .loc (aB true) [] [] 0 : CE }, { f := 54, args := [.agg (api_Rat.c y)], H := [.own (api_Rat.c x'), .own (api_Rat.c y)], r := .loc (aB true) [] [] 0 : CE }, { f := 18, args := [.agg (api_Rat.c x'), .agg (api_Rat.c y)], H := [.own (api_Rat.c x'), .own (api_Rat.c y)], r := .loc (aI64 v7) [] [] 0 : CE }] (List.forall_mem_cons.2 ⟨(callOk_val (l := []) (args' := [.agg (api_Rat.c x')]) rfl (SnL.cons (Sn.pure rfl) SnL.nil) (fiducialref02_Valid_ok n x' true hc2)), (List.forall_mem_cons.2 ⟨(callOk_val (l := []) (args' := [.agg (api_Rat.c y)]) rfl (SnL.cons (Sn.pure rfl) SnL.nil) (fiducialref02_Valid_ok n y true hc5)), (List.forall_mem_cons.2 ⟨(callOk_val (l := []) (args' := [.agg (api_Rat.c x'), .agg (api_Rat.c y)]) rfl (SnL.cons (Sn.pure rfl) (SnL.cons (Sn.pure rfl) SnL.nil)) (fiducialref02_Compare_ok n x' y v7 hc8)), ce0⟩)⟩)⟩)) ?_
   refine EVO.p1 (.agg (api_Rat.c x')) ?_
   refine EVO.c0 (by kernel_rfl) (callOf_at (by kernel_rfl)) ?_
   refine EVO.p1 (aB true) ?_
   refine EVO.q1 (.agg (api_Rat.c y)) ?_
   refine EVO.cal (by kernel_rfl) (by kernel_rfl) (callOf_skip (fun _ h => by obtain e0 := fiducialref02_Valid_inj h; rw [show true = true from Option.some.inj (hc5.symm.trans ((show fiducialref02_Valid n y = fiducialref02_Valid n x' from (congr rfl e0)).trans hc2))]) (callOf_at (by kernel_rfl))) ?_
   refine EVO.p1 (aB true) ?_
   refine EVO.p1 (aB true) ?_
   refine EVO.q1 (.agg (api_Rat.c x')) ?_
   refine EVO.q1 (.agg (api_Rat.c y)) ?_
   refine EVO.cal (by kernel_rfl) (by kernel_rfl) (callOf_skip (fun h _ => absurd (show (18 : Nat) = 54 from h) (by decide)) (callOf_skip (fun h _ => absurd (show (18 : Nat) = 54 from h) (by decide)) (callOf_at (by kernel_rfl)))) ?_
   refine EVO.q1 (aB ((v7 : Int) == 0)) ?_
   refine EVO.p1 (aB ((v7 : Int) == 0)) ?_
   refine EVO.p1 (aB ((v7 : Int) == 0)) ?_
   refine EVO.done ?_
   refine CQ.ret ?_
   obtain rfl := Option.some.inj hr
   exact FinQ.r1 [aB ((v7 : Int) == 0)]
  ·subst hb6
   replace hr := cd_f rfl hr
   refine CQ.region fine (callOf_ok [{ f := 54, args := [.agg (api_Rat.c x')], H := [.own (api_Rat.c x'), .own (api_Rat.c y)], r := .loc (aB true) [] [] 0 : CE }, { f := 54, args := [.agg (api_Rat.c y)], H := [.own (api_Rat.c x'), .own (api_Rat.c y)], r := .loc (aB false) [] [] 0 : CE }] (List.forall_mem_cons.2 ⟨(callOk_val (l := []) (args' := [.agg (api_Rat.c x')]) rfl (SnL.cons (Sn.pure rfl) SnL.nil) (fiducialref02_Valid_ok n x' true hc2)), (List.forall_mem_cons.2 ⟨(callOk_val (l := []) (args' := [.agg (api_Rat.c y)]) rfl (SnL.cons (Sn.pure rfl) SnL.nil) (fiducialref02_Valid_ok n y false hc5)), ce0⟩)⟩)) ?_
   refine EVO.p1 (.agg (api_Rat.c x')) ?_
   refine EVO.c0 (by kernel_rfl) (callOf_at (by kernel_rfl)) ?_
   refine EVO.p1 (aB true) ?_
   refine EVO.q1 (.agg (api_Rat.c y)) ?_
   refine EVO.cal (by kernel_rfl) (by kernel_rfl) (callOf_skip (fun _ h => by obtain e0 := fiducialref02_Valid_inj h; rw [show false = true from Option.some.inj (hc5.symm.trans ((show fiducialref02_Valid n y = fiducialref02_Valid n x' from (congr rfl e0)).trans hc2))]) (callOf_at (by kernel_rfl))) ?_
   refine EVO.p1 (aB false) ?_
   refine EVO.p1 (aB false) ?_
   refine EVO.s1 ?_
   refine EVO.s1 ?_
   refine EVO.s1 ?_
   refine EVO.s1 ?_
   refine EVO.p1 (aB false) ?_
   refine EVO.p1 (aB false) ?_
   refine EVO.done ?_
   refine CQ.ret ?_
   obtain rfl := Option.some.inj hr
   exact FinQ.r1 [aB false]
 ·subst hb3
  replace hr := cd_f rfl hr
  refine CQ.region fine (callOf_1 54 [.agg (api_Rat.c x')] [.own (api_Rat.c x'), .own (api_Rat.c y)] (.loc (aB false) [] [] 0) (callOk_val (l := []) (args' := [.agg (api_Rat.c x')]) rfl (SnL.cons (Sn.pure rfl) SnL.nil) (fiducialref02_Valid_ok n x' false hc2))) ?_
  refine EVO.p1 (.agg (api_Rat.c x')) ?_
  refine EVO.c0 (by kernel_rfl) (callOf_at (by kernel_rfl)) ?_
  refine EVO.p1 (aB false) ?_
  refine EVO.s1 ?_
  refine EVO.s1 ?_
  refine EVO.p1 (aB false) ?_
  refine EVO.p1 (aB false) ?_
  refine EVO.s1 ?_
  refine EVO.s1 ?_
  refine EVO.s1 ?_
  refine EVO.s1 ?_
  refine EVO.p1 (aB false) ?_
  refine EVO.p1 (aB false) ?_
  refine EVO.done ?_
  refine CQ.ret ?_
  obtain rfl := Option.some.inj hr
  exact FinQ.r1 [aB false]

theorem fiduciallaw09_known_ok (n : Nat) (r : Bool) (hr : fiduciallaw09_known n = some r) : FnOk Tryz.prog 8 [] (.at (.bool r)) := by
 unfold fiduciallaw09_known at hr
 refine FnOk.body fine Tryz.func8 (c := (Tryz.f8.body).getD .skip) rfl (s := mkS 64 0 []) (by kernel_rfl) (rs := [.tmp 0]) rfl ?_
 unfold Tryz.f8
 simp only [Option.getD_some]
 refine CQ.seq ?_
 refine CQ.r0 fine ?_
 refine EVO.p1 (aB false) ?_
 refine EVO.done ?_
 refine CQ.n1 [] (mkS 64 0 []) [] ?_
 refine CQ.seq ?_
 refine CQ.r0 fine ?_
 refine EVO.p1 (.agg [aI64 0, aI64 0]) ?_
 refine EVO.p1 (.agg [aI64 4, aI64 0]) ?_
 refine EVO.p1 (.agg [aI64 0, aI64 4]) ?_
 refine EVO.e1 (.hp 0 0) [(0, .own [aI64 0, aI64 0])] ?_
 refine EVO.e1 (.hp 1 0) [(1, .own [aI64 0, aI64 0])] ?_
 refine EVO.e1 (.hp 2 0) [(2, .own [aI64 0, aI64 0])] ?_
 refine EVO.e1 (.unk) [(0, .own [aI64 0, aI64 0])] ?_
 refine EVO.e1 (.unk) [(1, .own [aI64 4, aI64 0])] ?_
 refine EVO.e1 (.unk) [(2, .own [aI64 0, aI64 4])] ?_
 refine EVO.done ?_
 refine CQ.n1 [1, 2, 3] (mkS 64 0 [(1, .hp 0 0), (2, .hp 1 0), (3, .hp 2 0)]) [.own [aI64 0, aI64 0], .own [aI64 4, aI64 0], .own [aI64 0, aI64 4]] ?_
 refine CQ.seq ?_
 replace hr := bd hr; obtain ⟨v1, hc2, hr⟩ := hr
 refine CQ.region fine (callOf_1 36 [.agg [aI64 0, aI64 0], .agg [aI64 4, aI64 4], .agg [aI64 4, aI64 0], .agg [aI64 0, aI64 4]] [.own [aI64 0, aI64 0], .own [aI64 4, aI64 0], .own [aI64 0, aI64 4]] (.loc (.tup [aI64 v1.1, aI64 v1.2]) [] [] 0) (callOk_val (l := []) (args' := [.agg (api_Pix.c (api_Pix.mk 0 0)), .agg (api_Pix.c (api_Pix.mk 4 4)), .agg (api_Pix.c (api_Pix.mk 4 0)), .agg (api_Pix.c (api_Pix.mk 0 4))]) rfl (SnL.cons (Sn.pure rfl) (SnL.cons (Sn.pure rfl) (SnL.cons (Sn.pure rfl) (SnL.cons (Sn.pure rfl) SnL.nil)))) (predicate_Relate_ok n (api_Pix.mk 0 0) (api_Pix.mk 4 4) (api_Pix.mk 4 0) (api_Pix.mk 0 4) v1 hc2))) ?_
 refine EVO.p1 (.agg [aI64 0, aI64 0]) ?_
 refine EVO.p1 (.agg [aI64 4, aI64 4]) ?_
 refine EVO.p1 (.agg [aI64 4, aI64 0]) ?_
 refine EVO.p1 (.agg [aI64 0, aI64 4]) ?_
 refine EVO.c0 (by kernel_rfl) (callOf_at (by kernel_rfl)) ?_
 refine EVO.p1 (.tup [aI64 v1.1, aI64 v1.2]) ?_
 refine EVO.p1 (aI64 v1.1) ?_
 refine EVO.p1 (aI64 v1.2) ?_
 refine EVO.p1 (aI64 v1.1) ?_
 refine EVO.p1 (aI64 v1.2) ?_
 refine EVO.done ?_
 refine CQ.n1 [1, 2, 3, 4, 5] (mkS 64 0 [(1, .hp 0 0), (2, .hp 1 0), (3, .hp 2 0), (4, aI64 v1.1), (5, aI64 v1.2)]) [.own [aI64 0, aI64 0], .own [aI64 4, aI64 0], .own [aI64 0, aI64 4]] ?_
 refine CQ.seq ?_
 replace hr := bd hr; obtain ⟨v3, hc4, hr⟩ := hr
 refine CQ.region fine (callOf_1 37 [.agg [aI64 0, aI64 0], .agg [aI64 4, aI64 4], .agg [aI64 4, aI64 0], .agg [aI64 0, aI64 4]] [.own [aI64 0, aI64 0], .own [aI64 4, aI64 0], .own [aI64 0, aI64 4]] (.loc (.tup [.agg (api_Place.c v3.1), aI64 v3.2]) [] [] 0) (callOk_ref (l := []) (args' := [.agg (api_Pix.c (api_Pix.mk 0 0)), .agg (api_Pix.c (api_Pix.mk 4 4)), .agg (api_Pix.c (api_Pix.mk 4 0)), .agg (api_Pix.c (api_Pix.mk 0 4))]) (SnL.cons (Sn.pure rfl) (SnL.cons (Sn.pure rfl) (SnL.cons (Sn.pure rfl) (SnL.cons (Sn.pure rfl) SnL.nil)))) (predicate_Meet_ok n (api_Pix.mk 0 0) (api_Pix.mk 4 4) (api_Pix.mk 4 0) (api_Pix.mk 0 4) v3 hc4))) ?_
 refine EVO.p1 (.agg [aI64 0, aI64 0]) ?_
 refine EVO.p1 (.agg [aI64 4, aI64 4]) ?_
 refine EVO.p1 (.agg [aI64 4, aI64 0]) ?_
 refine EVO.p1 (.agg [aI64 0, aI64 4]) ?_
 refine EVO.c0 (by kernel_rfl) (callOf_at (by kernel_rfl)) ?_
 refine EVO.p1 (.tup [.agg (api_Place.c v3.1), aI64 v3.2]) ?_
 refine EVO.p1 (.agg (api_Place.c v3.1)) ?_
 refine EVO.p1 (aI64 v3.2) ?_
 refine EVO.e1 (.hp 3 0) [(3, .own [aB false, .at (.slice none 0 0), aB false, .at (.slice none 0 0), aB false, .at (.slice none 0 0), aB false, .at (.slice none 0 0)])] ?_
 refine EVO.e1 (.unk) [(3, .own (api_Place.c v3.1))] ?_
 refine EVO.p1 (aI64 v3.2) ?_
 refine EVO.done ?_
 refine CQ.n1 [1, 2, 3, 4, 5, 6, 7] (mkS 64 0 [(1, .hp 0 0), (2, .hp 1 0), (3, .hp 2 0), (4, aI64 v1.1), (5, aI64 v1.2), (6, .hp 3 0), (7, aI64 v3.2)]) [.own [aI64 0, aI64 0], .own [aI64 4, aI64 0], .own [aI64 0, aI64 4], .own (api_Place.c v3.1)] ?_
 refine CQ.seq ?_
 replace hr := bd hr; obtain ⟨v5, hc6, hr⟩ := hr
 rcases Bool.eq_false_or_eq_true ((v5 : Int) == 1) with hb7 | hb7
 ·replace hr := cd_t hb7 hr
  replace hr := bd hr; obtain ⟨v8, hc9, hr⟩ := hr
  rcases Bool.eq_false_or_eq_true ((v8 : Int) == 1) with hb10 | hb10
  ·replace hr := cd_t hb10 hr
   rcases Bool.eq_false_or_eq_true ((v1.1 : Int) == 2) with hb11 | hb11
   ·replace hr := cd_t hb11 hr
    rcases Bool.eq_false_or_eq_true ((v1.2 : Int) == 0) with hb12 | hb12
    ·replace hr := cd_t hb12 hr
     rcases Bool.eq_false_or_eq_true ((v3.2 : Int) == 0) with hb13 | hb13
     ·replace hr := cd_t hb13 hr
      replace hr := bd hr; obtain ⟨v14, hc15, hr⟩ := hr
      replace hr := bd hr; obtain ⟨v16, hc17, hr⟩ := hr
      rcases Bool.eq_false_or_eq_true v16 with hb18 | hb18
      ·subst hb18
       replace hr := cd_t rfl hr
       replace hr := bd hr; obtain ⟨v19, hc20, hr⟩ := hr
       refine CQ.regionT fine (callOf_ok [{ f := 38, args := [.agg [aI64 0, aI64 0], .agg [aI64 4, aI64 0], .agg [aI64 0, aI64 4]], H := [.own [aI64 0, aI64 0], .own [aI64 4, aI64 0], .own [aI64 0, aI64 4], .own (api_Place.c v3.1)], r := .loc (aI64 v5) [] [] 0 : CE }, { f := 39, args := [.agg [aI64 0, aI64 0], .agg [aI64 4, aI64 0], .agg [aI64 0, aI64 4], .agg [aI64 1, aI64 1]], H := [.own [aI64 0, aI64 0], .own [aI64 4, aI64 0], .own [aI64 0, aI64 4], .own (api_Place.c v3.1)], r := .loc (aI64 v8) [] [] 0 : CE }, { f := 40, args := [aI64 2], H := [.own [aI64 0, aI64 0], .own [aI64 4, aI64 0], .own [aI64 0, aI64 4], .own (api_Place.c v3.1)], r := .loc (.agg (api_Rat.c v14)) [] [] 0 : CE }, { f := 16, args := [.agg (api_Rat.c v3.1.X), .agg (api_Rat.c v14)], H := [.own [aI64 0, aI64 0], .own [aI64 4, aI64 0], .own [aI64 0, aI64 4], .own (api_Place.c v3.1)], r := .loc (aB true) [] [] 0 : CE }, { f := 41, args := [.hs 4 0 1 2], H := [.own [aI64 0, aI64 0], .own [aI64 4, aI64 0], .own [aI64 0, aI64 4], .own (api_Place.c v3.1), .own [aI64 2097152, aI64 0]], r := .loc (aI64 v19) [] [4] 0 : CE }] (List.forall_mem_cons.2 ⟨(callOk_val (l := []) (args' := [.agg (api_Pix.c (api_Pix.mk 0 0)), .agg (api_Pix.c (api_Pix.mk 4 0)), .agg (api_Pix.c (api_Pix.mk 0 4))]) rfl (SnL.cons (Sn.pure rfl) (SnL.cons (Sn.pure rfl) (SnL.cons (Sn.pure rfl) SnL.nil))) (predicate_Orient_ok n (api_Pix.mk 0 0) (api_Pix.mk 4 0) (api_Pix.mk 0 4) v5 hc6)), (List.forall_mem_cons.2 ⟨(callOk_val (l := []) (args' := [.agg (api_Pix.c (api_Pix.mk 0 0)), .agg (api_Pix.c (api_Pix.mk 4 0)), .agg (api_Pix.c (api_Pix.mk 0 4)), .agg (api_Pix.c (api_Pix.mk 1 1))]) rfl (SnL.cons (Sn.pure rfl) (SnL.cons (Sn.pure rfl) (SnL.cons (Sn.pure rfl) (SnL.cons (Sn.pure rfl) SnL.nil)))) (predicate_Circle_ok n (api_Pix.mk 0 0) (api_Pix.mk 4 0) (api_Pix.mk 0 4) (api_Pix.mk 1 1) v8 hc9)), (List.forall_mem_cons.2 ⟨(callOk_ref (l := []) (args' := [aI64 2]) (SnL.cons (Sn.pure rfl) SnL.nil) (fiducialref02_Whole_ok n 2 v14 hc15)), (List.forall_mem_cons.2 ⟨(callOk_val (l := []) (args' := [.agg (api_Rat.c v3.1.X), .agg (api_Rat.c v14)]) rfl (SnL.cons (Sn.pure rfl) (SnL.cons (Sn.pure rfl) SnL.nil)) (fiducialref02_Same_ok n v3.1.X v14 true hc17)), (List.forall_mem_cons.2 ⟨(callOk_val (l := [4]) (args' := [slT api_Pix.c [api_Pix.mk 2097152 0]]) rfl (SnL.cons (Sn.hs rfl (.inl rfl) (SnC.cons (Sn.pure rfl) (SnC.cons (Sn.pure rfl) SnC.nil)) (fun h => nomatch h)) SnL.nil) (predicate_Check_ok n [api_Pix.mk 2097152 0] v19 hc20)), ce0⟩)⟩)⟩)⟩)⟩)) ?_
       refine EVT.p1 (.agg [aI64 0, aI64 0]) ?_
       refine EVT.p1 (.agg [aI64 4, aI64 0]) ?_
       refine EVT.p1 (.agg [aI64 0, aI64 4]) ?_
       refine EVT.cal (by kernel_rfl) (by kernel_rfl) (callOf_at (by kernel_rfl)) (by kernel_rfl) ?_
       refine EVT.pure (v := aB true) (by kernel_rfl) (Eq.trans (b := some (.pure (aB ((v5 : Int) == 1)))) (by kernel_rfl) (by rw [hb7])) (by kernel_rfl) ?_
       refine EVT.p1 (aB true) ?_
       refine EVT.p1 (.agg [aI64 0, aI64 0]) ?_
       refine EVT.p1 (.agg [aI64 4, aI64 0]) ?_
       refine EVT.p1 (.agg [aI64 0, aI64 4]) ?_
       refine EVT.p1 (.agg [aI64 1, aI64 1]) ?_
       refine EVT.cal (by kernel_rfl) (by kernel_rfl) (callOf_skip (fun h _ => absurd (show (39 : Nat) = 38 from h) (by decide)) (callOf_at (by kernel_rfl))) (by kernel_rfl) ?_
       refine EVT.pure (v := aB true) (by kernel_rfl) (Eq.trans (b := some (.pure (aB ((v8 : Int) == 1)))) (by kernel_rfl) (by rw [hb10])) (by kernel_rfl) ?_
       refine EVT.p1 (aB true) ?_
       refine EVT.p1 (aB true) ?_
       refine EVT.p1 (aI64 v1.1) ?_
       refine EVT.pure (v := aB true) (by kernel_rfl) (Eq.trans (b := some (.pure (aB ((v1.1 : Int) == 2)))) (by kernel_rfl) (by rw [hb11])) (by kernel_rfl) ?_
       refine EVT.p1 (aB true) ?_
       refine EVT.p1 (aB true) ?_
       refine EVT.p1 (aI64 v1.2) ?_
       refine EVT.pure (v := aB true) (by kernel_rfl) (Eq.trans (b := some (.pure (aB ((v1.2 : Int) == 0)))) (by kernel_rfl) (by rw [hb12])) (by kernel_rfl) ?_
       refine EVT.p1 (aB true) ?_
       refine EVT.p1 (aB true) ?_
       refine EVT.p1 (aI64 v3.2) ?_
       refine EVT.pure (v := aB true) (by kernel_rfl) (Eq.trans (b := some (.pure (aB ((v3.2 : Int) == 0)))) (by kernel_rfl) (by rw [hb13])) (by kernel_rfl) ?_
       refine EVT.p1 (aB true) ?_
       refine EVT.p1 (aB true) ?_
       refine EVT.p1 (.hp 3 0) ?_
       refine EVT.p1 (.agg (api_Rat.c v3.1.X)) ?_
       refine EVT.cal (by kernel_rfl) (by kernel_rfl) (callOf_skip (fun h _ => absurd (show (40 : Nat) = 38 from h) (by decide)) (callOf_skip (fun h _ => absurd (show (40 : Nat) = 39 from h) (by decide)) (callOf_at (by kernel_rfl)))) (by kernel_rfl) ?_
       refine EVT.cal (by kernel_rfl) (by kernel_rfl) (callOf_skip (fun h _ => absurd (show (16 : Nat) = 38 from h) (by decide)) (callOf_skip (fun h _ => absurd (show (16 : Nat) = 39 from h) (by decide)) (callOf_skip (fun h _ => absurd (show (16 : Nat) = 40 from h) (by decide)) (callOf_at (by kernel_rfl))))) (by kernel_rfl) ?_
       refine EVT.p1 (aB true) ?_
       refine EVT.p1 (aB true) ?_
       refine EVT.p1 (.agg [aI64 2097152, aI64 0]) ?_
       refine EVT.e1 (.hs 4 0 1 2) [(4, .own [aI64 2097152, aI64 0])] ?_
       refine EVT.cal (by kernel_rfl) (by kernel_rfl) (callOf_skip (fun h _ => absurd (show (41 : Nat) = 38 from h) (by decide)) (callOf_skip (fun h _ => absurd (show (41 : Nat) = 39 from h) (by decide)) (callOf_skip (fun h _ => absurd (show (41 : Nat) = 40 from h) (by decide)) (callOf_skip (fun h _ => absurd (show (41 : Nat) = 16 from h) (by decide)) (callOf_at (by kernel_rfl)))))) (by kernel_rfl) ?_
       refine EVT.p1 (aB ((v19 : Int) == 2)) ?_
       refine EVT.p1 (aB ((v19 : Int) == 2)) ?_
       refine EVT.p1 (aB ((v19 : Int) == 2)) ?_
       refine EVT.done ⟨by kernel_rfl, ?_⟩
       refine CQ.ret ?_
       obtain rfl := Option.some.inj hr
       exact FinQ.r1 [aB ((v19 : Int) == 2)]
      ·subst hb18
       replace hr := cd_f rfl hr
       refine CQ.regionT fine (callOf_ok [{ f := 38, args := [.agg [aI64 0, aI64 0], .agg [aI64 4, aI64 0], .agg [aI64 0, aI64 4]], H := [.own [aI64 0, aI64 0], .own [aI64 4, aI64 0], .own [aI64 0, aI64 4], .own (api_Place.c v3.1)], r := .loc (aI64 v5) [] [] 0 : CE }, { f := 39, args := [.agg [aI64 0, aI64 0], .agg [aI64 4, aI64 0], .agg [aI64 0, aI64 4], .agg [aI64 1, aI64 1]], H := [.own [aI64 0, aI64 0], .own [aI64 4, aI64 0], .own [aI64 0, aI64 4], .own (api_Place.c v3.1)], r := .loc (aI64 v8) [] [] 0 : CE }, { f := 40, args := [aI64 2], H := [.own [aI64 0, aI64 0], .own [aI64 4, aI64 0], .own [aI64 0, aI64 4], .own (api_Place.c v3.1)], r := .loc (.agg (api_Rat.c v14)) [] [] 0 : CE }, { f := 16, args := [.agg (api_Rat.c v3.1.X), .agg (api_Rat.c v14)], H := [.own [aI64 0, aI64 0], .own [aI64 4, aI64 0], .own [aI64 0, aI64 4], .own (api_Place.c v3.1)], r := .loc (aB false) [] [] 0 : CE }] (List.forall_mem_cons.2 ⟨(callOk_val (l := []) (args' := [.agg (api_Pix.c (api_Pix.mk 0 0)), .agg (api_Pix.c (api_Pix.mk 4 0)), .agg (api_Pix.c (api_Pix.mk 0 4))]) rfl (SnL.cons (Sn.pure rfl) (SnL.cons (Sn.pure rfl) (SnL.cons (Sn.pure rfl) SnL.nil))) (predicate_Orient_ok n (api_Pix.mk 0 0) (api_Pix.mk 4 0) (api_Pix.mk 0 4) v5 hc6)), (List.forall_mem_cons.2 ⟨(callOk_val (l := []) (args' := [.agg (api_Pix.c (api_Pix.mk 0 0)), .agg (api_Pix.c (api_Pix.mk 4 0)), .agg (api_Pix.c (api_Pix.mk 0 4)), .agg (api_Pix.c (api_Pix.mk 1 1))]) rfl (SnL.cons (Sn.pure rfl) (SnL.cons (Sn.pure rfl) (SnL.cons (Sn.pure rfl) (SnL.cons (Sn.pure rfl) SnL.nil)))) (predicate_Circle_ok n (api_Pix.mk 0 0) (api_Pix.mk 4 0) (api_Pix.mk 0 4) (api_Pix.mk 1 1) v8 hc9)), (List.forall_mem_cons.2 ⟨(callOk_ref (l := []) (args' := [aI64 2]) (SnL.cons (Sn.pure rfl) SnL.nil) (fiducialref02_Whole_ok n 2 v14 hc15)), (List.forall_mem_cons.2 ⟨(callOk_val (l := []) (args' := [.agg (api_Rat.c v3.1.X), .agg (api_Rat.c v14)]) rfl (SnL.cons (Sn.pure rfl) (SnL.cons (Sn.pure rfl) SnL.nil)) (fiducialref02_Same_ok n v3.1.X v14 false hc17)), ce0⟩)⟩)⟩)⟩)) ?_
       refine EVT.p1 (.agg [aI64 0, aI64 0]) ?_
       refine EVT.p1 (.agg [aI64 4, aI64 0]) ?_
       refine EVT.p1 (.agg [aI64 0, aI64 4]) ?_
       refine EVT.cal (by kernel_rfl) (by kernel_rfl) (callOf_at (by kernel_rfl)) (by kernel_rfl) ?_
       refine EVT.pure (v := aB true) (by kernel_rfl) (Eq.trans (b := some (.pure (aB ((v5 : Int) == 1)))) (by kernel_rfl) (by rw [hb7])) (by kernel_rfl) ?_
       refine EVT.p1 (aB true) ?_
       refine EVT.p1 (.agg [aI64 0, aI64 0]) ?_
       refine EVT.p1 (.agg [aI64 4, aI64 0]) ?_
       refine EVT.p1 (.agg [aI64 0, aI64 4]) ?_
       refine EVT.p1 (.agg [aI64 1, aI64 1]) ?_
       refine EVT.cal (by kernel_rfl) (by kernel_rfl) (callOf_skip (fun h _ => absurd (show (39 : Nat) = 38 from h) (by decide)) (callOf_at (by kernel_rfl))) (by kernel_rfl) ?_
       refine EVT.pure (v := aB true) (by kernel_rfl) (Eq.trans (b := some (.pure (aB ((v8 : Int) == 1)))) (by kernel_rfl) (by rw [hb10])) (by kernel_rfl) ?_
       refine EVT.p1 (aB true) ?_
       refine EVT.p1 (aB true) ?_
       refine EVT.p1 (aI64 v1.1) ?_
       refine EVT.pure (v := aB true) (by kernel_rfl) (Eq.trans (b := some (.pure (aB ((v1.1 : Int) == 2)))) (by kernel_rfl) (by rw [hb11])) (by kernel_rfl) ?_
       refine EVT.p1 (aB true) ?_
       refine EVT.p1 (aB true) ?_
       refine EVT.p1 (aI64 v1.2) ?_
       refine EVT.pure (v := aB true) (by kernel_rfl) (Eq.trans (b := some (.pure (aB ((v1.2 : Int) == 0)))) (by kernel_rfl) (by rw [hb12])) (by kernel_rfl) ?_
       refine EVT.p1 (aB true) ?_
       refine EVT.p1 (aB true) ?_
       refine EVT.p1 (aI64 v3.2) ?_
       refine EVT.pure (v := aB true) (by kernel_rfl) (Eq.trans (b := some (.pure (aB ((v3.2 : Int) == 0)))) (by kernel_rfl) (by rw [hb13])) (by kernel_rfl) ?_
       refine EVT.p1 (aB true) ?_
       refine EVT.p1 (aB true) ?_
       refine EVT.p1 (.hp 3 0) ?_
       refine EVT.p1 (.agg (api_Rat.c v3.1.X)) ?_
       refine EVT.cal (by kernel_rfl) (by kernel_rfl) (callOf_skip (fun h _ => absurd (show (40 : Nat) = 38 from h) (by decide)) (callOf_skip (fun h _ => absurd (show (40 : Nat) = 39 from h) (by decide)) (callOf_at (by kernel_rfl)))) (by kernel_rfl) ?_
       refine EVT.cal (by kernel_rfl) (by kernel_rfl) (callOf_skip (fun h _ => absurd (show (16 : Nat) = 38 from h) (by decide)) (callOf_skip (fun h _ => absurd (show (16 : Nat) = 39 from h) (by decide)) (callOf_skip (fun h _ => absurd (show (16 : Nat) = 40 from h) (by decide)) (callOf_at (by kernel_rfl))))) (by kernel_rfl) ?_
       refine EVT.p1 (aB false) ?_
       refine EVT.p1 (aB false) ?_
       refine EVT.s1 ?_
       refine EVT.s1 ?_
       refine EVT.s1 ?_
       refine EVT.s1 ?_
       refine EVT.p1 (aB false) ?_
       refine EVT.p1 (aB false) ?_
       refine EVT.done ⟨by kernel_rfl, ?_⟩
       refine CQ.ret ?_
       obtain rfl := Option.some.inj hr
       exact FinQ.r1 [aB false]
     ·replace hr := cd_f hb13 hr
      refine CQ.regionT fine (callOf_ok [{ f := 38, args := [.agg [aI64 0, aI64 0], .agg [aI64 4, aI64 0], .agg [aI64 0, aI64 4]], H := [.own [aI64 0, aI64 0], .own [aI64 4, aI64 0], .own [aI64 0, aI64 4], .own (api_Place.c v3.1)], r := .loc (aI64 v5) [] [] 0 : CE }, { f := 39, args := [.agg [aI64 0, aI64 0], .agg [aI64 4, aI64 0], .agg [aI64 0, aI64 4], .agg [aI64 1, aI64 1]], H := [.own [aI64 0, aI64 0], .own [aI64 4, aI64 0], .own [aI64 0, aI64 4], .own (api_Place.c v3.1)], r := .loc (aI64 v8) [] [] 0 : CE }] (List.forall_mem_cons.2 ⟨(callOk_val (l := []) (args' := [.agg (api_Pix.c (api_Pix.mk 0 0)), .agg (api_Pix.c (api_Pix.mk 4 0)), .agg (api_Pix.c (api_Pix.mk 0 4))]) rfl (SnL.cons (Sn.pure rfl) (SnL.cons (Sn.pure rfl) (SnL.cons (Sn.pure rfl) SnL.nil))) (predicate_Orient_ok n (api_Pix.mk 0 0) (api_Pix.mk 4 0) (api_Pix.mk 0 4) v5 hc6)), (List.forall_mem_cons.2 ⟨(callOk_val (l := []) (args' := [.agg (api_Pix.c (api_Pix.mk 0 0)), .agg (api_Pix.c (api_Pix.mk 4 0)), .agg (api_Pix.c (api_Pix.mk 0 4)), .agg (api_Pix.c (api_Pix.mk 1 1))]) rfl (SnL.cons (Sn.pure rfl) (SnL.cons (Sn.pure rfl) (SnL.cons (Sn.pure rfl) (SnL.cons (Sn.pure rfl) SnL.nil)))) (predicate_Circle_ok n (api_Pix.mk 0 0) (api_Pix.mk 4 0) (api_Pix.mk 0 4) (api_Pix.mk 1 1) v8 hc9)), ce0⟩)⟩)) ?_
      refine EVT.p1 (.agg [aI64 0, aI64 0]) ?_
      refine EVT.p1 (.agg [aI64 4, aI64 0]) ?_
      refine EVT.p1 (.agg [aI64 0, aI64 4]) ?_
      refine EVT.cal (by kernel_rfl) (by kernel_rfl) (callOf_at (by kernel_rfl)) (by kernel_rfl) ?_
      refine EVT.pure (v := aB true) (by kernel_rfl) (Eq.trans (b := some (.pure (aB ((v5 : Int) == 1)))) (by kernel_rfl) (by rw [hb7])) (by kernel_rfl) ?_
      refine EVT.p1 (aB true) ?_
      refine EVT.p1 (.agg [aI64 0, aI64 0]) ?_
      refine EVT.p1 (.agg [aI64 4, aI64 0]) ?_
      refine EVT.p1 (.agg [aI64 0, aI64 4]) ?_
      refine EVT.p1 (.agg [aI64 1, aI64 1]) ?_
      refine EVT.cal (by kernel_rfl) (by kernel_rfl) (callOf_skip (fun h _ => absurd (show (39 : Nat) = 38 from h) (by decide)) (callOf_at (by kernel_rfl))) (by kernel_rfl) ?_
      refine EVT.pure (v := aB true) (by kernel_rfl) (Eq.trans (b := some (.pure (aB ((v8 : Int) == 1)))) (by kernel_rfl) (by rw [hb10])) (by kernel_rfl) ?_
      refine EVT.p1 (aB true) ?_
      refine EVT.p1 (aB true) ?_
      refine EVT.p1 (aI64 v1.1) ?_
      refine EVT.pure (v := aB true) (by kernel_rfl) (Eq.trans (b := some (.pure (aB ((v1.1 : Int) == 2)))) (by kernel_rfl) (by rw [hb11])) (by kernel_rfl) ?_
      refine EVT.p1 (aB true) ?_
      refine EVT.p1 (aB true) ?_
      refine EVT.p1 (aI64 v1.2) ?_
      refine EVT.pure (v := aB true) (by kernel_rfl) (Eq.trans (b := some (.pure (aB ((v1.2 : Int) == 0)))) (by kernel_rfl) (by rw [hb12])) (by kernel_rfl) ?_
      refine EVT.p1 (aB true) ?_
      refine EVT.p1 (aB true) ?_
      refine EVT.p1 (aI64 v3.2) ?_
      refine EVT.pure (v := aB false) (by kernel_rfl) (Eq.trans (b := some (.pure (aB ((v3.2 : Int) == 0)))) (by kernel_rfl) (by rw [hb13])) (by kernel_rfl) ?_
      refine EVT.p1 (aB false) ?_
      refine EVT.p1 (aB false) ?_
      refine EVT.s1 ?_
      refine EVT.s1 ?_
      refine EVT.s1 ?_
      refine EVT.s1 ?_
      refine EVT.p1 (aB false) ?_
      refine EVT.p1 (aB false) ?_
      refine EVT.s1 ?_
      refine EVT.s1 ?_
      refine EVT.s1 ?_
      refine EVT.s1 ?_
      refine EVT.p1 (aB false) ?_
      refine EVT.p1 (aB false) ?_
      refine EVT.done ⟨by kernel_rfl, ?_⟩
      refine CQ.ret ?_
      obtain rfl := Option.some.inj hr
      exact FinQ.r1 [aB false]
    ·replace hr := cd_f hb12 hr
     refine CQ.regionT fine (callOf_ok [{ f := 38, args := [.agg [aI64 0, aI64 0], .agg [aI64 4, aI64 0], .agg [aI64 0, aI64 4]], H := [.own [aI64 0, aI64 0], .own [aI64 4, aI64 0], .own [aI64 0, aI64 4], .own (api_Place.c v3.1)], r := .loc (aI64 v5) [] [] 0 : CE }, { f := 39, args := [.agg [aI64 0, aI64 0], .agg [aI64 4, aI64 0], .agg [aI64 0, aI64 4], .agg [aI64 1, aI64 1]], H := [.own [aI64 0, aI64 0], .own [aI64 4, aI64 0], .own [aI64 0, aI64 4], .own (api_Place.c v3.1)], r := .loc (aI64 v8) [] [] 0 : CE }] (List.forall_mem_cons.2 ⟨(callOk_val (l := []) (args' := [.agg (api_Pix.c (api_Pix.mk 0 0)), .agg (api_Pix.c (api_Pix.mk 4 0)), .agg (api_Pix.c (api_Pix.mk 0 4))]) rfl (SnL.cons (Sn.pure rfl) (SnL.cons (Sn.pure rfl) (SnL.cons (Sn.pure rfl) SnL.nil))) (predicate_Orient_ok n (api_Pix.mk 0 0) (api_Pix.mk 4 0) (api_Pix.mk 0 4) v5 hc6)), (List.forall_mem_cons.2 ⟨(callOk_val (l := []) (args' := [.agg (api_Pix.c (api_Pix.mk 0 0)), .agg (api_Pix.c (api_Pix.mk 4 0)), .agg (api_Pix.c (api_Pix.mk 0 4)), .agg (api_Pix.c (api_Pix.mk 1 1))]) rfl (SnL.cons (Sn.pure rfl) (SnL.cons (Sn.pure rfl) (SnL.cons (Sn.pure rfl) (SnL.cons (Sn.pure rfl) SnL.nil)))) (predicate_Circle_ok n (api_Pix.mk 0 0) (api_Pix.mk 4 0) (api_Pix.mk 0 4) (api_Pix.mk 1 1) v8 hc9)), ce0⟩)⟩)) ?_
     refine EVT.p1 (.agg [aI64 0, aI64 0]) ?_
     refine EVT.p1 (.agg [aI64 4, aI64 0]) ?_
     refine EVT.p1 (.agg [aI64 0, aI64 4]) ?_
     refine EVT.cal (by kernel_rfl) (by kernel_rfl) (callOf_at (by kernel_rfl)) (by kernel_rfl) ?_
     refine EVT.pure (v := aB true) (by kernel_rfl) (Eq.trans (b := some (.pure (aB ((v5 : Int) == 1)))) (by kernel_rfl) (by rw [hb7])) (by kernel_rfl) ?_
     refine EVT.p1 (aB true) ?_
     refine EVT.p1 (.agg [aI64 0, aI64 0]) ?_
     refine EVT.p1 (.agg [aI64 4, aI64 0]) ?_
     refine EVT.p1 (.agg [aI64 0, aI64 4]) ?_
     refine EVT.p1 (.agg [aI64 1, aI64 1]) ?_
     refine EVT.cal (by kernel_rfl) (by kernel_rfl) (callOf_skip (fun h _ => absurd (show (39 : Nat) = 38 from h) (by decide)) (callOf_at (by kernel_rfl))) (by kernel_rfl) ?_
     refine EVT.pure (v := aB true) (by kernel_rfl) (Eq.trans (b := some (.pure (aB ((v8 : Int) == 1)))) (by kernel_rfl) (by rw [hb10])) (by kernel_rfl) ?_
     refine EVT.p1 (aB true) ?_
     refine EVT.p1 (aB true) ?_
     refine EVT.p1 (aI64 v1.1) ?_
     refine EVT.pure (v := aB true) (by kernel_rfl) (Eq.trans (b := some (.pure (aB ((v1.1 : Int) == 2)))) (by kernel_rfl) (by rw [hb11])) (by kernel_rfl) ?_
     refine EVT.p1 (aB true) ?_
     refine EVT.p1 (aB true) ?_
     refine EVT.p1 (aI64 v1.2) ?_
     refine EVT.pure (v := aB false) (by kernel_rfl) (Eq.trans (b := some (.pure (aB ((v1.2 : Int) == 0)))) (by kernel_rfl) (by rw [hb12])) (by kernel_rfl) ?_
     refine EVT.p1 (aB false) ?_
     refine EVT.p1 (aB false) ?_
     refine EVT.s1 ?_
     refine EVT.s1 ?_
     refine EVT.p1 (aB false) ?_
     refine EVT.p1 (aB false) ?_
     refine EVT.s1 ?_
     refine EVT.s1 ?_
     refine EVT.s1 ?_
     refine EVT.s1 ?_
     refine EVT.p1 (aB false) ?_
     refine EVT.p1 (aB false) ?_
     refine EVT.s1 ?_
     refine EVT.s1 ?_
     refine EVT.s1 ?_
     refine EVT.s1 ?_
     refine EVT.p1 (aB false) ?_
     refine EVT.p1 (aB false) ?_
     refine EVT.done ⟨by kernel_rfl, ?_⟩
     refine CQ.ret ?_
     obtain rfl := Option.some.inj hr
     exact FinQ.r1 [aB false]
   ·replace hr := cd_f hb11 hr
    refine CQ.regionT fine (callOf_ok [{ f := 38, args := [.agg [aI64 0, aI64 0], .agg [aI64 4, aI64 0], .agg [aI64 0, aI64 4]], H := [.own [aI64 0, aI64 0], .own [aI64 4, aI64 0], .own [aI64 0, aI64 4], .own (api_Place.c v3.1)], r := .loc (aI64 v5) [] [] 0 : CE }, { f := 39, args := [.agg [aI64 0, aI64 0], .agg [aI64 4, aI64 0], .agg [aI64 0, aI64 4], .agg [aI64 1, aI64 1]], H := [.own [aI64 0, aI64 0], .own [aI64 4, aI64 0], .own [aI64 0, aI64 4], .own (api_Place.c v3.1)], r := .loc (aI64 v8) [] [] 0 : CE }] (List.forall_mem_cons.2 ⟨(callOk_val (l := []) (args' := [.agg (api_Pix.c (api_Pix.mk 0 0)), .agg (api_Pix.c (api_Pix.mk 4 0)), .agg (api_Pix.c (api_Pix.mk 0 4))]) rfl (SnL.cons (Sn.pure rfl) (SnL.cons (Sn.pure rfl) (SnL.cons (Sn.pure rfl) SnL.nil))) (predicate_Orient_ok n (api_Pix.mk 0 0) (api_Pix.mk 4 0) (api_Pix.mk 0 4) v5 hc6)), (List.forall_mem_cons.2 ⟨(callOk_val (l := []) (args' := [.agg (api_Pix.c (api_Pix.mk 0 0)), .agg (api_Pix.c (api_Pix.mk 4 0)), .agg (api_Pix.c (api_Pix.mk 0 4)), .agg (api_Pix.c (api_Pix.mk 1 1))]) rfl (SnL.cons (Sn.pure rfl) (SnL.cons (Sn.pure rfl) (SnL.cons (Sn.pure rfl) (SnL.cons (Sn.pure rfl) SnL.nil)))) (predicate_Circle_ok n (api_Pix.mk 0 0) (api_Pix.mk 4 0) (api_Pix.mk 0 4) (api_Pix.mk 1 1) v8 hc9)), ce0⟩)⟩)) ?_
    refine EVT.p1 (.agg [aI64 0, aI64 0]) ?_
    refine EVT.p1 (.agg [aI64 4, aI64 0]) ?_
    refine EVT.p1 (.agg [aI64 0, aI64 4]) ?_
    refine EVT.cal (by kernel_rfl) (by kernel_rfl) (callOf_at (by kernel_rfl)) (by kernel_rfl) ?_
    refine EVT.pure (v := aB true) (by kernel_rfl) (Eq.trans (b := some (.pure (aB ((v5 : Int) == 1)))) (by kernel_rfl) (by rw [hb7])) (by kernel_rfl) ?_
    refine EVT.p1 (aB true) ?_
    refine EVT.p1 (.agg [aI64 0, aI64 0]) ?_
    refine EVT.p1 (.agg [aI64 4, aI64 0]) ?_
    refine EVT.p1 (.agg [aI64 0, aI64 4]) ?_
    refine EVT.p1 (.agg [aI64 1, aI64 1]) ?_
    refine EVT.cal (by kernel_rfl) (by kernel_rfl) (callOf_skip (fun h _ => absurd (show (39 : Nat) = 38 from h) (by decide)) (callOf_at (by kernel_rfl))) (by kernel_rfl) ?_
    refine EVT.pure (v := aB true) (by kernel_rfl) (Eq.trans (b := some (.pure (aB ((v8 : Int) == 1)))) (by kernel_rfl) (by rw [hb10])) (by kernel_rfl) ?_
    refine EVT.p1 (aB true) ?_
    refine EVT.p1 (aB true) ?_
    refine EVT.p1 (aI64 v1.1) ?_
    refine EVT.pure (v := aB false) (by kernel_rfl) (Eq.trans (b := some (.pure (aB ((v1.1 : Int) == 2)))) (by kernel_rfl) (by rw [hb11])) (by kernel_rfl) ?_
    refine EVT.p1 (aB false) ?_
    refine EVT.p1 (aB false) ?_
    refine EVT.s1 ?_
    refine EVT.s1 ?_
    refine EVT.p1 (aB false) ?_
    refine EVT.p1 (aB false) ?_
    refine EVT.s1 ?_
    refine EVT.s1 ?_
    refine EVT.p1 (aB false) ?_
    refine EVT.p1 (aB false) ?_
    refine EVT.s1 ?_
    refine EVT.s1 ?_
    refine EVT.s1 ?_
    refine EVT.s1 ?_
    refine EVT.p1 (aB false) ?_
    refine EVT.p1 (aB false) ?_
    refine EVT.s1 ?_
    refine EVT.s1 ?_
    refine EVT.s1 ?_
    refine EVT.s1 ?_
    refine EVT.p1 (aB false) ?_
    refine EVT.p1 (aB false) ?_
    refine EVT.done ⟨by kernel_rfl, ?_⟩
    refine CQ.ret ?_
    obtain rfl := Option.some.inj hr
    exact FinQ.r1 [aB false]
  ·replace hr := cd_f hb10 hr
   refine CQ.regionT fine (callOf_ok [{ f := 38, args := [.agg [aI64 0, aI64 0], .agg [aI64 4, aI64 0], .agg [aI64 0, aI64 4]], H := [.own [aI64 0, aI64 0], .own [aI64 4, aI64 0], .own [aI64 0, aI64 4], .own (api_Place.c v3.1)], r := .loc (aI64 v5) [] [] 0 : CE }, { f := 39, args := [.agg [aI64 0, aI64 0], .agg [aI64 4, aI64 0], .agg [aI64 0, aI64 4], .agg [aI64 1, aI64 1]], H := [.own [aI64 0, aI64 0], .own [aI64 4, aI64 0], .own [aI64 0, aI64 4], .own (api_Place.c v3.1)], r := .loc (aI64 v8) [] [] 0 : CE }] (List.forall_mem_cons.2 ⟨(callOk_val (l := []) (args' := [.agg (api_Pix.c (api_Pix.mk 0 0)), .agg (api_Pix.c (api_Pix.mk 4 0)), .agg (api_Pix.c (api_Pix.mk 0 4))]) rfl (SnL.cons (Sn.pure rfl) (SnL.cons (Sn.pure rfl) (SnL.cons (Sn.pure rfl) SnL.nil))) (predicate_Orient_ok n (api_Pix.mk 0 0) (api_Pix.mk 4 0) (api_Pix.mk 0 4) v5 hc6)), (List.forall_mem_cons.2 ⟨(callOk_val (l := []) (args' := [.agg (api_Pix.c (api_Pix.mk 0 0)), .agg (api_Pix.c (api_Pix.mk 4 0)), .agg (api_Pix.c (api_Pix.mk 0 4)), .agg (api_Pix.c (api_Pix.mk 1 1))]) rfl (SnL.cons (Sn.pure rfl) (SnL.cons (Sn.pure rfl) (SnL.cons (Sn.pure rfl) (SnL.cons (Sn.pure rfl) SnL.nil)))) (predicate_Circle_ok n (api_Pix.mk 0 0) (api_Pix.mk 4 0) (api_Pix.mk 0 4) (api_Pix.mk 1 1) v8 hc9)), ce0⟩)⟩)) ?_
   refine EVT.p1 (.agg [aI64 0, aI64 0]) ?_
   refine EVT.p1 (.agg [aI64 4, aI64 0]) ?_
   refine EVT.p1 (.agg [aI64 0, aI64 4]) ?_
   refine EVT.cal (by kernel_rfl) (by kernel_rfl) (callOf_at (by kernel_rfl)) (by kernel_rfl) ?_
   refine EVT.pure (v := aB true) (by kernel_rfl) (Eq.trans (b := some (.pure (aB ((v5 : Int) == 1)))) (by kernel_rfl) (by rw [hb7])) (by kernel_rfl) ?_
   refine EVT.p1 (aB true) ?_
   refine EVT.p1 (.agg [aI64 0, aI64 0]) ?_
   refine EVT.p1 (.agg [aI64 4, aI64 0]) ?_
   refine EVT.p1 (.agg [aI64 0, aI64 4]) ?_
   refine EVT.p1 (.agg [aI64 1, aI64 1]) ?_
   refine EVT.cal (by kernel_rfl) (by kernel_rfl) (callOf_skip (fun h _ => absurd (show (39 : Nat) = 38 from h) (by decide)) (callOf_at (by kernel_rfl))) (by kernel_rfl) ?_
   refine EVT.pure (v := aB false) (by kernel_rfl) (Eq.trans (b := some (.pure (aB ((v8 : Int) == 1)))) (by kernel_rfl) (by rw [hb10])) (by kernel_rfl) ?_
   refine EVT.p1 (aB false) ?_
   refine EVT.p1 (aB false) ?_
   refine EVT.s1 ?_
   refine EVT.s1 ?_
   refine EVT.p1 (aB false) ?_
   refine EVT.p1 (aB false) ?_
   refine EVT.s1 ?_
   refine EVT.s1 ?_
   refine EVT.p1 (aB false) ?_
   refine EVT.p1 (aB false) ?_
   refine EVT.s1 ?_
   refine EVT.s1 ?_
   refine EVT.p1 (aB false) ?_
   refine EVT.p1 (aB false) ?_
   refine EVT.s1 ?_
   refine EVT.s1 ?_
   refine EVT.s1 ?_
   refine EVT.s1 ?_
   refine EVT.p1 (aB false) ?_
   refine EVT.p1 (aB false) ?_
   refine EVT.s1 ?_
   refine EVT.s1 ?_
   refine EVT.s1 ?_
   refine EVT.s1 ?_
   refine EVT.p1 (aB false) ?_
   refine EVT.p1 (aB false) ?_
   refine EVT.done ⟨by kernel_rfl, ?_⟩
   refine CQ.ret ?_
   obtain rfl := Option.some.inj hr
   exact FinQ.r1 [aB false]
 ·replace hr := cd_f hb7 hr
  refine CQ.regionT fine (callOf_1 38 [.agg [aI64 0, aI64 0], .agg [aI64 4, aI64 0], .agg [aI64 0, aI64 4]] [.own [aI64 0, aI64 0], .own [aI64 4, aI64 0], .own [aI64 0, aI64 4], .own (api_Place.c v3.1)] (.loc (aI64 v5) [] [] 0) (callOk_val (l := []) (args' := [.agg (api_Pix.c (api_Pix.mk 0 0)), .agg (api_Pix.c (api_Pix.mk 4 0)), .agg (api_Pix.c (api_Pix.mk 0 4))]) rfl (SnL.cons (Sn.pure rfl) (SnL.cons (Sn.pure rfl) (SnL.cons (Sn.pure rfl) SnL.nil))) (predicate_Orient_ok n (api_Pix.mk 0 0) (api_Pix.mk 4 0) (api_Pix.mk 0 4) v5 hc6))) ?_
  refine EVT.p1 (.agg [aI64 0, aI64 0]) ?_
  refine EVT.p1 (.agg [aI64 4, aI64 0]) ?_
  refine EVT.p1 (.agg [aI64 0, aI64 4]) ?_
  refine EVT.cal (by kernel_rfl) (by kernel_rfl) (callOf_at (by kernel_rfl)) (by kernel_rfl) ?_
  refine EVT.pure (v := aB false) (by kernel_rfl) (Eq.trans (b := some (.pure (aB ((v5 : Int) == 1)))) (by kernel_rfl) (by rw [hb7])) (by kernel_rfl) ?_
  refine EVT.p1 (aB false) ?_
  refine EVT.s1 ?_
  refine EVT.s1 ?_
  refine EVT.s1 ?_
  refine EVT.s1 ?_
  refine EVT.s1 ?_
  refine EVT.s1 ?_
  refine EVT.p1 (aB false) ?_
  refine EVT.p1 (aB false) ?_
  refine EVT.s1 ?_
  refine EVT.s1 ?_
  refine EVT.p1 (aB false) ?_
  refine EVT.p1 (aB false) ?_
  refine EVT.s1 ?_
  refine EVT.s1 ?_
  refine EVT.p1 (aB false) ?_
  refine EVT.p1 (aB false) ?_
  refine EVT.s1 ?_
  refine EVT.s1 ?_
  refine EVT.p1 (aB false) ?_
  refine EVT.p1 (aB false) ?_
  refine EVT.s1 ?_
  refine EVT.s1 ?_
  refine EVT.s1 ?_
  refine EVT.s1 ?_
  refine EVT.p1 (aB false) ?_
  refine EVT.p1 (aB false) ?_
  refine EVT.s1 ?_
  refine EVT.s1 ?_
  refine EVT.s1 ?_
  refine EVT.s1 ?_
  refine EVT.p1 (aB false) ?_
  refine EVT.p1 (aB false) ?_
  refine EVT.done ⟨by kernel_rfl, ?_⟩
  refine CQ.ret ?_
  obtain rfl := Option.some.inj hr
  exact FinQ.r1 [aB false]

theorem predicate_InTriangle_ok (n : Nat) (a : api_Pix) (b : api_Pix) (c : api_Pix) (p : api_Pix) (r : Int × Int) (hr : predicate_InTriangle n a b c p = some r) : FnOk Tryz.prog 9 [.agg [.at (.int .i64 a.X), .at (.int .i64 a.Y)], .agg [.at (.int .i64 b.X), .at (.int .i64 b.Y)], .agg [.at (.int .i64 c.X), .at (.int .i64 c.Y)], .agg [.at (.int .i64 p.X), .at (.int .i64 p.Y)]] (.tup [.at (.int .i64 r.1), .at (.int .i64 r.2)]) := by
 unfold predicate_InTriangle at hr
 refine FnOk.body fine Tryz.func9 (c := (Tryz.f9.body).getD .skip) rfl (s := mkS 58 0 [(0, .agg (api_Pix.c a)), (1, .agg (api_Pix.c b)), (2, .agg (api_Pix.c c)), (3, .agg (api_Pix.c p))]) (by kernel_rfl) (rs := [.tmp 8, .tmp 9]) rfl ?_
 unfold Tryz.f9
 simp only [Option.getD_some]
 refine CQ.seq ?_
 refine CQ.r0 fine ?_
 refine EVO.e1 (.hp 0 0) [(0, .own (api_Pix.c a))] ?_
 refine EVO.e1 (.hp 1 0) [(1, .own (api_Pix.c b))] ?_
 refine EVO.e1 (.hp 2 0) [(2, .own (api_Pix.c c))] ?_
 refine EVO.e1 (.hp 3 0) [(3, .own (api_Pix.c p))] ?_
 refine EVO.p1 (aI64 0) ?_
 refine EVO.p1 (aI64 0) ?_
 refine EVO.done ?_
 refine CQ.n1 [4, 5, 6, 7] (mkS 58 0 [(4, .hp 0 0), (5, .hp 1 0), (6, .hp 2 0), (7, .hp 3 0)]) [.own (api_Pix.c a), .own (api_Pix.c b), .own (api_Pix.c c), .own (api_Pix.c p)] ?_
 refine CQ.seq ?_
 refine CQ.seq ?_
 replace hr := bd hr; obtain ⟨v1, hc2, hr⟩ := hr
 refine CQ.region fine (callOf_1 41 [.hs 4 0 4 2] [.own (api_Pix.c a), .own (api_Pix.c b), .own (api_Pix.c c), .own (api_Pix.c p), .own [aI64 a.X, aI64 a.Y, aI64 b.X, aI64 b.Y, aI64 c.X, aI64 c.Y, aI64 p.X, aI64 p.Y]] (.loc (aI64 v1) [] [4] 0) (callOk_val (l := [4]) (args' := [slT api_Pix.c [a, b, c, p]]) rfl (SnL.cons (Sn.hs rfl (.inl rfl) (SnC.cons (Sn.pure rfl) (SnC.cons (Sn.pure rfl) (SnC.cons (Sn.pure rfl) (SnC.cons (Sn.pure rfl) (SnC.cons (Sn.pure rfl) (SnC.cons (Sn.pure rfl) (SnC.cons (Sn.pure rfl) (SnC.cons (Sn.pure rfl) SnC.nil)))))))) (fun h => nomatch h)) SnL.nil) (predicate_Check_ok n [a, b, c, p] v1 hc2))) ?_
 refine EVO.p1 (.agg (api_Pix.c a)) ?_
 refine EVO.p1 (.agg (api_Pix.c b)) ?_
 refine EVO.p1 (.agg (api_Pix.c c)) ?_
 refine EVO.p1 (.agg (api_Pix.c p)) ?_
 refine EVO.e1 (.hs 4 0 4 2) [(4, .own [aI64 a.X, aI64 a.Y, aI64 b.X, aI64 b.Y, aI64 c.X, aI64 c.Y, aI64 p.X, aI64 p.Y])] ?_
 refine EVO.c0 (by kernel_rfl) (callOf_at (by kernel_rfl)) ?_
 refine EVO.p1 (aI64 v1) ?_
 refine EVO.done ?_
 refine CQ.n1 [4, 5, 6, 7, 10] (mkS 58 0 [(4, .hp 0 0), (5, .hp 1 0), (6, .hp 2 0), (7, .hp 3 0), (10, aI64 v1)]) [.own (api_Pix.c a), .own (api_Pix.c b), .own (api_Pix.c c), .own (api_Pix.c p), .own [aI64 a.X, aI64 a.Y, aI64 b.X, aI64 b.Y, aI64 c.X, aI64 c.Y, aI64 p.X, aI64 p.Y]] ?_
 refine CQ.seq ?_
 refine CQ.r0 fine ?_
 refine EVO.p1 (aI64 v1) ?_
 refine EVO.p1 (aB ((v1 : Int) != 0)) ?_
 refine EVO.done ?_
 refine CQ.n1 [4, 5, 6, 7, 10, 22] (mkS 58 0 [(4, .hp 0 0), (5, .hp 1 0), (6, .hp 2 0), (7, .hp 3 0), (10, aI64 v1), (22, aB ((v1 : Int) != 0))]) [.own (api_Pix.c a), .own (api_Pix.c b), .own (api_Pix.c c), .own (api_Pix.c p), .own [aI64 a.X, aI64 a.Y, aI64 b.X, aI64 b.Y, aI64 c.X, aI64 c.Y, aI64 p.X, aI64 p.Y]] ?_
 refine CQ.cond (t := (v1 : Int) != 0) (by kernel_rfl) (fun hb3 => ?_) (fun hb3 => ?_)
 ·replace hr := cd_t hb3 hr
  refine CQ.seq ?_
  refine CQ.r0 fine ?_
  refine EVO.p1 (aI64 v1) ?_
  refine EVO.p1 (aI64 0) ?_
  refine EVO.p1 (aI64 v1) ?_
  refine EVO.done ?_
  refine CQ.ret ?_
  obtain rfl := Option.some.inj hr
  exact FinQ.ret (vs := [aI64 0, aI64 v1]) (by kernel_rfl) (Sn.tup (SnL.cons (Sn.pure rfl) (SnL.cons (Sn.pure rfl) SnL.nil)))
 ·replace hr := cd_f hb3 hr
  refine CQ.skip ?_
  refine CQ.seq ?_
  replace hr := bd hr; obtain ⟨v4, hc5, hr⟩ := hr
  refine CQ.region fine (callOf_1 38 [.agg (api_Pix.c a), .agg (api_Pix.c b), .agg (api_Pix.c c)] [.own (api_Pix.c a), .own (api_Pix.c b), .own (api_Pix.c c), .own (api_Pix.c p), .own [aI64 a.X, aI64 a.Y, aI64 b.X, aI64 b.Y, aI64 c.X, aI64 c.Y, aI64 p.X, aI64 p.Y]] (.loc (aI64 v4) [] [] 0) (callOk_val (l := []) (args' := [.agg (api_Pix.c a), .agg (api_Pix.c b), .agg (api_Pix.c c)]) rfl (SnL.cons (Sn.pure rfl) (SnL.cons (Sn.pure rfl) (SnL.cons (Sn.pure rfl) SnL.nil))) (predicate_Orient_ok n a b c v4 hc5))) ?_
  refine EVO.p1 (.agg (api_Pix.c a)) ?_
  refine EVO.p1 (.agg (api_Pix.c b)) ?_
  refine EVO.p1 (.agg (api_Pix.c c)) ?_
  refine EVO.c0 (by kernel_rfl) (callOf_at (by kernel_rfl)) ?_
  refine EVO.p1 (aI64 v4) ?_
  refine EVO.done ?_
  refine CQ.n1 [4, 5, 6, 7, 11] (mkS 58 0 [(4, .hp 0 0), (5, .hp 1 0), (6, .hp 2 0), (7, .hp 3 0), (11, aI64 v4)]) [.own (api_Pix.c a), .own (api_Pix.c b), .own (api_Pix.c c), .own (api_Pix.c p), .own [aI64 a.X, aI64 a.Y, aI64 b.X, aI64 b.Y, aI64 c.X, aI64 c.Y, aI64 p.X, aI64 p.Y]] ?_
  refine CQ.seq ?_
  refine CQ.seq ?_
  refine CQ.r0 fine ?_
  refine EVO.p1 (aI64 v4) ?_
  refine EVO.p1 (aB ((v4 : Int) == 0)) ?_
  refine EVO.done ?_
  refine CQ.n1 [4, 5, 6, 7, 11, 29] (mkS 58 0 [(4, .hp 0 0), (5, .hp 1 0), (6, .hp 2 0), (7, .hp 3 0), (11, aI64 v4), (29, aB ((v4 : Int) == 0))]) [.own (api_Pix.c a), .own (api_Pix.c b), .own (api_Pix.c c), .own (api_Pix.c p), .own [aI64 a.X, aI64 a.Y, aI64 b.X, aI64 b.Y, aI64 c.X, aI64 c.Y, aI64 p.X, aI64 p.Y]] ?_
  refine CQ.cond (t := (v4 : Int) == 0) (by kernel_rfl) (fun hb6 => ?_) (fun hb6 => ?_)
  ·replace hr := cd_t hb6 hr
   refine CQ.seq ?_
   refine CQ.r0 fine ?_
   refine EVO.p1 (aI64 0) ?_
   refine EVO.p1 (aI64 13) ?_
   refine EVO.done ?_
   refine CQ.ret ?_
   obtain rfl := Option.some.inj hr
   exact FinQ.ret (vs := [aI64 0, aI64 13]) (by kernel_rfl) (Sn.tup (SnL.cons (Sn.pure rfl) (SnL.cons (Sn.pure rfl) SnL.nil)))
  ·replace hr := cd_f hb6 hr
   refine CQ.skip ?_
   refine CQ.seq ?_
   refine CQ.r0 fine ?_
   refine EVO.p1 (aI64 1) ?_
   refine EVO.done ?_
   refine CQ.n1 [4, 5, 6, 7, 11, 12] (mkS 58 0 [(4, .hp 0 0), (5, .hp 1 0), (6, .hp 2 0), (7, .hp 3 0), (11, aI64 v4), (12, aI64 1)]) [.own (api_Pix.c a), .own (api_Pix.c b), .own (api_Pix.c c), .own (api_Pix.c p), .own [aI64 a.X, aI64 a.Y, aI64 b.X, aI64 b.Y, aI64 c.X, aI64 c.Y, aI64 p.X, aI64 p.Y]] ?_
   refine CQ.seq ?_
   refine CQ.seq ?_
   refine CQ.r0 fine ?_
   refine EVO.p1 (.agg (api_Pix.c a)) ?_
   refine EVO.p1 (.agg (api_Pix.c b)) ?_
   refine EVO.p1 (.agg [aI64 a.X, aI64 a.Y, aI64 b.X, aI64 b.Y]) ?_
   refine EVO.p1 (.agg (api_Pix.c b)) ?_
   refine EVO.p1 (.agg (api_Pix.c c)) ?_
   refine EVO.p1 (.agg [aI64 b.X, aI64 b.Y, aI64 c.X, aI64 c.Y]) ?_
   refine EVO.p1 (.agg (api_Pix.c c)) ?_
   refine EVO.p1 (.agg (api_Pix.c a)) ?_
   refine EVO.p1 (.agg [aI64 c.X, aI64 c.Y, aI64 a.X, aI64 a.Y]) ?_
   refine EVO.e1 (.hs 5 0 3 4) [(5, .own [aI64 a.X, aI64 a.Y, aI64 b.X, aI64 b.Y, aI64 b.X, aI64 b.Y, aI64 c.X, aI64 c.Y, aI64 c.X, aI64 c.Y, aI64 a.X, aI64 a.Y])] ?_
   refine EVO.p1 (aI64 3) ?_
   refine EVO.p1 (aI64 0) ?_
   refine EVO.done ?_
   refine CQ.n1 [7, 11, 12, 39, 40, 41] (mkS 58 0 [(7, .hp 3 0), (11, aI64 v4), (12, aI64 1), (39, .hs 5 0 3 4), (40, aI64 3), (41, aI64 0)]) [.own (api_Pix.c a), .own (api_Pix.c b), .own (api_Pix.c c), .own (api_Pix.c p), .own [aI64 a.X, aI64 a.Y, aI64 b.X, aI64 b.Y, aI64 c.X, aI64 c.Y, aI64 p.X, aI64 p.Y], .own [aI64 a.X, aI64 a.Y, aI64 b.X, aI64 b.Y, aI64 b.X, aI64 b.Y, aI64 c.X, aI64 c.Y, aI64 c.X, aI64 c.Y, aI64 a.X, aI64 a.Y]] ?_
   refine CQ.block ?_
   replace hr := bd hr; obtain ⟨least_15, hL24, hr⟩ := hr
   refine CQ.loopO (σ := fun z0 => match z0 with | (least_7, x_8) => ⟨mkS 58 0 [(7, .hp 0 0), (11, aI64 v4), (12, aI64 least_7), (39, .hs 1 0 ([A2.mk a b, A2.mk b c, A2.mk c a].length) 4), (40, aI64 3), (41, aI64 x_8)], [.own (api_Pix.c p), .own ([A2.mk a b, A2.mk b c, A2.mk c a].flatMap A2_2_api_Pix.c)]⟩) (Q := fun x st' => x = .exit 0 ∧ Wk 0 st' ⟨mkS 58 0 [(12, aI64 least_15)], []⟩) hL24 ((Wk.gc [7, 11, 12, 39, 40, 41] [(3, true), (5, false)] rfl (by exact ⟨rfl, trivial⟩)).to (by kernel_rfl)) ?_ ?_
   ·clear hr
    rintro m ⟨least_7, x_8⟩ hr
    show CQ _ _ _ _ _ ⟨_, _⟩
    refine CQ.seq ?_
    refine CQ.r0 fine ?_
    refine EVO.p1 (aB (decide (x_8 < 3))) ?_
    refine EVO.done ?_
    refine CQ.seq ?_
    refine CQ.cond (t := decide (x_8 < 3)) (by kernel_rfl) (fun hb17 => ?_) (fun hb17 => ?_)
    ·replace hr := cd_t hb17 hr
     refine CQ.skip ?_
     refine CQ.seq ?_
     refine CQ.block ?_
     refine CQ.seq ?_
     replace hr := gd hr; obtain ⟨hg18, hr⟩ := hr
     refine CQ.r0 fine ?_
     refine EVO.p0 (v := .hp 1 (0 + x_8.toNat * 4)) (Eq.trans (b := ORes.ofP (guardV (inR x_8 ([A2.mk a b, A2.mk b c, A2.mk c a].length)) (.hp 1 (0 + x_8.toNat * 4)))) (by kernel_rfl) (ofP_guard hg18)) ?_
     refine EVO.p0 (v := .agg [aI64 (gt [A2.mk a b, A2.mk b c, A2.mk c a] x_8).e0.X, aI64 (gt [A2.mk a b, A2.mk b c, A2.mk c a] x_8).e0.Y, aI64 (gt [A2.mk a b, A2.mk b c, A2.mk c a] x_8).e1.X, aI64 (gt [A2.mk a b, A2.mk b c, A2.mk c a] x_8).e1.Y]) (Eq.trans (b := ORes.ofP (guardV (decide (4 ≤ (([A2.mk a b, A2.mk b c, A2.mk c a].flatMap A2_2_api_Pix.c).drop (0 + x_8.toNat * 4)).length)) (.agg ((([A2.mk a b, A2.mk b c, A2.mk c a].flatMap A2_2_api_Pix.c).drop (0 + x_8.toNat * 4)).take 4)))) (by kernel_rfl) (flat_load A2_2_api_Pix.len (inR_lt hg18) (by decide) (by omega : 0 + x_8.toNat * 4 = x_8.toNat * 4 + 0) (by kernel_rfl))) ?_
     refine EVO.e1 (.hp 2 0) [(2, .own [aI64 0, aI64 0, aI64 0, aI64 0])] ?_
     refine EVO.e1 (.unk) [(2, .own [aI64 (gt [A2.mk a b, A2.mk b c, A2.mk c a] x_8).e0.X, aI64 (gt [A2.mk a b, A2.mk b c, A2.mk c a] x_8).e0.Y, aI64 (gt [A2.mk a b, A2.mk b c, A2.mk c a] x_8).e1.X, aI64 (gt [A2.mk a b, A2.mk b c, A2.mk c a] x_8).e1.Y])] ?_
     refine EVO.done ?_
     refine CQ.n1 [7, 11, 12, 14, 39, 40, 41] (mkS 58 0 [(7, .hp 0 0), (11, aI64 v4), (12, aI64 least_7), (14, .hp 2 0), (39, .hs 1 0 ([A2.mk a b, A2.mk b c, A2.mk c a].length) 4), (40, aI64 3), (41, aI64 x_8)]) [.own (api_Pix.c p), .own ([A2.mk a b, A2.mk b c, A2.mk c a].flatMap A2_2_api_Pix.c), .own [aI64 (gt [A2.mk a b, A2.mk b c, A2.mk c a] x_8).e0.X, aI64 (gt [A2.mk a b, A2.mk b c, A2.mk c a] x_8).e0.Y, aI64 (gt [A2.mk a b, A2.mk b c, A2.mk c a] x_8).e1.X, aI64 (gt [A2.mk a b, A2.mk b c, A2.mk c a] x_8).e1.Y]] ?_
     replace hr := bd hr; obtain ⟨v19, hc20, hr⟩ := hr
     replace hr := bd hr; obtain ⟨v21, hc22, hr⟩ := hr
     refine CQ.region fine (callOf_ok [{ f := 43, args := [.agg (api_Pix.c (gt [A2.mk a b, A2.mk b c, A2.mk c a] x_8).e0), .agg (api_Pix.c (gt [A2.mk a b, A2.mk b c, A2.mk c a] x_8).e1), .agg (api_Pix.c p)], H := [.own (api_Pix.c p), .own ([A2.mk a b, A2.mk b c, A2.mk c a].flatMap A2_2_api_Pix.c), .own [aI64 (gt [A2.mk a b, A2.mk b c, A2.mk c a] x_8).e0.X, aI64 (gt [A2.mk a b, A2.mk b c, A2.mk c a] x_8).e0.Y, aI64 (gt [A2.mk a b, A2.mk b c, A2.mk c a] x_8).e1.X, aI64 (gt [A2.mk a b, A2.mk b c, A2.mk c a] x_8).e1.Y]], r := .loc (aI64 v19) [] [] 0 : CE }, { f := 42, args := [aI64 v19], H := [.own (api_Pix.c p), .own ([A2.mk a b, A2.mk b c, A2.mk c a].flatMap A2_2_api_Pix.c), .own [aI64 (gt [A2.mk a b, A2.mk b c, A2.mk c a] x_8).e0.X, aI64 (gt [A2.mk a b, A2.mk b c, A2.mk c a] x_8).e0.Y, aI64 (gt [A2.mk a b, A2.mk b c, A2.mk c a] x_8).e1.X, aI64 (gt [A2.mk a b, A2.mk b c, A2.mk c a] x_8).e1.Y]], r := .loc (aI64 v21) [] [] 0 : CE }] (List.forall_mem_cons.2 ⟨(callOk_val (l := []) (args' := [.agg (api_Pix.c (gt [A2.mk a b, A2.mk b c, A2.mk c a] x_8).e0), .agg (api_Pix.c (gt [A2.mk a b, A2.mk b c, A2.mk c a] x_8).e1), .agg (api_Pix.c p)]) rfl (SnL.cons (Sn.pure rfl) (SnL.cons (Sn.pure rfl) (SnL.cons (Sn.pure rfl) SnL.nil))) (predicate_cross_ok n (gt [A2.mk a b, A2.mk b c, A2.mk c a] x_8).e0 (gt [A2.mk a b, A2.mk b c, A2.mk c a] x_8).e1 p v19 hc20)), (List.forall_mem_cons.2 ⟨(callOk_val (l := []) (args' := [aI64 v19]) rfl (SnL.cons (Sn.pure rfl) SnL.nil) (predicate_sign_ok n v19 v21 hc22)), ce0⟩)⟩)) ?_
     refine EVO.p1 (aI64 least_7) ?_
     refine EVO.p1 (aI64 v4) ?_
     refine EVO.p1 (.hp 2 0) ?_
     refine EVO.p1 (.agg (api_Pix.c (gt [A2.mk a b, A2.mk b c, A2.mk c a] x_8).e0)) ?_
     refine EVO.p1 (.hp 2 2) ?_
     refine EVO.p1 (.agg (api_Pix.c (gt [A2.mk a b, A2.mk b c, A2.mk c a] x_8).e1)) ?_
     refine EVO.p1 (.agg (api_Pix.c p)) ?_
     refine EVO.c0 (by kernel_rfl) (callOf_at (by kernel_rfl)) ?_
     refine EVO.c0 (by kernel_rfl) (callOf_skip (fun h _ => absurd (show (42 : Nat) = 43 from h) (by decide)) (callOf_at (by kernel_rfl))) ?_
     refine EVO.p1 (aI64 (wrapF .i64 (v4 * v21))) ?_
     refine EVO.p1 (aI64 (mn least_7 (wrapF .i64 (v4 * v21)))) ?_
     refine EVO.p1 (aI64 (mn least_7 (wrapF .i64 (v4 * v21)))) ?_
     refine EVO.done ?_
     refine CQ.pop ?_
     refine CQ.r0 fine ?_
     refine EVO.p1 (aI64 (wrapF .i64 (x_8 + 1))) ?_
     refine EVO.p1 (aI64 (wrapF .i64 (x_8 + 1))) ?_
     refine EVO.done ?_
     exact loopF_back (mn least_7 (wrapF .i64 (v4 * v21)), wrapF .i64 (x_8 + 1)) hr ((Wk.gc [7, 11, 12, 39, 40, 41] [(0, true), (1, false)] rfl (by exact ⟨ids_flat A2_2_api_Pix.pure _, trivial⟩)).to (by kernel_rfl))
    ·replace hr := cd_f hb17 hr
     refine CQ.leave rfl ?_
     obtain rfl := Option.some.inj hr
     exact ⟨rfl, ((Wk.gc [12] [] rfl trivial).to (by kernel_rfl))⟩
   ·rintro x st' hq25
    clear hL24
    obtain ⟨rfl, hq25⟩ := hq25
    refine CQ_exit _ rfl ?_
    refine CQ.wk hq25 ?_
    refine CQ.seq ?_
    refine CQ.r0 fine ?_
    refine EVO.p1 (aI64 least_15) ?_
    refine EVO.p1 (aI64 least_15) ?_
    refine EVO.p1 (aI64 0) ?_
    refine EVO.done ?_
    refine CQ.ret ?_
    obtain rfl := Option.some.inj hr
    exact FinQ.ret (vs := [aI64 least_15, aI64 0]) (by kernel_rfl) (Sn.tup (SnL.cons (Sn.pure rfl) (SnL.cons (Sn.pure rfl) SnL.nil)))

theorem fiducialref09_Valid_ok (n : Nat) (p : api_Pix) (r : Bool) (hr : fiducialref09_Valid n p = some r) : FnOk Tryz.prog 44 [.agg [.at (.int .i64 p.X), .at (.int .i64 p.Y)]] (.at (.bool r)) := by
 unfold fiducialref09_Valid at hr
 refine FnOk.body fine Tryz.func44 (c := (Tryz.f44.body).getD .skip) rfl (s := mkS 21 0 [(0, .agg (api_Pix.c p))]) (by kernel_rfl) (rs := [.tmp 2]) rfl ?_
 unfold Tryz.f44
 simp only [Option.getD_some]
 refine CQ.seq ?_
 refine CQ.r0 fine ?_
 refine EVO.e1 (.hp 0 0) [(0, .own (api_Pix.c p))] ?_
 refine EVO.p1 (aB false) ?_
 refine EVO.done ?_
 refine CQ.n1 [1] (mkS 21 0 [(1, .hp 0 0)]) [.own (api_Pix.c p)] ?_
 refine CQ.seq ?_
 rcases Bool.eq_false_or_eq_true (decide (p.X ≥ (-1048576))) with hb1 | hb1
 ·replace hr := cd_t hb1 hr
  rcases Bool.eq_false_or_eq_true (decide (p.X ≤ 1048576)) with hb2 | hb2
  ·replace hr := cd_t hb2 hr
   rcases Bool.eq_false_or_eq_true (decide (p.Y ≥ (-1048576))) with hb3 | hb3
   ·replace hr := cd_t hb3 hr
    refine CQ.r0 fine ?_
    refine EVO.p1 (.hp 0 0) ?_
    refine EVO.p1 (aI64 p.X) ?_
    refine EVO.p0 (v := aB true) (Eq.trans (b := some (.pure (aB (decide (p.X ≥ (-1048576)))))) (by kernel_rfl) (by rw [hb1])) ?_
    refine EVO.p1 (aB true) ?_
    refine EVO.q1 (.hp 0 0) ?_
    refine EVO.q1 (aI64 p.X) ?_
    refine EVO.pure (v := aB true) (by kernel_rfl) (Eq.trans (b := some (.pure (aB (decide (p.X ≤ 1048576))))) (by kernel_rfl) (by rw [hb2])) ?_
    refine EVO.p1 (aB true) ?_
    refine EVO.p1 (aB true) ?_
    refine EVO.q1 (.hp 0 1) ?_
    refine EVO.q1 (aI64 p.Y) ?_
    refine EVO.pure (v := aB true) (by kernel_rfl) (Eq.trans (b := some (.pure (aB (decide (p.Y ≥ (-1048576)))))) (by kernel_rfl) (by rw [hb3])) ?_
    refine EVO.p1 (aB true) ?_
    refine EVO.p1 (aB true) ?_
    refine EVO.q1 (.hp 0 1) ?_
    refine EVO.q1 (aI64 p.Y) ?_
    refine EVO.q1 (aB (decide (p.Y ≤ 1048576))) ?_
    refine EVO.p1 (aB (decide (p.Y ≤ 1048576))) ?_
    refine EVO.p1 (aB (decide (p.Y ≤ 1048576))) ?_
    refine EVO.done ?_
    refine CQ.ret ?_
    obtain rfl := Option.some.inj hr
    exact FinQ.r1 [aB (decide (p.Y ≤ 1048576))]
   ·replace hr := cd_f hb3 hr
    refine CQ.r0 fine ?_
    refine EVO.p1 (.hp 0 0) ?_
    refine EVO.p1 (aI64 p.X) ?_
    refine EVO.p0 (v := aB true) (Eq.trans (b := some (.pure (aB (decide (p.X ≥ (-1048576)))))) (by kernel_rfl) (by rw [hb1])) ?_
    refine EVO.p1 (aB true) ?_
    refine EVO.q1 (.hp 0 0) ?_
    refine EVO.q1 (aI64 p.X) ?_
    refine EVO.pure (v := aB true) (by kernel_rfl) (Eq.trans (b := some (.pure (aB (decide (p.X ≤ 1048576))))) (by kernel_rfl) (by rw [hb2])) ?_
    refine EVO.p1 (aB true) ?_
    refine EVO.p1 (aB true) ?_
    refine EVO.q1 (.hp 0 1) ?_
    refine EVO.q1 (aI64 p.Y) ?_
    refine EVO.pure (v := aB false) (by kernel_rfl) (Eq.trans (b := some (.pure (aB (decide (p.Y ≥ (-1048576)))))) (by kernel_rfl) (by rw [hb3])) ?_
    refine EVO.p1 (aB false) ?_
    refine EVO.p1 (aB false) ?_
    refine EVO.s1 ?_
    refine EVO.s1 ?_
    refine EVO.s1 ?_
    refine EVO.p1 (aB false) ?_
    refine EVO.p1 (aB false) ?_
    refine EVO.done ?_
    refine CQ.ret ?_
    obtain rfl := Option.some.inj hr
    exact FinQ.r1 [aB false]
  ·replace hr := cd_f hb2 hr
   refine CQ.r0 fine ?_
   refine EVO.p1 (.hp 0 0) ?_
   refine EVO.p1 (aI64 p.X) ?_
   refine EVO.p0 (v := aB true) (Eq.trans (b := some (.pure (aB (decide (p.X ≥ (-1048576)))))) (by kernel_rfl) (by rw [hb1])) ?_
   refine EVO.p1 (aB true) ?_
   refine EVO.q1 (.hp 0 0) ?_
   refine EVO.q1 (aI64 p.X) ?_
   refine EVO.pure (v := aB false) (by kernel_rfl) (Eq.trans (b := some (.pure (aB (decide (p.X ≤ 1048576))))) (by kernel_rfl) (by rw [hb2])) ?_
   refine EVO.p1 (aB false) ?_
   refine EVO.p1 (aB false) ?_
   refine EVO.s1 ?_
   refine EVO.s1 ?_
   refine EVO.s1 ?_
   refine EVO.p1 (aB false) ?_
   refine EVO.p1 (aB false) ?_
   refine EVO.s1 ?_
   refine EVO.s1 ?_
   refine EVO.s1 ?_
   refine EVO.p1 (aB false) ?_
   refine EVO.p1 (aB false) ?_
   refine EVO.done ?_
   refine CQ.ret ?_
   obtain rfl := Option.some.inj hr
   exact FinQ.r1 [aB false]
 ·replace hr := cd_f hb1 hr
  refine CQ.r0 fine ?_
  refine EVO.p1 (.hp 0 0) ?_
  refine EVO.p1 (aI64 p.X) ?_
  refine EVO.p0 (v := aB false) (Eq.trans (b := some (.pure (aB (decide (p.X ≥ (-1048576)))))) (by kernel_rfl) (by rw [hb1])) ?_
  refine EVO.p1 (aB false) ?_
  refine EVO.s1 ?_
  refine EVO.s1 ?_
  refine EVO.s1 ?_
  refine EVO.p1 (aB false) ?_
  refine EVO.p1 (aB false) ?_
  refine EVO.s1 ?_
  refine EVO.s1 ?_
  refine EVO.s1 ?_
  refine EVO.p1 (aB false) ?_
  refine EVO.p1 (aB false) ?_
  refine EVO.s1 ?_
  refine EVO.s1 ?_
  refine EVO.s1 ?_
  refine EVO.p1 (aB false) ?_
  refine EVO.p1 (aB false) ?_
  refine EVO.done ?_
  refine CQ.ret ?_
  obtain rfl := Option.some.inj hr
  exact FinQ.r1 [aB false]

theorem fiducialref09_All_ok (n : Nat) (l : List api_Pix) (r : Bool) (hr : fiducialref09_All n l = some r) : FnOk Tryz.prog 10 [slT api_Pix.c l] (.at (.bool r)) := by
 unfold fiducialref09_All at hr
 refine FnOk.body fine Tryz.func10 (c := (Tryz.f10.body).getD .skip) rfl (s := mkS 16 0 [(0, slT api_Pix.c l)]) (by kernel_rfl) (rs := [.tmp 2]) rfl ?_
 unfold Tryz.f10
 simp only [Option.getD_some]
 refine CQ.seq ?_
 refine CQ.r0 fine ?_
 refine EVO.p1 (aB false) ?_
 refine EVO.done ?_
 refine CQ.n1 [0] (mkS 16 0 [(0, slT api_Pix.c l)]) [] ?_
 refine CQ.seq ?_
 refine CQ.seq ?_
 refine CQ.r0 fine ?_
 refine EVO.p1 (aI64 0) ?_
 refine EVO.done ?_
 refine CQ.block ?_
 replace hr := bd hr; obtain ⟨o13, hL14, hr⟩ := hr
 refine CQ.loopO (σ := fun z0 => match z0 with | i_1 => ⟨mkS 16 0 [(0, slT api_Pix.c l), (3, aI64 i_1)], []⟩) (Q := fun x st' => match (generalizing := false) o13 with | .inl _ => x = .exit 0 ∧ Wk 0 st' ⟨mkS 16 0 [], []⟩ | .inr (r0) => x = .ret ∧ FinQ Tryz.prog [.tmp 2] (aB r0) .ret st') hL14 ((Wk.gc [0, 3] [] rfl trivial).to (by kernel_rfl)) ?_ ?_
 ·clear hr
  rintro m i_1 hr
  show CQ _ _ _ _ _ ⟨_, _⟩
  refine CQ.seq ?_
  refine CQ.seq ?_
  refine CQ.r0 fine ?_
  refine EVO.p1 (aI64 i_1) ?_
  refine EVO.p1 (slT api_Pix.c l) ?_
  refine EVO.p1 (aI64 (l.length : Int)) ?_
  refine EVO.p1 (aB (decide (i_1 < (l.length : Int)))) ?_
  refine EVO.done ?_
  refine CQ.n1 [0, 3, 7] (mkS 16 0 [(0, slT api_Pix.c l), (3, aI64 i_1), (7, aB (decide (i_1 < (l.length : Int))))]) [] ?_
  refine CQ.cond (t := decide (i_1 < (l.length : Int))) (by kernel_rfl) (fun hb8 => ?_) (fun hb8 => ?_)
  ·replace hr := cd_t hb8 hr
   refine CQ.skip ?_
   refine CQ.seq ?_
   refine CQ.block ?_
   refine CQ.seq ?_
   replace hr := gd hr; obtain ⟨hg9, hr⟩ := hr
   replace hr := bd hr; obtain ⟨v10, hc11, hr⟩ := hr
   refine CQ.region fine (callOf_1 44 [.agg (api_Pix.c (gt l i_1))] [] (.loc (aB v10) [] [] 0) (callOk_val (l := []) (args' := [.agg (api_Pix.c (gt l i_1))]) rfl (SnL.cons (Sn.pure rfl) SnL.nil) (fiducialref09_Valid_ok n (gt l i_1) v10 hc11))) ?_
   refine EVO.p1 (slT api_Pix.c l) ?_
   refine EVO.p1 (aI64 i_1) ?_
   refine EVO.p0 (v := .pp (l.flatMap api_Pix.c) (i_1.toNat * 2)) (Eq.trans (b := ORes.ofP (guardV (inR i_1 l.length) (.pp (l.flatMap api_Pix.c) (i_1.toNat * 2)))) (by kernel_rfl) (ofP_guard hg9)) ?_
   refine EVO.p0 (v := .agg (api_Pix.c (gt l i_1))) (Eq.trans (b := ORes.ofP (guardV (decide (2 ≤ ((l.flatMap api_Pix.c).drop (i_1.toNat * 2)).length)) (.agg (((l.flatMap api_Pix.c).drop (i_1.toNat * 2)).take 2)))) (by kernel_rfl) (flat_load api_Pix.len (inR_lt hg9) (by decide) (by omega : i_1.toNat * 2 = i_1.toNat * 2 + 0) (by kernel_rfl))) ?_
   refine EVO.c0 (by kernel_rfl) (callOf_at (by kernel_rfl)) ?_
   refine EVO.p1 (aB (!v10)) ?_
   refine EVO.done ?_
   refine CQ.n1 [0, 3, 15] (mkS 16 0 [(0, slT api_Pix.c l), (3, aI64 i_1), (15, aB (!v10))]) [] ?_
   refine CQ.cond (t := !v10) (by kernel_rfl) (fun hb12 => ?_) (fun hb12 => ?_)
   ·replace hr := cd_t hb12 hr
    refine CQ.seq ?_
    refine CQ.r0 fine ?_
    refine EVO.p1 (aB false) ?_
    refine EVO.done ?_
    refine CQ.ret ?_
    obtain rfl := Option.some.inj hr
    exact ⟨rfl, FinQ.ret (vs := [aB false]) (by kernel_rfl) (Sn.pure rfl)⟩
   ·replace hr := cd_f hb12 hr
    refine CQ.skip ?_
    refine CQ.pop ?_
    refine CQ.r0 fine ?_
    refine EVO.p1 (aI64 i_1) ?_
    refine EVO.p1 (aI64 (wrapF .i64 (i_1 + 1))) ?_
    refine EVO.p1 (aI64 (wrapF .i64 (i_1 + 1))) ?_
    refine EVO.done ?_
    exact loopF_back (wrapF .i64 (i_1 + 1)) hr ((Wk.gc [0, 3] [] rfl trivial).to (by kernel_rfl))
  ·replace hr := cd_f hb8 hr
   refine CQ.leave rfl ?_
   obtain rfl := Option.some.inj hr
   exact ⟨rfl, ((Wk.gc [] [] rfl trivial).to (by kernel_rfl))⟩
 ·rcases o13 with ⟨⟩ | r0
  ·rintro x st' hq15
   clear hL14
   obtain ⟨rfl, hq15⟩ := hq15
   refine CQ_exit _ rfl ?_
   refine CQ.wk hq15 ?_
   refine CQ.seq ?_
   refine CQ.r0 fine ?_
   refine EVO.p1 (aB true) ?_
   refine EVO.done ?_
   refine CQ.ret ?_
   obtain rfl := Option.some.inj hr
   exact FinQ.r1 [aB true]
  ·rintro x st' hq15
   clear hL14
   obtain ⟨rfl, hq15⟩ := hq15
   obtain rfl := Option.some.inj hr
   exact CQ_ret _ hq15

theorem fiducialref09_sign_ok (n : Nat) (n' : Int) (r : Int) (hr : fiducialref09_sign n n' = some r) : FnOk Tryz.prog 45 [.at (.int .i64 n')] (.at (.int .i64 r)) := by
 unfold fiducialref09_sign at hr
 refine FnOk.body fine Tryz.func45 (c := (Tryz.f45.body).getD .skip) rfl (s := mkS 7 0 [(0, aI64 n')]) (by kernel_rfl) (rs := [.tmp 2]) rfl ?_
 unfold Tryz.f45
 simp only [Option.getD_some]
 refine CQ.seq ?_
 refine CQ.r0 fine ?_
 refine EVO.p1 (aI64 0) ?_
 refine EVO.done ?_
 refine CQ.n1 [0] (mkS 7 0 [(0, aI64 n')]) [] ?_
 refine CQ.seq ?_
 refine CQ.seq ?_
 refine CQ.r0 fine ?_
 refine EVO.p1 (aI64 n') ?_
 refine EVO.p1 (aB (decide (n' < 0))) ?_
 refine EVO.done ?_
 refine CQ.n1 [0, 4] (mkS 7 0 [(0, aI64 n'), (4, aB (decide (n' < 0)))]) [] ?_
 refine CQ.cond (t := decide (n' < 0)) (by kernel_rfl) (fun hb1 => ?_) (fun hb1 => ?_)
 ·replace hr := cd_t hb1 hr
  refine CQ.seq ?_
  refine CQ.r0 fine ?_
  refine EVO.p1 (aI64 (-1)) ?_
  refine EVO.done ?_
  refine CQ.ret ?_
  obtain rfl := Option.some.inj hr
  exact FinQ.r1 [aI64 (-1)]
 ·replace hr := cd_f hb1 hr
  refine CQ.skip ?_
  refine CQ.seq ?_
  refine CQ.seq ?_
  refine CQ.r0 fine ?_
  refine EVO.p1 (aI64 n') ?_
  refine EVO.p1 (aB (decide (n' > 0))) ?_
  refine EVO.done ?_
  refine CQ.n1 [6] (mkS 7 0 [(6, aB (decide (n' > 0)))]) [] ?_
  refine CQ.cond (t := decide (n' > 0)) (by kernel_rfl) (fun hb2 => ?_) (fun hb2 => ?_)
  ·replace hr := cd_t hb2 hr
   refine CQ.seq ?_
   refine CQ.r0 fine ?_
   refine EVO.p1 (aI64 1) ?_
   refine EVO.done ?_
   refine CQ.ret ?_
   obtain rfl := Option.some.inj hr
   exact FinQ.r1 [aI64 1]
  ·replace hr := cd_f hb2 hr
   refine CQ.skip ?_
   refine CQ.seq ?_
   refine CQ.r0 fine ?_
   refine EVO.p1 (aI64 0) ?_
   refine EVO.done ?_
   refine CQ.ret ?_
   obtain rfl := Option.some.inj hr
   exact FinQ.r1 [aI64 0]

theorem fiducialref09_Orient_inj {a : api_Pix} {b : api_Pix} {c : api_Pix} {a_ : api_Pix} {b_ : api_Pix} {c_ : api_Pix} (h : ([.agg [.at (.int .i64 a.X), .at (.int .i64 a.Y)], .agg [.at (.int .i64 b.X), .at (.int .i64 b.Y)], .agg [.at (.int .i64 c.X), .at (.int .i64 c.Y)]] : List AV) = [.agg [.at (.int .i64 a_.X), .at (.int .i64 a_.Y)], .agg [.at (.int .i64 b_.X), .at (.int .i64 b_.Y)], .agg [.at (.int .i64 c_.X), .at (.int .i64 c_.Y)]]) : a = a_ ∧ b = b_ ∧ c = c_ := by
 obtain ⟨_, _⟩ := a
 obtain ⟨_, _⟩ := a_
 obtain ⟨_, _⟩ := b
 obtain ⟨_, _⟩ := b_
 obtain ⟨_, _⟩ := c
 obtain ⟨_, _⟩ := c_
 simp only [List.cons.injEq, AV.agg.injEq, AV.at.injEq, Value.int.injEq, Value.bool.injEq, AV.fn.injEq, AV.pp.injEq, true_and, and_true] at h
 simp_all
theorem fiducialref09_Orient_ok (n : Nat) (a : api_Pix) (b : api_Pix) (c : api_Pix) (r : Int) (hr : fiducialref09_Orient n a b c = some r) : FnOk Tryz.prog 11 [.agg [.at (.int .i64 a.X), .at (.int .i64 a.Y)], .agg [.at (.int .i64 b.X), .at (.int .i64 b.Y)], .agg [.at (.int .i64 c.X), .at (.int .i64 c.Y)]] (.at (.int .i64 r)) := by
 unfold fiducialref09_Orient at hr
 refine FnOk.body fine Tryz.func11 (c := (Tryz.f11.body).getD .skip) rfl (s := mkS 37 0 [(0, .agg (api_Pix.c a)), (1, .agg (api_Pix.c b)), (2, .agg (api_Pix.c c))]) (by kernel_rfl) (rs := [.tmp 6]) rfl ?_
 unfold Tryz.f11
 simp only [Option.getD_some]
 refine CQ.seq ?_
 refine CQ.r0 fine ?_
 refine EVO.e1 (.hp 0 0) [(0, .own (api_Pix.c a))] ?_
 refine EVO.e1 (.hp 1 0) [(1, .own (api_Pix.c b))] ?_
 refine EVO.e1 (.hp 2 0) [(2, .own (api_Pix.c c))] ?_
 refine EVO.p1 (aI64 0) ?_
 refine EVO.done ?_
 refine CQ.n1 [3, 4, 5] (mkS 37 0 [(3, .hp 0 0), (4, .hp 1 0), (5, .hp 2 0)]) [.own (api_Pix.c a), .own (api_Pix.c b), .own (api_Pix.c c)] ?_
 refine CQ.seq ?_
 refine CQ.seq ?_
 replace hr := bd hr; obtain ⟨v1, hc2, hr⟩ := hr
 refine CQ.region fine (callOf_1 10 [.hs 3 0 3 2] [.own (api_Pix.c a), .own (api_Pix.c b), .own (api_Pix.c c), .own [aI64 a.X, aI64 a.Y, aI64 b.X, aI64 b.Y, aI64 c.X, aI64 c.Y]] (.loc (aB v1) [] [3] 0) (callOk_val (l := [3]) (args' := [slT api_Pix.c [a, b, c]]) rfl (SnL.cons (Sn.hs rfl (.inl rfl) (SnC.cons (Sn.pure rfl) (SnC.cons (Sn.pure rfl) (SnC.cons (Sn.pure rfl) (SnC.cons (Sn.pure rfl) (SnC.cons (Sn.pure rfl) (SnC.cons (Sn.pure rfl) SnC.nil)))))) (fun h => nomatch h)) SnL.nil) (fiducialref09_All_ok n [a, b, c] v1 hc2))) ?_
 refine EVO.p1 (.agg (api_Pix.c a)) ?_
 refine EVO.p1 (.agg (api_Pix.c b)) ?_
 refine EVO.p1 (.agg (api_Pix.c c)) ?_
 refine EVO.e1 (.hs 3 0 3 2) [(3, .own [aI64 a.X, aI64 a.Y, aI64 b.X, aI64 b.Y, aI64 c.X, aI64 c.Y])] ?_
 refine EVO.c0 (by kernel_rfl) (callOf_at (by kernel_rfl)) ?_
 refine EVO.p1 (aB (!v1)) ?_
 refine EVO.done ?_
 refine CQ.n1 [3, 4, 5, 12] (mkS 37 0 [(3, .hp 0 0), (4, .hp 1 0), (5, .hp 2 0), (12, aB (!v1))]) [.own (api_Pix.c a), .own (api_Pix.c b), .own (api_Pix.c c), .own [aI64 a.X, aI64 a.Y, aI64 b.X, aI64 b.Y, aI64 c.X, aI64 c.Y]] ?_
 refine CQ.cond (t := !v1) (by kernel_rfl) (fun hb3 => ?_) (fun hb3 => ?_)
 ·replace hr := cd_t hb3 hr
  refine CQ.seq ?_
  refine CQ.r0 fine ?_
  refine EVO.p1 (aI64 0) ?_
  refine EVO.done ?_
  refine CQ.ret ?_
  obtain rfl := Option.some.inj hr
  exact FinQ.r1 [aI64 0]
 ·replace hr := cd_f hb3 hr
  refine CQ.skip ?_
  refine CQ.seq ?_
  replace hr := bd hr; obtain ⟨v4, hc5, hr⟩ := hr
  refine CQ.region fine (callOf_1 45 [aI64 (wrapF .i64 ((wrapF .i64 ((wrapF .i64 (b.X - a.X)) * (wrapF .i64 (c.Y - a.Y)))) - (wrapF .i64 ((wrapF .i64 (b.Y - a.Y)) * (wrapF .i64 (c.X - a.X))))))] [.own (api_Pix.c a), .own (api_Pix.c b), .own (api_Pix.c c), .own [aI64 a.X, aI64 a.Y, aI64 b.X, aI64 b.Y, aI64 c.X, aI64 c.Y]] (.loc (aI64 v4) [] [] 0) (callOk_val (l := []) (args' := [aI64 (wrapF .i64 ((wrapF .i64 ((wrapF .i64 (b.X - a.X)) * (wrapF .i64 (c.Y - a.Y)))) - (wrapF .i64 ((wrapF .i64 (b.Y - a.Y)) * (wrapF .i64 (c.X - a.X))))))]) rfl (SnL.cons (Sn.pure rfl) SnL.nil) (fiducialref09_sign_ok n (wrapF .i64 ((wrapF .i64 ((wrapF .i64 (b.X - a.X)) * (wrapF .i64 (c.Y - a.Y)))) - (wrapF .i64 ((wrapF .i64 (b.Y - a.Y)) * (wrapF .i64 (c.X - a.X)))))) v4 hc5))) ?_
  refine EVO.p1 (.hp 1 0) ?_
  refine EVO.p1 (aI64 b.X) ?_
  refine EVO.p1 (.hp 0 0) ?_
  refine EVO.p1 (aI64 a.X) ?_
  refine EVO.p1 (aI64 (wrapF .i64 (b.X - a.X))) ?_
  refine EVO.p1 (.hp 2 1) ?_
  refine EVO.p1 (aI64 c.Y) ?_
  refine EVO.p1 (.hp 0 1) ?_
  refine EVO.p1 (aI64 a.Y) ?_
  refine EVO.p1 (aI64 (wrapF .i64 (c.Y - a.Y))) ?_
  refine EVO.p1 (aI64 (wrapF .i64 ((wrapF .i64 (b.X - a.X)) * (wrapF .i64 (c.Y - a.Y))))) ?_
  refine EVO.p1 (.hp 1 1) ?_
  refine EVO.p1 (aI64 b.Y) ?_
  refine EVO.p1 (.hp 0 1) ?_
  refine EVO.p1 (aI64 a.Y) ?_
  refine EVO.p1 (aI64 (wrapF .i64 (b.Y - a.Y))) ?_
  refine EVO.p1 (.hp 2 0) ?_
  refine EVO.p1 (aI64 c.X) ?_
  refine EVO.p1 (.hp 0 0) ?_
  refine EVO.p1 (aI64 a.X) ?_
  refine EVO.p1 (aI64 (wrapF .i64 (c.X - a.X))) ?_
  refine EVO.p1 (aI64 (wrapF .i64 ((wrapF .i64 (b.Y - a.Y)) * (wrapF .i64 (c.X - a.X))))) ?_
  refine EVO.p1 (aI64 (wrapF .i64 ((wrapF .i64 ((wrapF .i64 (b.X - a.X)) * (wrapF .i64 (c.Y - a.Y)))) - (wrapF .i64 ((wrapF .i64 (b.Y - a.Y)) * (wrapF .i64 (c.X - a.X))))))) ?_
  refine EVO.c0 (by kernel_rfl) (callOf_at (by kernel_rfl)) ?_
  refine EVO.p1 (aI64 v4) ?_
  refine EVO.done ?_
  refine CQ.ret ?_
  obtain rfl := Option.some.inj hr
  exact FinQ.r1 [aI64 v4]

theorem fiducialref09_least_inj {a : Int} {b : Int} {a_ : Int} {b_ : Int} (h : ([.at (.int .i64 a), .at (.int .i64 b)] : List AV) = [.at (.int .i64 a_), .at (.int .i64 b_)]) : a = a_ ∧ b = b_ := by
 simp only [List.cons.injEq, AV.agg.injEq, AV.at.injEq, Value.int.injEq, Value.bool.injEq, AV.fn.injEq, AV.pp.injEq, true_and, and_true] at h
 simp_all
theorem fiducialref09_least_ok (n : Nat) (a : Int) (b : Int) (r : Int) (hr : fiducialref09_least n a b = some r) : FnOk Tryz.prog 46 [.at (.int .i64 a), .at (.int .i64 b)] (.at (.int .i64 r)) := by
 unfold fiducialref09_least at hr
 refine FnOk.body fine Tryz.func46 (c := (Tryz.f46.body).getD .skip) rfl (s := mkS 10 0 [(0, aI64 a), (1, aI64 b)]) (by kernel_rfl) (rs := [.tmp 4]) rfl ?_
 unfold Tryz.f46
 simp only [Option.getD_some]
 refine CQ.seq ?_
 refine CQ.r0 fine ?_
 refine EVO.p1 (aI64 0) ?_
 refine EVO.done ?_
 refine CQ.n1 [0, 1] (mkS 10 0 [(0, aI64 a), (1, aI64 b)]) [] ?_
 refine CQ.seq ?_
 refine CQ.seq ?_
 refine CQ.r0 fine ?_
 refine EVO.p1 (aI64 a) ?_
 refine EVO.p1 (aI64 b) ?_
 refine EVO.p1 (aB (decide (a < b))) ?_
 refine EVO.done ?_
 refine CQ.n1 [0, 1, 7] (mkS 10 0 [(0, aI64 a), (1, aI64 b), (7, aB (decide (a < b)))]) [] ?_
 refine CQ.cond (t := decide (a < b)) (by kernel_rfl) (fun hb1 => ?_) (fun hb1 => ?_)
 ·replace hr := cd_t hb1 hr
  refine CQ.seq ?_
  refine CQ.r0 fine ?_
  refine EVO.p1 (aI64 a) ?_
  refine EVO.p1 (aI64 a) ?_
  refine EVO.done ?_
  refine CQ.ret ?_
  obtain rfl := Option.some.inj hr
  exact FinQ.r1 [aI64 a]
 ·replace hr := cd_f hb1 hr
  refine CQ.skip ?_
  refine CQ.seq ?_
  refine CQ.r0 fine ?_
  refine EVO.p1 (aI64 b) ?_
  refine EVO.p1 (aI64 b) ?_
  refine EVO.done ?_
  refine CQ.ret ?_
  obtain rfl := Option.some.inj hr
  exact FinQ.r1 [aI64 b]

theorem fiducialref09_InTriangle_ok (n : Nat) (a : api_Pix) (b : api_Pix) (c : api_Pix) (p : api_Pix) (r : Int) (hr : fiducialref09_InTriangle n a b c p = some r) : FnOk Tryz.prog 12 [.agg [.at (.int .i64 a.X), .at (.int .i64 a.Y)], .agg [.at (.int .i64 b.X), .at (.int .i64 b.Y)], .agg [.at (.int .i64 c.X), .at (.int .i64 c.Y)], .agg [.at (.int .i64 p.X), .at (.int .i64 p.Y)]] (.at (.int .i64 r)) := by
 unfold fiducialref09_InTriangle at hr
 refine FnOk.body fine Tryz.func12 (c := (Tryz.f12.body).getD .skip) rfl (s := mkS 40 0 [(0, .agg (api_Pix.c a)), (1, .agg (api_Pix.c b)), (2, .agg (api_Pix.c c)), (3, .agg (api_Pix.c p))]) (by kernel_rfl) (rs := [.tmp 8]) rfl ?_
 unfold Tryz.f12
 simp only [Option.getD_some]
 refine CQ.seq ?_
 refine CQ.r0 fine ?_
 refine EVO.e1 (.hp 0 0) [(0, .own (api_Pix.c a))] ?_
 refine EVO.e1 (.hp 1 0) [(1, .own (api_Pix.c b))] ?_
 refine EVO.e1 (.hp 2 0) [(2, .own (api_Pix.c c))] ?_
 refine EVO.e1 (.hp 3 0) [(3, .own (api_Pix.c p))] ?_
 refine EVO.p1 (aI64 0) ?_
 refine EVO.done ?_
 refine CQ.n1 [4, 5, 6, 7] (mkS 40 0 [(4, .hp 0 0), (5, .hp 1 0), (6, .hp 2 0), (7, .hp 3 0)]) [.own (api_Pix.c a), .own (api_Pix.c b), .own (api_Pix.c c), .own (api_Pix.c p)] ?_
 refine CQ.seq ?_
 replace hr := bd hr; obtain ⟨v1, hc2, hr⟩ := hr
 refine CQ.region fine (callOf_1 11 [.agg (api_Pix.c a), .agg (api_Pix.c b), .agg (api_Pix.c c)] [.own (api_Pix.c a), .own (api_Pix.c b), .own (api_Pix.c c), .own (api_Pix.c p)] (.loc (aI64 v1) [] [] 0) (callOk_val (l := []) (args' := [.agg (api_Pix.c a), .agg (api_Pix.c b), .agg (api_Pix.c c)]) rfl (SnL.cons (Sn.pure rfl) (SnL.cons (Sn.pure rfl) (SnL.cons (Sn.pure rfl) SnL.nil))) (fiducialref09_Orient_ok n a b c v1 hc2))) ?_
 refine EVO.p1 (.agg (api_Pix.c a)) ?_
 refine EVO.p1 (.agg (api_Pix.c b)) ?_
 refine EVO.p1 (.agg (api_Pix.c c)) ?_
 refine EVO.c0 (by kernel_rfl) (callOf_at (by kernel_rfl)) ?_
 refine EVO.p1 (aI64 v1) ?_
 refine EVO.done ?_
 refine CQ.n1 [4, 5, 6, 7, 9] (mkS 40 0 [(4, .hp 0 0), (5, .hp 1 0), (6, .hp 2 0), (7, .hp 3 0), (9, aI64 v1)]) [.own (api_Pix.c a), .own (api_Pix.c b), .own (api_Pix.c c), .own (api_Pix.c p)] ?_
 refine CQ.seq ?_
 replace hr := bd hr; obtain ⟨v3, hc4, hr⟩ := hr
 replace hr := bd hr; obtain ⟨v5, hc6, hr⟩ := hr
 replace hr := bd hr; obtain ⟨v7, hc8, hr⟩ := hr
 refine CQ.regionT fine (callOf_ok [{ f := 11, args := [.agg (api_Pix.c a), .agg (api_Pix.c b), .agg (api_Pix.c p)], H := [.own (api_Pix.c a), .own (api_Pix.c b), .own (api_Pix.c c), .own (api_Pix.c p)], r := .loc (aI64 v3) [] [] 0 : CE }, { f := 11, args := [.agg (api_Pix.c b), .agg (api_Pix.c c), .agg (api_Pix.c p)], H := [.own (api_Pix.c a), .own (api_Pix.c b), .own (api_Pix.c c), .own (api_Pix.c p)], r := .loc (aI64 v5) [] [] 0 : CE }, { f := 11, args := [.agg (api_Pix.c c), .agg (api_Pix.c a), .agg (api_Pix.c p)], H := [.own (api_Pix.c a), .own (api_Pix.c b), .own (api_Pix.c c), .own (api_Pix.c p)], r := .loc (aI64 v7) [] [] 0 : CE }] (List.forall_mem_cons.2 ⟨(callOk_val (l := []) (args' := [.agg (api_Pix.c a), .agg (api_Pix.c b), .agg (api_Pix.c p)]) rfl (SnL.cons (Sn.pure rfl) (SnL.cons (Sn.pure rfl) (SnL.cons (Sn.pure rfl) SnL.nil))) (fiducialref09_Orient_ok n a b p v3 hc4)), (List.forall_mem_cons.2 ⟨(callOk_val (l := []) (args' := [.agg (api_Pix.c b), .agg (api_Pix.c c), .agg (api_Pix.c p)]) rfl (SnL.cons (Sn.pure rfl) (SnL.cons (Sn.pure rfl) (SnL.cons (Sn.pure rfl) SnL.nil))) (fiducialref09_Orient_ok n b c p v5 hc6)), (List.forall_mem_cons.2 ⟨(callOk_val (l := []) (args' := [.agg (api_Pix.c c), .agg (api_Pix.c a), .agg (api_Pix.c p)]) rfl (SnL.cons (Sn.pure rfl) (SnL.cons (Sn.pure rfl) (SnL.cons (Sn.pure rfl) SnL.nil))) (fiducialref09_Orient_ok n c a p v7 hc8)), ce0⟩)⟩)⟩)) ?_
 refine EVT.p1 (aI64 v1) ?_
 refine EVT.p1 (.agg (api_Pix.c a)) ?_
 refine EVT.p1 (.agg (api_Pix.c b)) ?_
 refine EVT.p1 (.agg (api_Pix.c p)) ?_
 refine EVT.cal (by kernel_rfl) (by kernel_rfl) (callOf_at (by kernel_rfl)) (by kernel_rfl) ?_
 refine EVT.p1 (aI64 (wrapF .i64 (v1 * v3))) ?_
 refine EVT.p1 (aI64 v1) ?_
 refine EVT.p1 (.agg (api_Pix.c b)) ?_
 refine EVT.p1 (.agg (api_Pix.c c)) ?_
 refine EVT.p1 (.agg (api_Pix.c p)) ?_
 refine EVT.cal (by kernel_rfl) (by kernel_rfl) (callOf_skip (fun _ h => by obtain ⟨e0, e1, e2⟩ := fiducialref09_Orient_inj h; rw [show v5 = v3 from Option.some.inj (hc6.symm.trans ((show fiducialref09_Orient n b c p = fiducialref09_Orient n a b p from (congr (congr (congr rfl e0) e1) e2)).trans hc4))]) (callOf_at (by kernel_rfl))) (by kernel_rfl) ?_
 refine EVT.p1 (aI64 (wrapF .i64 (v1 * v5))) ?_
 refine EVT.p1 (aI64 v1) ?_
 refine EVT.p1 (.agg (api_Pix.c c)) ?_
 refine EVT.p1 (.agg (api_Pix.c a)) ?_
 refine EVT.p1 (.agg (api_Pix.c p)) ?_
 refine EVT.cal (by kernel_rfl) (by kernel_rfl) (callOf_skip (fun _ h => by obtain ⟨e0, e1, e2⟩ := fiducialref09_Orient_inj h; rw [show v7 = v3 from Option.some.inj (hc8.symm.trans ((show fiducialref09_Orient n c a p = fiducialref09_Orient n a b p from (congr (congr (congr rfl e0) e1) e2)).trans hc4))]) (callOf_skip (fun _ h => by obtain ⟨e0, e1, e2⟩ := fiducialref09_Orient_inj h; rw [show v7 = v5 from Option.some.inj (hc8.symm.trans ((show fiducialref09_Orient n c a p = fiducialref09_Orient n b c p from (congr (congr (congr rfl e0) e1) e2)).trans hc6))]) (callOf_at (by kernel_rfl)))) (by kernel_rfl) ?_
 refine EVT.p1 (aI64 (wrapF .i64 (v1 * v7))) ?_
 refine EVT.p1 (aI64 (wrapF .i64 (v1 * v3))) ?_
 refine EVT.p1 (aI64 (wrapF .i64 (v1 * v5))) ?_
 refine EVT.p1 (aI64 (wrapF .i64 (v1 * v7))) ?_
 refine EVT.done ⟨by kernel_rfl, ?_⟩
 refine CQ.n1 [10, 11, 12] (mkS 40 0 [(10, aI64 (wrapF .i64 (v1 * v3))), (11, aI64 (wrapF .i64 (v1 * v5))), (12, aI64 (wrapF .i64 (v1 * v7)))]) [.own (api_Pix.c a), .own (api_Pix.c b), .own (api_Pix.c c), .own (api_Pix.c p)] ?_
 refine CQ.seq ?_
 replace hr := bd hr; obtain ⟨v9, hc10, hr⟩ := hr
 replace hr := bd hr; obtain ⟨v11, hc12, hr⟩ := hr
 refine CQ.region fine (callOf_ok [{ f := 46, args := [aI64 (wrapF .i64 (v1 * v5)), aI64 (wrapF .i64 (v1 * v7))], H := [.own (api_Pix.c a), .own (api_Pix.c b), .own (api_Pix.c c), .own (api_Pix.c p)], r := .loc (aI64 v9) [] [] 0 : CE }, { f := 46, args := [aI64 (wrapF .i64 (v1 * v3)), aI64 v9], H := [.own (api_Pix.c a), .own (api_Pix.c b), .own (api_Pix.c c), .own (api_Pix.c p)], r := .loc (aI64 v11) [] [] 0 : CE }] (List.forall_mem_cons.2 ⟨(callOk_val (l := []) (args' := [aI64 (wrapF .i64 (v1 * v5)), aI64 (wrapF .i64 (v1 * v7))]) rfl (SnL.cons (Sn.pure rfl) (SnL.cons (Sn.pure rfl) SnL.nil)) (fiducialref09_least_ok n (wrapF .i64 (v1 * v5)) (wrapF .i64 (v1 * v7)) v9 hc10)), (List.forall_mem_cons.2 ⟨(callOk_val (l := []) (args' := [aI64 (wrapF .i64 (v1 * v3)), aI64 v9]) rfl (SnL.cons (Sn.pure rfl) (SnL.cons (Sn.pure rfl) SnL.nil)) (fiducialref09_least_ok n (wrapF .i64 (v1 * v3)) v9 v11 hc12)), ce0⟩)⟩)) ?_
 refine EVO.p1 (aI64 (wrapF .i64 (v1 * v3))) ?_
 refine EVO.p1 (aI64 (wrapF .i64 (v1 * v5))) ?_
 refine EVO.p1 (aI64 (wrapF .i64 (v1 * v7))) ?_
 refine EVO.c0 (by kernel_rfl) (callOf_at (by kernel_rfl)) ?_
 refine EVO.c0 (by kernel_rfl) (callOf_skip (fun _ h => by obtain ⟨e0, e1⟩ := fiducialref09_least_inj h; rw [show v11 = v9 from Option.some.inj (hc12.symm.trans ((show fiducialref09_least n (wrapF .i64 (v1 * v3)) v9 = fiducialref09_least n (wrapF .i64 (v1 * v5)) (wrapF .i64 (v1 * v7)) from (congr (congr rfl e0) e1)).trans hc10))]) (callOf_at (by kernel_rfl))) ?_
 refine EVO.p1 (aI64 v11) ?_
 refine EVO.done ?_
 refine CQ.ret ?_
 obtain rfl := Option.some.inj hr
 exact FinQ.r1 [aI64 v11]

theorem fiduciallaw09_PredicateTriangle_ok (n : Nat) (l : A4 api_Pix) (r : Bool) (hr : fiduciallaw09_PredicateTriangle n l = some r) : FnOk Tryz.prog 3 [.agg [.at (.int .i64 l.e0.X), .at (.int .i64 l.e0.Y), .at (.int .i64 l.e1.X), .at (.int .i64 l.e1.Y), .at (.int .i64 l.e2.X), .at (.int .i64 l.e2.Y), .at (.int .i64 l.e3.X), .at (.int .i64 l.e3.Y)]] (.at (.bool r)) := by
 unfold fiduciallaw09_PredicateTriangle at hr
 refine FnOk.body fine Tryz.func3 (c := (Tryz.f3.body).getD .skip) rfl (s := mkS 87 0 [(0, .agg [aI64 l.e0.X, aI64 l.e0.Y, aI64 l.e1.X, aI64 l.e1.Y, aI64 l.e2.X, aI64 l.e2.Y, aI64 l.e3.X, aI64 l.e3.Y])]) (by kernel_rfl) (rs := [.tmp 2]) rfl ?_
 unfold Tryz.f3
 simp only [Option.getD_some]
 refine CQ.seq ?_
 refine CQ.r0 fine ?_
 refine EVO.e1 (.hp 0 0) [(0, .own [aI64 l.e0.X, aI64 l.e0.Y, aI64 l.e1.X, aI64 l.e1.Y, aI64 l.e2.X, aI64 l.e2.Y, aI64 l.e3.X, aI64 l.e3.Y])] ?_
 refine EVO.p1 (aB false) ?_
 refine EVO.done ?_
 refine CQ.n1 [1] (mkS 87 0 [(1, .hp 0 0)]) [.own [aI64 l.e0.X, aI64 l.e0.Y, aI64 l.e1.X, aI64 l.e1.Y, aI64 l.e2.X, aI64 l.e2.Y, aI64 l.e3.X, aI64 l.e3.Y]] ?_
 refine CQ.seq ?_
 refine CQ.seq ?_
 replace hr := bd hr; obtain ⟨v1, hc2, hr⟩ := hr
 refine CQ.region fine (callOf_1 8 [] [.own [aI64 l.e0.X, aI64 l.e0.Y, aI64 l.e1.X, aI64 l.e1.Y, aI64 l.e2.X, aI64 l.e2.Y, aI64 l.e3.X, aI64 l.e3.Y]] (.loc (aB v1) [] [] 0) (callOk_val (l := []) (args' := []) rfl SnL.nil (fiduciallaw09_known_ok n v1 hc2))) ?_
 refine EVO.c0 (by kernel_rfl) (callOf_at (by kernel_rfl)) ?_
 refine EVO.p1 (aB (!v1)) ?_
 refine EVO.done ?_
 refine CQ.n1 [1, 9] (mkS 87 0 [(1, .hp 0 0), (9, aB (!v1))]) [.own [aI64 l.e0.X, aI64 l.e0.Y, aI64 l.e1.X, aI64 l.e1.Y, aI64 l.e2.X, aI64 l.e2.Y, aI64 l.e3.X, aI64 l.e3.Y]] ?_
 refine CQ.cond (t := !v1) (by kernel_rfl) (fun hb3 => ?_) (fun hb3 => ?_)
 ·replace hr := cd_t hb3 hr
  refine CQ.seq ?_
  refine CQ.r0 fine ?_
  refine EVO.p1 (aB false) ?_
  refine EVO.done ?_
  refine CQ.ret ?_
  obtain rfl := Option.some.inj hr
  exact FinQ.r1 [aB false]
 ·replace hr := cd_f hb3 hr
  refine CQ.skip ?_
  refine CQ.seq ?_
  replace hr := bd hr; obtain ⟨v4, hc5, hr⟩ := hr
  refine CQ.region fine (callOf_1 9 [.agg (api_Pix.c l.e0), .agg (api_Pix.c l.e1), .agg (api_Pix.c l.e2), .agg (api_Pix.c l.e3)] [.own [aI64 l.e0.X, aI64 l.e0.Y, aI64 l.e1.X, aI64 l.e1.Y, aI64 l.e2.X, aI64 l.e2.Y, aI64 l.e3.X, aI64 l.e3.Y]] (.loc (.tup [aI64 v4.1, aI64 v4.2]) [] [] 0) (callOk_val (l := []) (args' := [.agg (api_Pix.c l.e0), .agg (api_Pix.c l.e1), .agg (api_Pix.c l.e2), .agg (api_Pix.c l.e3)]) rfl (SnL.cons (Sn.pure rfl) (SnL.cons (Sn.pure rfl) (SnL.cons (Sn.pure rfl) (SnL.cons (Sn.pure rfl) SnL.nil)))) (predicate_InTriangle_ok n l.e0 l.e1 l.e2 l.e3 v4 hc5))) ?_
  refine EVO.p1 (.hp 0 0) ?_
  refine EVO.p1 (.agg (api_Pix.c l.e0)) ?_
  refine EVO.p1 (.hp 0 2) ?_
  refine EVO.p1 (.agg (api_Pix.c l.e1)) ?_
  refine EVO.p1 (.hp 0 4) ?_
  refine EVO.p1 (.agg (api_Pix.c l.e2)) ?_
  refine EVO.p1 (.hp 0 6) ?_
  refine EVO.p1 (.agg (api_Pix.c l.e3)) ?_
  refine EVO.c0 (by kernel_rfl) (callOf_at (by kernel_rfl)) ?_
  refine EVO.p1 (.tup [aI64 v4.1, aI64 v4.2]) ?_
  refine EVO.p1 (aI64 v4.1) ?_
  refine EVO.p1 (aI64 v4.2) ?_
  refine EVO.p1 (aI64 v4.1) ?_
  refine EVO.p1 (aI64 v4.2) ?_
  refine EVO.done ?_
  refine CQ.n1 [1, 3, 4] (mkS 87 0 [(1, .hp 0 0), (3, aI64 v4.1), (4, aI64 v4.2)]) [.own [aI64 l.e0.X, aI64 l.e0.Y, aI64 l.e1.X, aI64 l.e1.Y, aI64 l.e2.X, aI64 l.e2.Y, aI64 l.e3.X, aI64 l.e3.Y]] ?_
  refine CQ.seq ?_
  replace hr := bd hr; obtain ⟨v6, hc7, hr⟩ := hr
  refine CQ.region fine (callOf_1 9 [.agg (api_Pix.c l.e1), .agg (api_Pix.c l.e0), .agg (api_Pix.c l.e2), .agg (api_Pix.c l.e3)] [.own [aI64 l.e0.X, aI64 l.e0.Y, aI64 l.e1.X, aI64 l.e1.Y, aI64 l.e2.X, aI64 l.e2.Y, aI64 l.e3.X, aI64 l.e3.Y]] (.loc (.tup [aI64 v6.1, aI64 v6.2]) [] [] 0) (callOk_val (l := []) (args' := [.agg (api_Pix.c l.e1), .agg (api_Pix.c l.e0), .agg (api_Pix.c l.e2), .agg (api_Pix.c l.e3)]) rfl (SnL.cons (Sn.pure rfl) (SnL.cons (Sn.pure rfl) (SnL.cons (Sn.pure rfl) (SnL.cons (Sn.pure rfl) SnL.nil)))) (predicate_InTriangle_ok n l.e1 l.e0 l.e2 l.e3 v6 hc7))) ?_
  refine EVO.p1 (.hp 0 2) ?_
  refine EVO.p1 (.agg (api_Pix.c l.e1)) ?_
  refine EVO.p1 (.hp 0 0) ?_
  refine EVO.p1 (.agg (api_Pix.c l.e0)) ?_
  refine EVO.p1 (.hp 0 4) ?_
  refine EVO.p1 (.agg (api_Pix.c l.e2)) ?_
  refine EVO.p1 (.hp 0 6) ?_
  refine EVO.p1 (.agg (api_Pix.c l.e3)) ?_
  refine EVO.c0 (by kernel_rfl) (callOf_at (by kernel_rfl)) ?_
  refine EVO.p1 (.tup [aI64 v6.1, aI64 v6.2]) ?_
  refine EVO.p1 (aI64 v6.1) ?_
  refine EVO.p1 (aI64 v6.2) ?_
  refine EVO.p1 (aI64 v6.1) ?_
  refine EVO.p1 (aI64 v6.2) ?_
  refine EVO.done ?_
  refine CQ.n1 [1, 3, 4, 5, 6] (mkS 87 0 [(1, .hp 0 0), (3, aI64 v4.1), (4, aI64 v4.2), (5, aI64 v6.1), (6, aI64 v6.2)]) [.own [aI64 l.e0.X, aI64 l.e0.Y, aI64 l.e1.X, aI64 l.e1.Y, aI64 l.e2.X, aI64 l.e2.Y, aI64 l.e3.X, aI64 l.e3.Y]] ?_
  refine CQ.seq ?_
  refine CQ.r0 fine ?_
  refine EVO.p1 (aI64 0) ?_
  refine EVO.done ?_
  refine CQ.seq ?_
  refine CQ.seq ?_
  replace hr := bd hr; obtain ⟨v8, hc9, hr⟩ := hr
  refine CQ.region fine (callOf_1 10 [.hs 0 0 4 2] [.own [aI64 l.e0.X, aI64 l.e0.Y, aI64 l.e1.X, aI64 l.e1.Y, aI64 l.e2.X, aI64 l.e2.Y, aI64 l.e3.X, aI64 l.e3.Y]] (.loc (aB v8) [] [0] 0) (callOk_val (l := [0]) (args' := [slT api_Pix.c [l.e0, l.e1, l.e2, l.e3]]) rfl (SnL.cons (Sn.hs rfl (.inl rfl) (SnC.cons (Sn.pure rfl) (SnC.cons (Sn.pure rfl) (SnC.cons (Sn.pure rfl) (SnC.cons (Sn.pure rfl) (SnC.cons (Sn.pure rfl) (SnC.cons (Sn.pure rfl) (SnC.cons (Sn.pure rfl) (SnC.cons (Sn.pure rfl) SnC.nil)))))))) (fun h => nomatch h)) SnL.nil) (fiducialref09_All_ok n [l.e0, l.e1, l.e2, l.e3] v8 hc9))) ?_
  refine EVO.p1 (.hs 0 0 4 2) ?_
  refine EVO.c0 (by kernel_rfl) (callOf_at (by kernel_rfl)) ?_
  refine EVO.p1 (aB (!v8)) ?_
  refine EVO.done ?_
  refine CQ.n1 [1, 3, 4, 5, 6, 7, 36] (mkS 87 0 [(1, .hp 0 0), (3, aI64 v4.1), (4, aI64 v4.2), (5, aI64 v6.1), (6, aI64 v6.2), (7, aI64 0), (36, aB (!v8))]) [.own [aI64 l.e0.X, aI64 l.e0.Y, aI64 l.e1.X, aI64 l.e1.Y, aI64 l.e2.X, aI64 l.e2.Y, aI64 l.e3.X, aI64 l.e3.Y]] ?_
  refine CQ.cond (t := !v8) (by kernel_rfl) (fun hb10 => ?_) (fun hb10 => ?_)
  ·replace hr := cd_t hb10 hr
   refine CQ.r0 fine ?_
   refine EVO.p1 (aI64 2) ?_
   refine EVO.done ?_
   refine CQ.n1 [1, 3, 4, 5, 6, 7] (mkS 87 0 [(1, .hp 0 0), (3, aI64 v4.1), (4, aI64 v4.2), (5, aI64 v6.1), (6, aI64 v6.2), (7, aI64 2)]) [.own [aI64 l.e0.X, aI64 l.e0.Y, aI64 l.e1.X, aI64 l.e1.Y, aI64 l.e2.X, aI64 l.e2.Y, aI64 l.e3.X, aI64 l.e3.Y]] ?_
   refine CQ.seq ?_
   refine CQ.seq ?_
   refine CQ.r0 fine ?_
   refine EVO.p1 (aI64 2) ?_
   refine EVO.p1 (aB true) ?_
   refine EVO.done ?_
   refine CQ.n1 [1, 3, 4, 5, 6, 7, 46] (mkS 87 0 [(1, .hp 0 0), (3, aI64 v4.1), (4, aI64 v4.2), (5, aI64 v6.1), (6, aI64 v6.2), (7, aI64 2), (46, aB true)]) [.own [aI64 l.e0.X, aI64 l.e0.Y, aI64 l.e1.X, aI64 l.e1.Y, aI64 l.e2.X, aI64 l.e2.Y, aI64 l.e3.X, aI64 l.e3.Y]] ?_
   refine CQ.cT (by kernel_rfl) ?_
   refine CQ.seq ?_
   rcases Bool.eq_false_or_eq_true ((v4.2 : Int) == 2) with hb11 | hb11
   ·replace hr := cd_t hb11 hr
    rcases Bool.eq_false_or_eq_true ((v6.2 : Int) == 2) with hb12 | hb12
    ·replace hr := cd_t hb12 hr
     rcases Bool.eq_false_or_eq_true ((v4.1 : Int) == 0) with hb13 | hb13
     ·replace hr := cd_t hb13 hr
      refine CQ.r0 fine ?_
      refine EVO.p1 (aI64 v4.2) ?_
      refine EVO.p1 (aI64 2) ?_
      refine EVO.p0 (v := aB true) (Eq.trans (b := some (.pure (aB ((v4.2 : Int) == 2)))) (by kernel_rfl) (by rw [hb11])) ?_
      refine EVO.p1 (aB true) ?_
      refine EVO.q1 (aI64 v6.2) ?_
      refine EVO.q1 (aI64 2) ?_
      refine EVO.pure (v := aB true) (by kernel_rfl) (Eq.trans (b := some (.pure (aB ((v6.2 : Int) == 2)))) (by kernel_rfl) (by rw [hb12])) ?_
      refine EVO.p1 (aB true) ?_
      refine EVO.p1 (aB true) ?_
      refine EVO.q1 (aI64 v4.1) ?_
      refine EVO.pure (v := aB true) (by kernel_rfl) (Eq.trans (b := some (.pure (aB ((v4.1 : Int) == 0)))) (by kernel_rfl) (by rw [hb13])) ?_
      refine EVO.p1 (aB true) ?_
      refine EVO.p1 (aB true) ?_
      refine EVO.q1 (aI64 v6.1) ?_
      refine EVO.q1 (aB ((v6.1 : Int) == 0)) ?_
      refine EVO.p1 (aB ((v6.1 : Int) == 0)) ?_
      refine EVO.p1 (aB ((v6.1 : Int) == 0)) ?_
      refine EVO.done ?_
      refine CQ.ret ?_
      obtain rfl := Option.some.inj hr
      exact FinQ.r1 [aB ((v6.1 : Int) == 0)]
     ·replace hr := cd_f hb13 hr
      refine CQ.r0 fine ?_
      refine EVO.p1 (aI64 v4.2) ?_
      refine EVO.p1 (aI64 2) ?_
      refine EVO.p0 (v := aB true) (Eq.trans (b := some (.pure (aB ((v4.2 : Int) == 2)))) (by kernel_rfl) (by rw [hb11])) ?_
      refine EVO.p1 (aB true) ?_
      refine EVO.q1 (aI64 v6.2) ?_
      refine EVO.q1 (aI64 2) ?_
      refine EVO.pure (v := aB true) (by kernel_rfl) (Eq.trans (b := some (.pure (aB ((v6.2 : Int) == 2)))) (by kernel_rfl) (by rw [hb12])) ?_
      refine EVO.p1 (aB true) ?_
      refine EVO.p1 (aB true) ?_
      refine EVO.q1 (aI64 v4.1) ?_
      refine EVO.pure (v := aB false) (by kernel_rfl) (Eq.trans (b := some (.pure (aB ((v4.1 : Int) == 0)))) (by kernel_rfl) (by rw [hb13])) ?_
      refine EVO.p1 (aB false) ?_
      refine EVO.p1 (aB false) ?_
      refine EVO.s1 ?_
      refine EVO.s1 ?_
      refine EVO.p1 (aB false) ?_
      refine EVO.p1 (aB false) ?_
      refine EVO.done ?_
      refine CQ.ret ?_
      obtain rfl := Option.some.inj hr
      exact FinQ.r1 [aB false]
    ·replace hr := cd_f hb12 hr
     refine CQ.r0 fine ?_
     refine EVO.p1 (aI64 v4.2) ?_
     refine EVO.p1 (aI64 2) ?_
     refine EVO.p0 (v := aB true) (Eq.trans (b := some (.pure (aB ((v4.2 : Int) == 2)))) (by kernel_rfl) (by rw [hb11])) ?_
     refine EVO.p1 (aB true) ?_
     refine EVO.q1 (aI64 v6.2) ?_
     refine EVO.q1 (aI64 2) ?_
     refine EVO.pure (v := aB false) (by kernel_rfl) (Eq.trans (b := some (.pure (aB ((v6.2 : Int) == 2)))) (by kernel_rfl) (by rw [hb12])) ?_
     refine EVO.p1 (aB false) ?_
     refine EVO.p1 (aB false) ?_
     refine EVO.s1 ?_
     refine EVO.s1 ?_
     refine EVO.p1 (aB false) ?_
     refine EVO.p1 (aB false) ?_
     refine EVO.s1 ?_
     refine EVO.s1 ?_
     refine EVO.p1 (aB false) ?_
     refine EVO.p1 (aB false) ?_
     refine EVO.done ?_
     refine CQ.ret ?_
     obtain rfl := Option.some.inj hr
     exact FinQ.r1 [aB false]
   ·replace hr := cd_f hb11 hr
    refine CQ.r0 fine ?_
    refine EVO.p1 (aI64 v4.2) ?_
    refine EVO.p1 (aI64 2) ?_
    refine EVO.p0 (v := aB false) (Eq.trans (b := some (.pure (aB ((v4.2 : Int) == 2)))) (by kernel_rfl) (by rw [hb11])) ?_
    refine EVO.p1 (aB false) ?_
    refine EVO.s1 ?_
    refine EVO.s1 ?_
    refine EVO.s1 ?_
    refine EVO.p1 (aB false) ?_
    refine EVO.p1 (aB false) ?_
    refine EVO.s1 ?_
    refine EVO.s1 ?_
    refine EVO.p1 (aB false) ?_
    refine EVO.p1 (aB false) ?_
    refine EVO.s1 ?_
    refine EVO.s1 ?_
    refine EVO.p1 (aB false) ?_
    refine EVO.p1 (aB false) ?_
    refine EVO.done ?_
    refine CQ.ret ?_
    obtain rfl := Option.some.inj hr
    exact FinQ.r1 [aB false]
  ·replace hr := cd_f hb10 hr
   refine CQ.seq ?_
   replace hr := bd hr; obtain ⟨v14, hc15, hr⟩ := hr
   refine CQ.region fine (callOf_1 11 [.agg (api_Pix.c l.e0), .agg (api_Pix.c l.e1), .agg (api_Pix.c l.e2)] [.own [aI64 l.e0.X, aI64 l.e0.Y, aI64 l.e1.X, aI64 l.e1.Y, aI64 l.e2.X, aI64 l.e2.Y, aI64 l.e3.X, aI64 l.e3.Y]] (.loc (aI64 v14) [] [] 0) (callOk_val (l := []) (args' := [.agg (api_Pix.c l.e0), .agg (api_Pix.c l.e1), .agg (api_Pix.c l.e2)]) rfl (SnL.cons (Sn.pure rfl) (SnL.cons (Sn.pure rfl) (SnL.cons (Sn.pure rfl) SnL.nil))) (fiducialref09_Orient_ok n l.e0 l.e1 l.e2 v14 hc15))) ?_
   refine EVO.p1 (.hp 0 0) ?_
   refine EVO.p1 (.agg (api_Pix.c l.e0)) ?_
   refine EVO.p1 (.hp 0 2) ?_
   refine EVO.p1 (.agg (api_Pix.c l.e1)) ?_
   refine EVO.p1 (.hp 0 4) ?_
   refine EVO.p1 (.agg (api_Pix.c l.e2)) ?_
   refine EVO.c0 (by kernel_rfl) (callOf_at (by kernel_rfl)) ?_
   refine EVO.p1 (aB ((v14 : Int) == 0)) ?_
   refine EVO.done ?_
   refine CQ.n1 [1, 3, 4, 5, 6, 7, 44] (mkS 87 0 [(1, .hp 0 0), (3, aI64 v4.1), (4, aI64 v4.2), (5, aI64 v6.1), (6, aI64 v6.2), (7, aI64 0), (44, aB ((v14 : Int) == 0))]) [.own [aI64 l.e0.X, aI64 l.e0.Y, aI64 l.e1.X, aI64 l.e1.Y, aI64 l.e2.X, aI64 l.e2.Y, aI64 l.e3.X, aI64 l.e3.Y]] ?_
   refine CQ.cond (t := (v14 : Int) == 0) (by kernel_rfl) (fun hb16 => ?_) (fun hb16 => ?_)
   ·replace hr := cd_t hb16 hr
    refine CQ.r0 fine ?_
    refine EVO.p1 (aI64 13) ?_
    refine EVO.done ?_
    refine CQ.n1 [1, 3, 4, 5, 6, 7] (mkS 87 0 [(1, .hp 0 0), (3, aI64 v4.1), (4, aI64 v4.2), (5, aI64 v6.1), (6, aI64 v6.2), (7, aI64 13)]) [.own [aI64 l.e0.X, aI64 l.e0.Y, aI64 l.e1.X, aI64 l.e1.Y, aI64 l.e2.X, aI64 l.e2.Y, aI64 l.e3.X, aI64 l.e3.Y]] ?_
    refine CQ.seq ?_
    refine CQ.seq ?_
    refine CQ.r0 fine ?_
    refine EVO.p1 (aI64 13) ?_
    refine EVO.p1 (aB true) ?_
    refine EVO.done ?_
    refine CQ.n1 [1, 3, 4, 5, 6, 7, 46] (mkS 87 0 [(1, .hp 0 0), (3, aI64 v4.1), (4, aI64 v4.2), (5, aI64 v6.1), (6, aI64 v6.2), (7, aI64 13), (46, aB true)]) [.own [aI64 l.e0.X, aI64 l.e0.Y, aI64 l.e1.X, aI64 l.e1.Y, aI64 l.e2.X, aI64 l.e2.Y, aI64 l.e3.X, aI64 l.e3.Y]] ?_
    refine CQ.cT (by kernel_rfl) ?_
    refine CQ.seq ?_
    rcases Bool.eq_false_or_eq_true ((v4.2 : Int) == 13) with hb17 | hb17
    ·replace hr := cd_t hb17 hr
     rcases Bool.eq_false_or_eq_true ((v6.2 : Int) == 13) with hb18 | hb18
     ·replace hr := cd_t hb18 hr
      rcases Bool.eq_false_or_eq_true ((v4.1 : Int) == 0) with hb19 | hb19
      ·replace hr := cd_t hb19 hr
       refine CQ.r0 fine ?_
       refine EVO.p1 (aI64 v4.2) ?_
       refine EVO.p1 (aI64 13) ?_
       refine EVO.p0 (v := aB true) (Eq.trans (b := some (.pure (aB ((v4.2 : Int) == 13)))) (by kernel_rfl) (by rw [hb17])) ?_
       refine EVO.p1 (aB true) ?_
       refine EVO.q1 (aI64 v6.2) ?_
       refine EVO.q1 (aI64 13) ?_
       refine EVO.pure (v := aB true) (by kernel_rfl) (Eq.trans (b := some (.pure (aB ((v6.2 : Int) == 13)))) (by kernel_rfl) (by rw [hb18])) ?_
       refine EVO.p1 (aB true) ?_
       refine EVO.p1 (aB true) ?_
       refine EVO.q1 (aI64 v4.1) ?_
       refine EVO.pure (v := aB true) (by kernel_rfl) (Eq.trans (b := some (.pure (aB ((v4.1 : Int) == 0)))) (by kernel_rfl) (by rw [hb19])) ?_
       refine EVO.p1 (aB true) ?_
       refine EVO.p1 (aB true) ?_
       refine EVO.q1 (aI64 v6.1) ?_
       refine EVO.q1 (aB ((v6.1 : Int) == 0)) ?_
       refine EVO.p1 (aB ((v6.1 : Int) == 0)) ?_
       refine EVO.p1 (aB ((v6.1 : Int) == 0)) ?_
       refine EVO.done ?_
       refine CQ.ret ?_
       obtain rfl := Option.some.inj hr
       exact FinQ.r1 [aB ((v6.1 : Int) == 0)]
      ·replace hr := cd_f hb19 hr
       refine CQ.r0 fine ?_
       refine EVO.p1 (aI64 v4.2) ?_
       refine EVO.p1 (aI64 13) ?_
       refine EVO.p0 (v := aB true) (Eq.trans (b := some (.pure (aB ((v4.2 : Int) == 13)))) (by kernel_rfl) (by rw [hb17])) ?_
       refine EVO.p1 (aB true) ?_
       refine EVO.q1 (aI64 v6.2) ?_
       refine EVO.q1 (aI64 13) ?_
       refine EVO.pure (v := aB true) (by kernel_rfl) (Eq.trans (b := some (.pure (aB ((v6.2 : Int) == 13)))) (by kernel_rfl) (by rw [hb18])) ?_
       refine EVO.p1 (aB true) ?_
       refine EVO.p1 (aB true) ?_
       refine EVO.q1 (aI64 v4.1) ?_
       refine EVO.pure (v := aB false) (by kernel_rfl) (Eq.trans (b := some (.pure (aB ((v4.1 : Int) == 0)))) (by kernel_rfl) (by rw [hb19])) ?_
       refine EVO.p1 (aB false) ?_
       refine EVO.p1 (aB false) ?_
       refine EVO.s1 ?_
       refine EVO.s1 ?_
       refine EVO.p1 (aB false) ?_
       refine EVO.p1 (aB false) ?_
       refine EVO.done ?_
       refine CQ.ret ?_
       obtain rfl := Option.some.inj hr
       exact FinQ.r1 [aB false]
     ·replace hr := cd_f hb18 hr
      refine CQ.r0 fine ?_
      refine EVO.p1 (aI64 v4.2) ?_
      refine EVO.p1 (aI64 13) ?_
      refine EVO.p0 (v := aB true) (Eq.trans (b := some (.pure (aB ((v4.2 : Int) == 13)))) (by kernel_rfl) (by rw [hb17])) ?_
      refine EVO.p1 (aB true) ?_
      refine EVO.q1 (aI64 v6.2) ?_
      refine EVO.q1 (aI64 13) ?_
      refine EVO.pure (v := aB false) (by kernel_rfl) (Eq.trans (b := some (.pure (aB ((v6.2 : Int) == 13)))) (by kernel_rfl) (by rw [hb18])) ?_
      refine EVO.p1 (aB false) ?_
      refine EVO.p1 (aB false) ?_
      refine EVO.s1 ?_
      refine EVO.s1 ?_
      refine EVO.p1 (aB false) ?_
      refine EVO.p1 (aB false) ?_
      refine EVO.s1 ?_
      refine EVO.s1 ?_
      refine EVO.p1 (aB false) ?_
      refine EVO.p1 (aB false) ?_
      refine EVO.done ?_
      refine CQ.ret ?_
      obtain rfl := Option.some.inj hr
      exact FinQ.r1 [aB false]
    ·replace hr := cd_f hb17 hr
     refine CQ.r0 fine ?_
     refine EVO.p1 (aI64 v4.2) ?_
     refine EVO.p1 (aI64 13) ?_
     refine EVO.p0 (v := aB false) (Eq.trans (b := some (.pure (aB ((v4.2 : Int) == 13)))) (by kernel_rfl) (by rw [hb17])) ?_
     refine EVO.p1 (aB false) ?_
     refine EVO.s1 ?_
     refine EVO.s1 ?_
     refine EVO.s1 ?_
     refine EVO.p1 (aB false) ?_
     refine EVO.p1 (aB false) ?_
     refine EVO.s1 ?_
     refine EVO.s1 ?_
     refine EVO.p1 (aB false) ?_
     refine EVO.p1 (aB false) ?_
     refine EVO.s1 ?_
     refine EVO.s1 ?_
     refine EVO.p1 (aB false) ?_
     refine EVO.p1 (aB false) ?_
     refine EVO.done ?_
     refine CQ.ret ?_
     obtain rfl := Option.some.inj hr
     exact FinQ.r1 [aB false]
   ·replace hr := cd_f hb16 hr
    refine CQ.skip ?_
    refine CQ.seq ?_
    refine CQ.seq ?_
    refine CQ.r0 fine ?_
    refine EVO.p1 (aI64 0) ?_
    refine EVO.p1 (aB false) ?_
    refine EVO.done ?_
    refine CQ.n1 [1, 3, 4, 5, 6, 7, 46] (mkS 87 0 [(1, .hp 0 0), (3, aI64 v4.1), (4, aI64 v4.2), (5, aI64 v6.1), (6, aI64 v6.2), (7, aI64 0), (46, aB false)]) [.own [aI64 l.e0.X, aI64 l.e0.Y, aI64 l.e1.X, aI64 l.e1.Y, aI64 l.e2.X, aI64 l.e2.Y, aI64 l.e3.X, aI64 l.e3.Y]] ?_
    refine CQ.cF (by kernel_rfl) ?_
    refine CQ.skip ?_
    refine CQ.seq ?_
    rcases Bool.eq_false_or_eq_true ((v4.2 : Int) == 0) with hb20 | hb20
    ·replace hr := cd_t hb20 hr
     rcases Bool.eq_false_or_eq_true ((v6.2 : Int) == 0) with hb21 | hb21
     ·replace hr := cd_t hb21 hr
      rcases Bool.eq_false_or_eq_true ((v4.1 : Int) == v6.1) with hb22 | hb22
      ·replace hr := cd_t hb22 hr
       replace hr := bd hr; obtain ⟨v23, hc24, hr⟩ := hr
       refine CQ.region fine (callOf_1 12 [.agg (api_Pix.c l.e0), .agg (api_Pix.c l.e1), .agg (api_Pix.c l.e2), .agg (api_Pix.c l.e3)] [.own [aI64 l.e0.X, aI64 l.e0.Y, aI64 l.e1.X, aI64 l.e1.Y, aI64 l.e2.X, aI64 l.e2.Y, aI64 l.e3.X, aI64 l.e3.Y]] (.loc (aI64 v23) [] [] 0) (callOk_val (l := []) (args' := [.agg (api_Pix.c l.e0), .agg (api_Pix.c l.e1), .agg (api_Pix.c l.e2), .agg (api_Pix.c l.e3)]) rfl (SnL.cons (Sn.pure rfl) (SnL.cons (Sn.pure rfl) (SnL.cons (Sn.pure rfl) (SnL.cons (Sn.pure rfl) SnL.nil)))) (fiducialref09_InTriangle_ok n l.e0 l.e1 l.e2 l.e3 v23 hc24))) ?_
       refine EVO.p1 (aI64 v4.2) ?_
       refine EVO.p0 (v := aB true) (Eq.trans (b := some (.pure (aB ((v4.2 : Int) == 0)))) (by kernel_rfl) (by rw [hb20])) ?_
       refine EVO.p1 (aB true) ?_
       refine EVO.q1 (aI64 v6.2) ?_
       refine EVO.pure (v := aB true) (by kernel_rfl) (Eq.trans (b := some (.pure (aB ((v6.2 : Int) == 0)))) (by kernel_rfl) (by rw [hb21])) ?_
       refine EVO.p1 (aB true) ?_
       refine EVO.p1 (aB true) ?_
       refine EVO.q1 (aI64 v4.1) ?_
       refine EVO.q1 (aI64 v6.1) ?_
       refine EVO.pure (v := aB true) (by kernel_rfl) (Eq.trans (b := some (.pure (aB ((v4.1 : Int) == v6.1)))) (by kernel_rfl) (by rw [hb22])) ?_
       refine EVO.p1 (aB true) ?_
       refine EVO.p1 (aB true) ?_
       refine EVO.q1 (aI64 v4.1) ?_
       refine EVO.q1 (.hp 0 0) ?_
       refine EVO.q1 (.agg (api_Pix.c l.e0)) ?_
       refine EVO.q1 (.hp 0 2) ?_
       refine EVO.q1 (.agg (api_Pix.c l.e1)) ?_
       refine EVO.q1 (.hp 0 4) ?_
       refine EVO.q1 (.agg (api_Pix.c l.e2)) ?_
       refine EVO.q1 (.hp 0 6) ?_
       refine EVO.q1 (.agg (api_Pix.c l.e3)) ?_
       refine EVO.cal (by kernel_rfl) (by kernel_rfl) (callOf_at (by kernel_rfl)) ?_
       refine EVO.q1 (aB ((v4.1 : Int) == v23)) ?_
       refine EVO.p1 (aB ((v4.1 : Int) == v23)) ?_
       refine EVO.p1 (aB ((v4.1 : Int) == v23)) ?_
       refine EVO.done ?_
       refine CQ.ret ?_
       obtain rfl := Option.some.inj hr
       exact FinQ.r1 [aB ((v4.1 : Int) == v23)]
      ·replace hr := cd_f hb22 hr
       refine CQ.r0 fine ?_
       refine EVO.p1 (aI64 v4.2) ?_
       refine EVO.p0 (v := aB true) (Eq.trans (b := some (.pure (aB ((v4.2 : Int) == 0)))) (by kernel_rfl) (by rw [hb20])) ?_
       refine EVO.p1 (aB true) ?_
       refine EVO.q1 (aI64 v6.2) ?_
       refine EVO.pure (v := aB true) (by kernel_rfl) (Eq.trans (b := some (.pure (aB ((v6.2 : Int) == 0)))) (by kernel_rfl) (by rw [hb21])) ?_
       refine EVO.p1 (aB true) ?_
       refine EVO.p1 (aB true) ?_
       refine EVO.q1 (aI64 v4.1) ?_
       refine EVO.q1 (aI64 v6.1) ?_
       refine EVO.pure (v := aB false) (by kernel_rfl) (Eq.trans (b := some (.pure (aB ((v4.1 : Int) == v6.1)))) (by kernel_rfl) (by rw [hb22])) ?_
       refine EVO.p1 (aB false) ?_
       refine EVO.p1 (aB false) ?_
       refine EVO.s1 ?_
       refine EVO.s1 ?_
       refine EVO.s1 ?_
       refine EVO.s1 ?_
       refine EVO.s1 ?_
       refine EVO.s1 ?_
       refine EVO.s1 ?_
       refine EVO.s1 ?_
       refine EVO.s1 ?_
       refine EVO.s1 ?_
       refine EVO.s1 ?_
       refine EVO.p1 (aB false) ?_
       refine EVO.p1 (aB false) ?_
       refine EVO.done ?_
       refine CQ.ret ?_
       obtain rfl := Option.some.inj hr
       exact FinQ.r1 [aB false]
     ·replace hr := cd_f hb21 hr
      refine CQ.r0 fine ?_
      refine EVO.p1 (aI64 v4.2) ?_
      refine EVO.p0 (v := aB true) (Eq.trans (b := some (.pure (aB ((v4.2 : Int) == 0)))) (by kernel_rfl) (by rw [hb20])) ?_
      refine EVO.p1 (aB true) ?_
      refine EVO.q1 (aI64 v6.2) ?_
      refine EVO.pure (v := aB false) (by kernel_rfl) (Eq.trans (b := some (.pure (aB ((v6.2 : Int) == 0)))) (by kernel_rfl) (by rw [hb21])) ?_
      refine EVO.p1 (aB false) ?_
      refine EVO.p1 (aB false) ?_
      refine EVO.s1 ?_
      refine EVO.s1 ?_
      refine EVO.s1 ?_
      refine EVO.p1 (aB false) ?_
      refine EVO.p1 (aB false) ?_
      refine EVO.s1 ?_
      refine EVO.s1 ?_
      refine EVO.s1 ?_
      refine EVO.s1 ?_
      refine EVO.s1 ?_
      refine EVO.s1 ?_
      refine EVO.s1 ?_
      refine EVO.s1 ?_
      refine EVO.s1 ?_
      refine EVO.s1 ?_
      refine EVO.s1 ?_
      refine EVO.p1 (aB false) ?_
      refine EVO.p1 (aB false) ?_
      refine EVO.done ?_
      refine CQ.ret ?_
      obtain rfl := Option.some.inj hr
      exact FinQ.r1 [aB false]
    ·replace hr := cd_f hb20 hr
     refine CQ.r0 fine ?_
     refine EVO.p1 (aI64 v4.2) ?_
     refine EVO.p0 (v := aB false) (Eq.trans (b := some (.pure (aB ((v4.2 : Int) == 0)))) (by kernel_rfl) (by rw [hb20])) ?_
     refine EVO.p1 (aB false) ?_
     refine EVO.s1 ?_
     refine EVO.s1 ?_
     refine EVO.p1 (aB false) ?_
     refine EVO.p1 (aB false) ?_
     refine EVO.s1 ?_
     refine EVO.s1 ?_
     refine EVO.s1 ?_
     refine EVO.p1 (aB false) ?_
     refine EVO.p1 (aB false) ?_
     refine EVO.s1 ?_
     refine EVO.s1 ?_
     refine EVO.s1 ?_
     refine EVO.s1 ?_
     refine EVO.s1 ?_
     refine EVO.s1 ?_
     refine EVO.s1 ?_
     refine EVO.s1 ?_
     refine EVO.s1 ?_
     refine EVO.s1 ?_
     refine EVO.s1 ?_
     refine EVO.p1 (aB false) ?_
     refine EVO.p1 (aB false) ?_
     refine EVO.done ?_
     refine CQ.ret ?_
     obtain rfl := Option.some.inj hr
     exact FinQ.r1 [aB false]
end Go.L
