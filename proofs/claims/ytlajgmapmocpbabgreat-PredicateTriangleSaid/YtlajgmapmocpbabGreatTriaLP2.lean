/- The program's functions compute what the plain Lean programs compute, part 2; printed by a program. -/
import Derived.Test.YtlajgmapmocpbabGreatTriaLP1
import Derived.Test.YtlajgmapmocpbabGreatL0c
import Derived.Test.YtlajgmapmocpbabGreatChecked
import Derived.KernelRfl
set_option linter.unusedVariables false
set_option linter.unusedSimpArgs false
set_option maxRecDepth 100000
set_option maxHeartbeats 4000000
namespace Go.L
open Go Go.Eng Go.Proofs
theorem integer_Divide_ok (n : Nat) (x' : api_Int) (y : api_Int) (r : api_Int × api_Int × Int) (hr : integer_Divide n x' y = some r) : FnOk Tryz.prog 135 [.agg [.at (.bool x'.Negative), slT (iC .u32) x'.Groups], .agg [.at (.bool y.Negative), slT (iC .u32) y.Groups]] (.tup [.agg [.at (.bool r.1.Negative), slT (iC .u32) r.1.Groups], .agg [.at (.bool r.2.1.Negative), slT (iC .u32) r.2.1.Groups], .at (.int .i64 r.2.2)]) := by
 unfold integer_Divide at hr
 refine FnOk.body fine Tryz.func135 (c := (Tryz.f135.body).getD .skip) rfl (s := mkS 55 0 [(0, .agg (api_Int.c x')), (1, .agg (api_Int.c y))]) (by kernel_rfl) (rs := [.cell 4 37, .cell 5 37, .tmp 6]) rfl ?_
 unfold Tryz.f135
 simp only [Option.getD_some]
 refine CQ.seq ?_
 refine CQ.r0 fine ?_
 refine EVO.e1 (.hp 0 0) [(0, .own (api_Int.c x'))] ?_
 refine EVO.e1 (.hp 1 0) [(1, .own (api_Int.c y))] ?_
 refine EVO.e1 (.hp 2 0) [(2, .own [aB false, .at (.slice none 0 0)])] ?_
 refine EVO.e1 (.hp 3 0) [(3, .own [aB false, .at (.slice none 0 0)])] ?_
 refine EVO.p1 (aI64 0) ?_
 refine EVO.done ?_
 refine CQ.n1 [2, 3, 4, 5] (mkS 55 0 [(2, .hp 0 0), (3, .hp 1 0), (4, .hp 2 0), (5, .hp 3 0)]) [.own (api_Int.c x'), .own (api_Int.c y), .own [aB false, .at (.slice none 0 0)], .own [aB false, .at (.slice none 0 0)]] ?_
 refine CQ.seq ?_
 replace hr := bd hr; obtain ⟨v1, hc2, hr⟩ := hr
 replace hr := bd hr; obtain ⟨v3, hc4, hr⟩ := hr
 refine CQ.regionT fine (callOf_ok [{ f := 100, args := [.agg (api_Int.c x')], H := [.own (api_Int.c x'), .own (api_Int.c y), .own [aB false, .at (.slice none 0 0)], .own [aB false, .at (.slice none 0 0)]], r := .loc (sU32 v1) [] [] 0 : CE }, { f := 100, args := [.agg (api_Int.c y)], H := [.own (api_Int.c x'), .own (api_Int.c y), .own [aB false, .at (.slice none 0 0)], .own [aB false, .at (.slice none 0 0)]], r := .loc (sU32 v3) [] [] 0 : CE }] (List.forall_mem_cons.2 ⟨(callOk_ref (l := []) (args' := [.agg (api_Int.c x')]) (SnL.cons (Sn.pure rfl) SnL.nil) (integer_groups_ok n x' v1 hc2)), (List.forall_mem_cons.2 ⟨(callOk_ref (l := []) (args' := [.agg (api_Int.c y)]) (SnL.cons (Sn.pure rfl) SnL.nil) (integer_groups_ok n y v3 hc4)), ce0⟩)⟩)) ?_
 refine EVT.p1 (.agg (api_Int.c x')) ?_
 refine EVT.cal (by kernel_rfl) (by kernel_rfl) (callOf_at (by kernel_rfl)) (by kernel_rfl) ?_
 refine EVT.p1 (.agg (api_Int.c y)) ?_
 refine EVT.cal (by kernel_rfl) (by kernel_rfl) (callOf_skip (fun _ h => by obtain e0 := integer_groups_inj h; rw [show v3 = v1 from Option.some.inj (hc4.symm.trans ((show integer_groups n y = integer_groups n x' from (congr rfl e0)).trans hc2))]) (callOf_at (by kernel_rfl))) (by kernel_rfl) ?_
 refine EVT.p1 (sU32 v1) ?_
 refine EVT.p1 (sU32 v3) ?_
 refine EVT.done ⟨by kernel_rfl, ?_⟩
 refine CQ.n1 [2, 3, 4, 5, 7, 8] (mkS 55 0 [(2, .hp 0 0), (3, .hp 1 0), (4, .hp 2 0), (5, .hp 3 0), (7, sU32 v1), (8, sU32 v3)]) [.own (api_Int.c x'), .own (api_Int.c y), .own [aB false, .at (.slice none 0 0)], .own [aB false, .at (.slice none 0 0)]] ?_
 refine CQ.seq ?_
 refine CQ.seq ?_
 refine CQ.r0 fine ?_
 refine EVO.p1 (sU32 v3) ?_
 refine EVO.p1 (aI64 (v3.length : Int)) ?_
 refine EVO.p1 (aB (((v3.length : Int) : Int) == 0)) ?_
 refine EVO.done ?_
 refine CQ.n1 [2, 3, 4, 5, 7, 8, 17] (mkS 55 0 [(2, .hp 0 0), (3, .hp 1 0), (4, .hp 2 0), (5, .hp 3 0), (7, sU32 v1), (8, sU32 v3), (17, aB (((v3.length : Int) : Int) == 0))]) [.own (api_Int.c x'), .own (api_Int.c y), .own [aB false, .at (.slice none 0 0)], .own [aB false, .at (.slice none 0 0)]] ?_
 refine CQ.cond (t := ((v3.length : Int) : Int) == 0) (by kernel_rfl) (fun hb5 => ?_) (fun hb5 => ?_)
 ·replace hr := cd_t hb5 hr
  refine CQ.seq ?_
  refine CQ.r0 fine ?_
  refine EVO.p1 (.agg [aB false, .at (.slice none 0 0)]) ?_
  refine EVO.p1 (.agg [aB false, .at (.slice none 0 0)]) ?_
  refine EVO.e1 (.unk) [(2, .own [aB false, .at (.slice none 0 0)])] ?_
  refine EVO.e1 (.unk) [(3, .own [aB false, .at (.slice none 0 0)])] ?_
  refine EVO.p1 (aI64 14) ?_
  refine EVO.done ?_
  refine CQ.ret ?_
  obtain rfl := Option.some.inj hr
  exact FinQ.ret (vs := [.agg [aB false, .at (.slice none 0 0)], .agg [aB false, .at (.slice none 0 0)], aI64 14]) (by kernel_rfl) (Sn.tup (SnL.cons (Sn.agg (SnL.cons (Sn.pure rfl) (SnL.cons Sn.nilsl SnL.nil))) (SnL.cons (Sn.agg (SnL.cons (Sn.pure rfl) (SnL.cons Sn.nilsl SnL.nil))) (SnL.cons (Sn.pure rfl) SnL.nil))))
 ·replace hr := cd_f hb5 hr
  refine CQ.skip ?_
  refine CQ.seq ?_
  replace hr := bd hr; obtain ⟨v6, hc7, hr⟩ := hr
  refine CQ.region fine (callOf_1 179 [sU32 v1, sU32 v3] [.own (api_Int.c x'), .own (api_Int.c y), .own [aB false, .at (.slice none 0 0)], .own [aB false, .at (.slice none 0 0)]] (.loc (.tup [sU32 v6.1, sU32 v6.2]) [] [] 0) (callOk_ref (l := []) (args' := [sU32 v1, sU32 v3]) (SnL.cons (Sn.pure rfl) (SnL.cons (Sn.pure rfl) SnL.nil)) (integer_over_ok n v1 v3 v6 hc7))) ?_
  refine EVO.p1 (sU32 v1) ?_
  refine EVO.p1 (sU32 v3) ?_
  refine EVO.c0 (by kernel_rfl) (callOf_at (by kernel_rfl)) ?_
  refine EVO.p1 (.tup [sU32 v6.1, sU32 v6.2]) ?_
  refine EVO.p1 (sU32 v6.1) ?_
  refine EVO.p1 (sU32 v6.2) ?_
  refine EVO.p1 (sU32 v6.1) ?_
  refine EVO.p1 (sU32 v6.2) ?_
  refine EVO.done ?_
  refine CQ.n1 [2, 3, 4, 5, 8, 9, 10] (mkS 55 0 [(2, .hp 0 0), (3, .hp 1 0), (4, .hp 2 0), (5, .hp 3 0), (8, sU32 v3), (9, sU32 v6.1), (10, sU32 v6.2)]) [.own (api_Int.c x'), .own (api_Int.c y), .own [aB false, .at (.slice none 0 0)], .own [aB false, .at (.slice none 0 0)]] ?_
  refine CQ.seq ?_
  replace hr := bd hr; obtain ⟨v8, hc9, hr⟩ := hr
  refine CQ.region fine (callOf_1 177 [sU32 v6.2] [.own (api_Int.c x'), .own (api_Int.c y), .own [aB false, .at (.slice none 0 0)], .own [aB false, .at (.slice none 0 0)]] (.loc (sU32 v8) [] [] 0) (callOk_ref (l := []) (args' := [sU32 v6.2]) (SnL.cons (Sn.pure rfl) SnL.nil) (slices_Clone_uint32_uint32_ok n v6.2 v8 hc9))) ?_
  refine EVO.p1 (sU32 v6.2) ?_
  refine EVO.c0 (by kernel_rfl) (callOf_at (by kernel_rfl)) ?_
  refine EVO.p1 (sU32 v8) ?_
  refine EVO.done ?_
  refine CQ.n1 [2, 3, 4, 5, 8, 9, 10] (mkS 55 0 [(2, .hp 0 0), (3, .hp 1 0), (4, .hp 2 0), (5, .hp 3 0), (8, sU32 v3), (9, sU32 v6.1), (10, sU32 v8)]) [.own (api_Int.c x'), .own (api_Int.c y), .own [aB false, .at (.slice none 0 0)], .own [aB false, .at (.slice none 0 0)]] ?_
  refine CQ.seq ?_
  refine CQ.seq ?_
  rcases Bool.eq_false_or_eq_true (decide ((v8.length : Int) > 0)) with hb10 | hb10
  ·replace hr := cd_t hb10 hr
   refine CQ.r0 fine ?_
   refine EVO.p1 (sU32 v8) ?_
   refine EVO.p1 (aI64 (v8.length : Int)) ?_
   refine EVO.p0 (v := aB true) (Eq.trans (b := some (.pure (aB (decide ((v8.length : Int) > 0))))) (by kernel_rfl) (by rw [hb10])) ?_
   refine EVO.p1 (aB true) ?_
   refine EVO.q1 (.hp 0 0) ?_
   refine EVO.q1 (aB x'.Negative) ?_
   refine EVO.q1 (.hp 1 0) ?_
   refine EVO.q1 (aB y.Negative) ?_
   refine EVO.q1 (aB (x'.Negative != y.Negative)) ?_
   refine EVO.p1 (aB (x'.Negative != y.Negative)) ?_
   refine EVO.done ?_
   refine CQ.n1 [2, 3, 4, 5, 8, 9, 10, 37] (mkS 55 0 [(2, .hp 0 0), (3, .hp 1 0), (4, .hp 2 0), (5, .hp 3 0), (8, sU32 v3), (9, sU32 v6.1), (10, sU32 v8), (37, aB (x'.Negative != y.Negative))]) [.own (api_Int.c x'), .own (api_Int.c y), .own [aB false, .at (.slice none 0 0)], .own [aB false, .at (.slice none 0 0)]] ?_
   refine CQ.cond (t := x'.Negative != y.Negative) (by kernel_rfl) (fun hb11 => ?_) (fun hb11 => ?_)
   ·replace hr := cd_t hb11 hr
    replace hr := bd hr; obtain ⟨v12, hc13, hr⟩ := hr
    replace hr := bd hr; obtain ⟨v14, hc15, hr⟩ := hr
    refine CQ.region fine (callOf_ok [{ f := 171, args := [sU32 v6.1, .hs 4 0 1 1], H := [.own (api_Int.c x'), .own (api_Int.c y), .own [aB false, .at (.slice none 0 0)], .own [aB false, .at (.slice none 0 0)], .own [aU32 1]], r := .loc (sU32 v12) [(4, .fix [aU32 1])] [4] 0 : CE }, { f := 173, args := [sU32 v3, sU32 v8], H := [.own (api_Int.c x'), .own (api_Int.c y), .own [aB false, .at (.slice none 0 0)], .own [aB false, .at (.slice none 0 0)], .fix [aU32 1]], r := .loc (sU32 v14) [] [] 0 : CE }] (List.forall_mem_cons.2 ⟨(callOk_ref (l := [4]) (args' := [sU32 v6.1, sU32 [1]]) (SnL.cons (Sn.pure rfl) (SnL.cons (Sn.hs rfl (.inl rfl) (SnC.cons (Sn.pure rfl) SnC.nil) (fun h => nomatch h)) SnL.nil)) (integer_plus_ok n v6.1 [1] v12 hc13)), (List.forall_mem_cons.2 ⟨(callOk_ref (l := []) (args' := [sU32 v3, sU32 v8]) (SnL.cons (Sn.pure rfl) (SnL.cons (Sn.pure rfl) SnL.nil)) (integer_minus_ok n v3 v8 v14 hc15)), ce0⟩)⟩)) ?_
    refine EVO.p1 (sU32 v6.1) ?_
    refine EVO.e1 (.hs 4 0 1 1) [(4, .own [aU32 1])] ?_
    refine EVO.c0 (by kernel_rfl) (callOf_at (by kernel_rfl)) ?_
    refine EVO.p1 (sU32 v3) ?_
    refine EVO.p1 (sU32 v8) ?_
    refine EVO.c0 (by kernel_rfl) (callOf_skip (fun h _ => absurd (show (173 : Nat) = 171 from h) (by decide)) (callOf_at (by kernel_rfl))) ?_
    refine EVO.p1 (sU32 v12) ?_
    refine EVO.p1 (sU32 v14) ?_
    refine EVO.done ?_
    refine CQ.n1 [2, 3, 4, 5, 9, 10] (mkS 55 0 [(2, .hp 0 0), (3, .hp 1 0), (4, .hp 2 0), (5, .hp 3 0), (9, sU32 v12), (10, sU32 v14)]) [.own (api_Int.c x'), .own (api_Int.c y), .own [aB false, .at (.slice none 0 0)], .own [aB false, .at (.slice none 0 0)], .fix [aU32 1]] ?_
    refine CQ.seq ?_
    replace hr := bd hr; obtain ⟨v16, hc17, hr⟩ := hr
    replace hr := bd hr; obtain ⟨v18, hc19, hr⟩ := hr
    refine CQ.regionT fine (callOf_ok [{ f := 95, args := [aB true, sU32 v12], H := [.own (api_Int.c x'), .own (api_Int.c y), .own [aB false, .at (.slice none 0 0)], .own [aB false, .at (.slice none 0 0)], .fix [aU32 1]], r := .loc (.agg (api_Int.c v16)) [] [] 0 : CE }, { f := 95, args := [aB y.Negative, sU32 v14], H := [.own (api_Int.c x'), .own (api_Int.c y), .own [aB false, .at (.slice none 0 0)], .own [aB false, .at (.slice none 0 0)], .fix [aU32 1]], r := .loc (.agg (api_Int.c v18)) [] [] 0 : CE }] (List.forall_mem_cons.2 ⟨(callOk_ref (l := []) (args' := [aB true, sU32 v12]) (SnL.cons (Sn.pure rfl) (SnL.cons (Sn.pure rfl) SnL.nil)) (integer_made_ok n true v12 v16 hc17)), (List.forall_mem_cons.2 ⟨(callOk_ref (l := []) (args' := [aB y.Negative, sU32 v14]) (SnL.cons (Sn.pure rfl) (SnL.cons (Sn.pure rfl) SnL.nil)) (integer_made_ok n y.Negative v14 v18 hc19)), ce0⟩)⟩)) ?_
    refine EVT.p1 (.hp 0 0) ?_
    refine EVT.p1 (aB x'.Negative) ?_
    refine EVT.p1 (.hp 1 0) ?_
    refine EVT.p1 (aB y.Negative) ?_
    refine EVT.pure (v := aB true) (by kernel_rfl) (Eq.trans (b := some (.pure (aB (x'.Negative != y.Negative)))) (by kernel_rfl) (by rw [hb11])) (by kernel_rfl) ?_
    refine EVT.p1 (sU32 v12) ?_
    refine EVT.cal (by kernel_rfl) (by kernel_rfl) (callOf_at (by kernel_rfl)) (by kernel_rfl) ?_
    refine EVT.p1 (.hp 1 0) ?_
    refine EVT.p1 (aB y.Negative) ?_
    refine EVT.p1 (sU32 v14) ?_
    refine EVT.cal (by kernel_rfl) (by kernel_rfl) (callOf_skip (fun _ h => by obtain ⟨e0, e1⟩ := integer_made_inj h; rw [show v18 = v16 from Option.some.inj (hc19.symm.trans ((show integer_made n y.Negative v14 = integer_made n true v12 from (congr (congr rfl e0) e1)).trans hc17))]) (callOf_at (by kernel_rfl))) (by kernel_rfl) ?_
    refine EVT.e1 (.unk) [(2, .own (api_Int.c v16))] ?_
    refine EVT.e1 (.unk) [(3, .own (api_Int.c v18))] ?_
    refine EVT.p1 (aI64 0) ?_
    refine EVT.done ⟨by kernel_rfl, ?_⟩
    refine CQ.ret ?_
    obtain rfl := Option.some.inj hr
    exact FinQ.ret (vs := [.agg (api_Int.c v16), .agg (api_Int.c v18), aI64 0]) (by kernel_rfl) (Sn.tup (SnL.cons (Sn.pure rfl) (SnL.cons (Sn.pure rfl) (SnL.cons (Sn.pure rfl) SnL.nil))))
   ·replace hr := cd_f hb11 hr
    refine CQ.skip ?_
    refine CQ.seq ?_
    replace hr := bd hr; obtain ⟨v20, hc21, hr⟩ := hr
    replace hr := bd hr; obtain ⟨v22, hc23, hr⟩ := hr
    refine CQ.regionT fine (callOf_ok [{ f := 95, args := [aB false, sU32 v6.1], H := [.own (api_Int.c x'), .own (api_Int.c y), .own [aB false, .at (.slice none 0 0)], .own [aB false, .at (.slice none 0 0)]], r := .loc (.agg (api_Int.c v20)) [] [] 0 : CE }, { f := 95, args := [aB y.Negative, sU32 v8], H := [.own (api_Int.c x'), .own (api_Int.c y), .own [aB false, .at (.slice none 0 0)], .own [aB false, .at (.slice none 0 0)]], r := .loc (.agg (api_Int.c v22)) [] [] 0 : CE }] (List.forall_mem_cons.2 ⟨(callOk_ref (l := []) (args' := [aB false, sU32 v6.1]) (SnL.cons (Sn.pure rfl) (SnL.cons (Sn.pure rfl) SnL.nil)) (integer_made_ok n false v6.1 v20 hc21)), (List.forall_mem_cons.2 ⟨(callOk_ref (l := []) (args' := [aB y.Negative, sU32 v8]) (SnL.cons (Sn.pure rfl) (SnL.cons (Sn.pure rfl) SnL.nil)) (integer_made_ok n y.Negative v8 v22 hc23)), ce0⟩)⟩)) ?_
    refine EVT.p1 (.hp 0 0) ?_
    refine EVT.p1 (aB x'.Negative) ?_
    refine EVT.p1 (.hp 1 0) ?_
    refine EVT.p1 (aB y.Negative) ?_
    refine EVT.pure (v := aB false) (by kernel_rfl) (Eq.trans (b := some (.pure (aB (x'.Negative != y.Negative)))) (by kernel_rfl) (by rw [hb11])) (by kernel_rfl) ?_
    refine EVT.p1 (sU32 v6.1) ?_
    refine EVT.cal (by kernel_rfl) (by kernel_rfl) (callOf_at (by kernel_rfl)) (by kernel_rfl) ?_
    refine EVT.p1 (.hp 1 0) ?_
    refine EVT.p1 (aB y.Negative) ?_
    refine EVT.p1 (sU32 v8) ?_
    refine EVT.cal (by kernel_rfl) (by kernel_rfl) (callOf_skip (fun _ h => by obtain ⟨e0, e1⟩ := integer_made_inj h; rw [show v22 = v20 from Option.some.inj (hc23.symm.trans ((show integer_made n y.Negative v8 = integer_made n false v6.1 from (congr (congr rfl e0) e1)).trans hc21))]) (callOf_at (by kernel_rfl))) (by kernel_rfl) ?_
    refine EVT.e1 (.unk) [(2, .own (api_Int.c v20))] ?_
    refine EVT.e1 (.unk) [(3, .own (api_Int.c v22))] ?_
    refine EVT.p1 (aI64 0) ?_
    refine EVT.done ⟨by kernel_rfl, ?_⟩
    refine CQ.ret ?_
    obtain rfl := Option.some.inj hr
    exact FinQ.ret (vs := [.agg (api_Int.c v20), .agg (api_Int.c v22), aI64 0]) (by kernel_rfl) (Sn.tup (SnL.cons (Sn.pure rfl) (SnL.cons (Sn.pure rfl) (SnL.cons (Sn.pure rfl) SnL.nil))))
  ·replace hr := cd_f hb10 hr
   refine CQ.r0 fine ?_
   refine EVO.p1 (sU32 v8) ?_
   refine EVO.p1 (aI64 (v8.length : Int)) ?_
   refine EVO.p0 (v := aB false) (Eq.trans (b := some (.pure (aB (decide ((v8.length : Int) > 0))))) (by kernel_rfl) (by rw [hb10])) ?_
   refine EVO.p1 (aB false) ?_
   refine EVO.s1 ?_
   refine EVO.s1 ?_
   refine EVO.s1 ?_
   refine EVO.s1 ?_
   refine EVO.s1 ?_
   refine EVO.p1 (aB false) ?_
   refine EVO.done ?_
   refine CQ.n1 [2, 3, 4, 5, 8, 9, 10, 37] (mkS 55 0 [(2, .hp 0 0), (3, .hp 1 0), (4, .hp 2 0), (5, .hp 3 0), (8, sU32 v3), (9, sU32 v6.1), (10, sU32 v8), (37, aB false)]) [.own (api_Int.c x'), .own (api_Int.c y), .own [aB false, .at (.slice none 0 0)], .own [aB false, .at (.slice none 0 0)]] ?_
   refine CQ.cF (by kernel_rfl) ?_
   refine CQ.skip ?_
   refine CQ.seq ?_
   replace hr := bd hr; obtain ⟨v24, hc25, hr⟩ := hr
   replace hr := bd hr; obtain ⟨v26, hc27, hr⟩ := hr
   refine CQ.regionT fine (callOf_ok [{ f := 95, args := [aB (x'.Negative != y.Negative), sU32 v6.1], H := [.own (api_Int.c x'), .own (api_Int.c y), .own [aB false, .at (.slice none 0 0)], .own [aB false, .at (.slice none 0 0)]], r := .loc (.agg (api_Int.c v24)) [] [] 0 : CE }, { f := 95, args := [aB y.Negative, sU32 v8], H := [.own (api_Int.c x'), .own (api_Int.c y), .own [aB false, .at (.slice none 0 0)], .own [aB false, .at (.slice none 0 0)]], r := .loc (.agg (api_Int.c v26)) [] [] 0 : CE }] (List.forall_mem_cons.2 ⟨(callOk_ref (l := []) (args' := [aB (x'.Negative != y.Negative), sU32 v6.1]) (SnL.cons (Sn.pure rfl) (SnL.cons (Sn.pure rfl) SnL.nil)) (integer_made_ok n (x'.Negative != y.Negative) v6.1 v24 hc25)), (List.forall_mem_cons.2 ⟨(callOk_ref (l := []) (args' := [aB y.Negative, sU32 v8]) (SnL.cons (Sn.pure rfl) (SnL.cons (Sn.pure rfl) SnL.nil)) (integer_made_ok n y.Negative v8 v26 hc27)), ce0⟩)⟩)) ?_
   refine EVT.p1 (.hp 0 0) ?_
   refine EVT.p1 (aB x'.Negative) ?_
   refine EVT.p1 (.hp 1 0) ?_
   refine EVT.p1 (aB y.Negative) ?_
   refine EVT.p1 (aB (x'.Negative != y.Negative)) ?_
   refine EVT.p1 (sU32 v6.1) ?_
   refine EVT.cal (by kernel_rfl) (by kernel_rfl) (callOf_at (by kernel_rfl)) (by kernel_rfl) ?_
   refine EVT.p1 (.hp 1 0) ?_
   refine EVT.p1 (aB y.Negative) ?_
   refine EVT.p1 (sU32 v8) ?_
   refine EVT.cal (by kernel_rfl) (by kernel_rfl) (callOf_skip (fun _ h => by obtain ⟨e0, e1⟩ := integer_made_inj h; rw [show v26 = v24 from Option.some.inj (hc27.symm.trans ((show integer_made n y.Negative v8 = integer_made n (x'.Negative != y.Negative) v6.1 from (congr (congr rfl e0) e1)).trans hc25))]) (callOf_at (by kernel_rfl))) (by kernel_rfl) ?_
   refine EVT.e1 (.unk) [(2, .own (api_Int.c v24))] ?_
   refine EVT.e1 (.unk) [(3, .own (api_Int.c v26))] ?_
   refine EVT.p1 (aI64 0) ?_
   refine EVT.done ⟨by kernel_rfl, ?_⟩
   refine CQ.ret ?_
   obtain rfl := Option.some.inj hr
   exact FinQ.ret (vs := [.agg (api_Int.c v24), .agg (api_Int.c v26), aI64 0]) (by kernel_rfl) (Sn.tup (SnL.cons (Sn.pure rfl) (SnL.cons (Sn.pure rfl) (SnL.cons (Sn.pure rfl) SnL.nil))))

theorem fraction_reduced_ok (n : Nat) (num : api_Int) (den : api_Int) (r : api_Rat) (hr : fraction_reduced n num den = some r) : FnOk Tryz.prog 98 [.agg [.at (.bool num.Negative), slT (iC .u32) num.Groups], .agg [.at (.bool den.Negative), slT (iC .u32) den.Groups]] (.agg [.at (.bool r.Num.Negative), slT (iC .u32) r.Num.Groups, .at (.bool r.Den.Negative), slT (iC .u32) r.Den.Groups]) := by
 unfold fraction_reduced at hr
 refine FnOk.body fine Tryz.func98 (c := (Tryz.f98.body).getD .skip) rfl (s := mkS 33 0 [(0, .agg (api_Int.c num)), (1, .agg (api_Int.c den))]) (by kernel_rfl) (rs := [.cell 4 39]) rfl ?_
 unfold Tryz.f98
 simp only [Option.getD_some]
 refine CQ.seq ?_
 refine CQ.r0 fine ?_
 refine EVO.e1 (.hp 0 0) [(0, .own (api_Int.c num))] ?_
 refine EVO.e1 (.hp 1 0) [(1, .own (api_Int.c den))] ?_
 refine EVO.e1 (.hp 2 0) [(2, .own [aB false, .at (.slice none 0 0), aB false, .at (.slice none 0 0)])] ?_
 refine EVO.done ?_
 refine CQ.n1 [2, 3, 4] (mkS 33 0 [(2, .hp 0 0), (3, .hp 1 0), (4, .hp 2 0)]) [.own (api_Int.c num), .own (api_Int.c den), .own [aB false, .at (.slice none 0 0), aB false, .at (.slice none 0 0)]] ?_
 refine CQ.seq ?_
 refine CQ.seq ?_
 replace hr := bd hr; obtain ⟨v1, hc2, hr⟩ := hr
 refine CQ.region fine (callOf_1 91 [.agg (api_Int.c den)] [.own (api_Int.c num), .own (api_Int.c den), .own [aB false, .at (.slice none 0 0), aB false, .at (.slice none 0 0)]] (.loc (aI64 v1) [] [] 0) (callOk_val (l := []) (args' := [.agg (api_Int.c den)]) rfl (SnL.cons (Sn.pure rfl) SnL.nil) (integer_Sign_ok n den v1 hc2))) ?_
 refine EVO.p1 (.agg (api_Int.c den)) ?_
 refine EVO.c0 (by kernel_rfl) (callOf_at (by kernel_rfl)) ?_
 refine EVO.p1 (aB (decide (v1 < 0))) ?_
 refine EVO.done ?_
 refine CQ.n1 [2, 3, 4, 8] (mkS 33 0 [(2, .hp 0 0), (3, .hp 1 0), (4, .hp 2 0), (8, aB (decide (v1 < 0)))]) [.own (api_Int.c num), .own (api_Int.c den), .own [aB false, .at (.slice none 0 0), aB false, .at (.slice none 0 0)]] ?_
 refine CQ.cond (t := decide (v1 < 0)) (by kernel_rfl) (fun hb3 => ?_) (fun hb3 => ?_)
 ·replace hr := cd_t hb3 hr
  replace hr := bd hr; obtain ⟨v4, hc5, hr⟩ := hr
  replace hr := bd hr; obtain ⟨v6, hc7, hr⟩ := hr
  refine CQ.regionT fine (callOf_ok [{ f := 133, args := [.agg (api_Int.c num)], H := [.own (api_Int.c num), .own (api_Int.c den), .own [aB false, .at (.slice none 0 0), aB false, .at (.slice none 0 0)]], r := .loc (.agg (api_Int.c v4)) [] [] 0 : CE }, { f := 133, args := [.agg (api_Int.c den)], H := [.own (api_Int.c num), .own (api_Int.c den), .own [aB false, .at (.slice none 0 0), aB false, .at (.slice none 0 0)]], r := .loc (.agg (api_Int.c v6)) [] [] 0 : CE }] (List.forall_mem_cons.2 ⟨(callOk_ref (l := []) (args' := [.agg (api_Int.c num)]) (SnL.cons (Sn.pure rfl) SnL.nil) (integer_Neg_ok n num v4 hc5)), (List.forall_mem_cons.2 ⟨(callOk_ref (l := []) (args' := [.agg (api_Int.c den)]) (SnL.cons (Sn.pure rfl) SnL.nil) (integer_Neg_ok n den v6 hc7)), ce0⟩)⟩)) ?_
  refine EVT.p1 (.agg (api_Int.c num)) ?_
  refine EVT.cal (by kernel_rfl) (by kernel_rfl) (callOf_at (by kernel_rfl)) (by kernel_rfl) ?_
  refine EVT.p1 (.agg (api_Int.c den)) ?_
  refine EVT.cal (by kernel_rfl) (by kernel_rfl) (callOf_skip (fun _ h => by obtain e0 := integer_Neg_inj h; rw [show v6 = v4 from Option.some.inj (hc7.symm.trans ((show integer_Neg n den = integer_Neg n num from (congr rfl e0)).trans hc5))]) (callOf_at (by kernel_rfl))) (by kernel_rfl) ?_
  refine EVT.e1 (.unk) [(0, .own (api_Int.c v4))] ?_
  refine EVT.e1 (.unk) [(1, .own (api_Int.c v6))] ?_
  refine EVT.done ⟨by kernel_rfl, ?_⟩
  refine CQ.n1 [2, 3, 4] (mkS 33 0 [(2, .hp 0 0), (3, .hp 1 0), (4, .hp 2 0)]) [.own (api_Int.c v4), .own (api_Int.c v6), .own [aB false, .at (.slice none 0 0), aB false, .at (.slice none 0 0)]] ?_
  refine CQ.seq ?_
  replace hr := bd hr; obtain ⟨v8, hc9, hr⟩ := hr
  refine CQ.region fine (callOf_1 134 [.agg (api_Int.c v4), .agg (api_Int.c v6)] [.own (api_Int.c v4), .own (api_Int.c v6), .own [aB false, .at (.slice none 0 0), aB false, .at (.slice none 0 0)]] (.loc (.agg (api_Int.c v8)) [] [] 0) (callOk_ref (l := []) (args' := [.agg (api_Int.c v4), .agg (api_Int.c v6)]) (SnL.cons (Sn.pure rfl) (SnL.cons (Sn.pure rfl) SnL.nil)) (integer_Gcd_ok n v4 v6 v8 hc9))) ?_
  refine EVO.p1 (.agg (api_Int.c v4)) ?_
  refine EVO.p1 (.agg (api_Int.c v6)) ?_
  refine EVO.c0 (by kernel_rfl) (callOf_at (by kernel_rfl)) ?_
  refine EVO.e1 (.hp 3 0) [(3, .own [aB false, .at (.slice none 0 0)])] ?_
  refine EVO.e1 (.unk) [(3, .own (api_Int.c v8))] ?_
  refine EVO.done ?_
  refine CQ.n1 [2, 3, 4, 5] (mkS 33 0 [(2, .hp 0 0), (3, .hp 1 0), (4, .hp 2 0), (5, .hp 3 0)]) [.own (api_Int.c v4), .own (api_Int.c v6), .own [aB false, .at (.slice none 0 0), aB false, .at (.slice none 0 0)], .own (api_Int.c v8)] ?_
  refine CQ.seq ?_
  replace hr := bd hr; obtain ⟨v10, hc11, hr⟩ := hr
  refine CQ.region fine (callOf_1 135 [.agg (api_Int.c v4), .agg (api_Int.c v8)] [.own (api_Int.c v4), .own (api_Int.c v6), .own [aB false, .at (.slice none 0 0), aB false, .at (.slice none 0 0)], .own (api_Int.c v8)] (.loc (.tup [.agg (api_Int.c v10.1), .agg (api_Int.c v10.2.1), aI64 v10.2.2]) [] [] 0) (callOk_ref (l := []) (args' := [.agg (api_Int.c v4), .agg (api_Int.c v8)]) (SnL.cons (Sn.pure rfl) (SnL.cons (Sn.pure rfl) SnL.nil)) (integer_Divide_ok n v4 v8 v10 hc11))) ?_
  refine EVO.p1 (.agg (api_Int.c v4)) ?_
  refine EVO.p1 (.agg (api_Int.c v8)) ?_
  refine EVO.c0 (by kernel_rfl) (callOf_at (by kernel_rfl)) ?_
  refine EVO.p1 (.tup [.agg (api_Int.c v10.1), .agg (api_Int.c v10.2.1), aI64 v10.2.2]) ?_
  refine EVO.p1 (.agg (api_Int.c v10.1)) ?_
  refine EVO.p1 (.agg (api_Int.c v10.2.1)) ?_
  refine EVO.p1 (aI64 v10.2.2) ?_
  refine EVO.e1 (.unk) [(0, .own (api_Int.c v10.1))] ?_
  refine EVO.done ?_
  refine CQ.n1 [2, 3, 4, 5] (mkS 33 0 [(2, .hp 0 0), (3, .hp 1 0), (4, .hp 2 0), (5, .hp 3 0)]) [.own (api_Int.c v10.1), .own (api_Int.c v6), .own [aB false, .at (.slice none 0 0), aB false, .at (.slice none 0 0)], .own (api_Int.c v8)] ?_
  refine CQ.seq ?_
  replace hr := bd hr; obtain ⟨v12, hc13, hr⟩ := hr
  refine CQ.region fine (callOf_1 135 [.agg (api_Int.c v6), .agg (api_Int.c v8)] [.own (api_Int.c v10.1), .own (api_Int.c v6), .own [aB false, .at (.slice none 0 0), aB false, .at (.slice none 0 0)], .own (api_Int.c v8)] (.loc (.tup [.agg (api_Int.c v12.1), .agg (api_Int.c v12.2.1), aI64 v12.2.2]) [] [] 0) (callOk_ref (l := []) (args' := [.agg (api_Int.c v6), .agg (api_Int.c v8)]) (SnL.cons (Sn.pure rfl) (SnL.cons (Sn.pure rfl) SnL.nil)) (integer_Divide_ok n v6 v8 v12 hc13))) ?_
  refine EVO.p1 (.agg (api_Int.c v6)) ?_
  refine EVO.p1 (.agg (api_Int.c v8)) ?_
  refine EVO.c0 (by kernel_rfl) (callOf_at (by kernel_rfl)) ?_
  refine EVO.p1 (.tup [.agg (api_Int.c v12.1), .agg (api_Int.c v12.2.1), aI64 v12.2.2]) ?_
  refine EVO.p1 (.agg (api_Int.c v12.1)) ?_
  refine EVO.p1 (.agg (api_Int.c v12.2.1)) ?_
  refine EVO.p1 (aI64 v12.2.2) ?_
  refine EVO.e1 (.unk) [(1, .own (api_Int.c v12.1))] ?_
  refine EVO.done ?_
  refine CQ.n1 [2, 3, 4] (mkS 33 0 [(2, .hp 0 0), (3, .hp 1 0), (4, .hp 2 0)]) [.own (api_Int.c v10.1), .own (api_Int.c v12.1), .own [aB false, .at (.slice none 0 0), aB false, .at (.slice none 0 0)], .own (api_Int.c v8)] ?_
  refine CQ.seq ?_
  refine CQ.r0 fine ?_
  refine EVO.p1 (.agg (api_Int.c v10.1)) ?_
  refine EVO.p1 (.agg (api_Int.c v12.1)) ?_
  refine EVO.p1 (.agg [aB v10.1.Negative, sU32 v10.1.Groups, aB v12.1.Negative, sU32 v12.1.Groups]) ?_
  refine EVO.e1 (.unk) [(2, .own [aB v10.1.Negative, sU32 v10.1.Groups, aB v12.1.Negative, sU32 v12.1.Groups])] ?_
  refine EVO.done ?_
  refine CQ.ret ?_
  obtain rfl := Option.some.inj hr
  exact FinQ.r1 [.agg [aB v10.1.Negative, sU32 v10.1.Groups, aB v12.1.Negative, sU32 v12.1.Groups]]
 ·replace hr := cd_f hb3 hr
  refine CQ.skip ?_
  refine CQ.seq ?_
  replace hr := bd hr; obtain ⟨v14, hc15, hr⟩ := hr
  refine CQ.region fine (callOf_1 134 [.agg (api_Int.c num), .agg (api_Int.c den)] [.own (api_Int.c num), .own (api_Int.c den), .own [aB false, .at (.slice none 0 0), aB false, .at (.slice none 0 0)]] (.loc (.agg (api_Int.c v14)) [] [] 0) (callOk_ref (l := []) (args' := [.agg (api_Int.c num), .agg (api_Int.c den)]) (SnL.cons (Sn.pure rfl) (SnL.cons (Sn.pure rfl) SnL.nil)) (integer_Gcd_ok n num den v14 hc15))) ?_
  refine EVO.p1 (.agg (api_Int.c num)) ?_
  refine EVO.p1 (.agg (api_Int.c den)) ?_
  refine EVO.c0 (by kernel_rfl) (callOf_at (by kernel_rfl)) ?_
  refine EVO.e1 (.hp 3 0) [(3, .own [aB false, .at (.slice none 0 0)])] ?_
  refine EVO.e1 (.unk) [(3, .own (api_Int.c v14))] ?_
  refine EVO.done ?_
  refine CQ.n1 [2, 3, 4, 5] (mkS 33 0 [(2, .hp 0 0), (3, .hp 1 0), (4, .hp 2 0), (5, .hp 3 0)]) [.own (api_Int.c num), .own (api_Int.c den), .own [aB false, .at (.slice none 0 0), aB false, .at (.slice none 0 0)], .own (api_Int.c v14)] ?_
  refine CQ.seq ?_
  replace hr := bd hr; obtain ⟨v16, hc17, hr⟩ := hr
  refine CQ.region fine (callOf_1 135 [.agg (api_Int.c num), .agg (api_Int.c v14)] [.own (api_Int.c num), .own (api_Int.c den), .own [aB false, .at (.slice none 0 0), aB false, .at (.slice none 0 0)], .own (api_Int.c v14)] (.loc (.tup [.agg (api_Int.c v16.1), .agg (api_Int.c v16.2.1), aI64 v16.2.2]) [] [] 0) (callOk_ref (l := []) (args' := [.agg (api_Int.c num), .agg (api_Int.c v14)]) (SnL.cons (Sn.pure rfl) (SnL.cons (Sn.pure rfl) SnL.nil)) (integer_Divide_ok n num v14 v16 hc17))) ?_
  refine EVO.p1 (.agg (api_Int.c num)) ?_
  refine EVO.p1 (.agg (api_Int.c v14)) ?_
  refine EVO.c0 (by kernel_rfl) (callOf_at (by kernel_rfl)) ?_
  refine EVO.p1 (.tup [.agg (api_Int.c v16.1), .agg (api_Int.c v16.2.1), aI64 v16.2.2]) ?_
  refine EVO.p1 (.agg (api_Int.c v16.1)) ?_
  refine EVO.p1 (.agg (api_Int.c v16.2.1)) ?_
  refine EVO.p1 (aI64 v16.2.2) ?_
  refine EVO.e1 (.unk) [(0, .own (api_Int.c v16.1))] ?_
  refine EVO.done ?_
  refine CQ.n1 [2, 3, 4, 5] (mkS 33 0 [(2, .hp 0 0), (3, .hp 1 0), (4, .hp 2 0), (5, .hp 3 0)]) [.own (api_Int.c v16.1), .own (api_Int.c den), .own [aB false, .at (.slice none 0 0), aB false, .at (.slice none 0 0)], .own (api_Int.c v14)] ?_
  refine CQ.seq ?_
  replace hr := bd hr; obtain ⟨v18, hc19, hr⟩ := hr
  refine CQ.region fine (callOf_1 135 [.agg (api_Int.c den), .agg (api_Int.c v14)] [.own (api_Int.c v16.1), .own (api_Int.c den), .own [aB false, .at (.slice none 0 0), aB false, .at (.slice none 0 0)], .own (api_Int.c v14)] (.loc (.tup [.agg (api_Int.c v18.1), .agg (api_Int.c v18.2.1), aI64 v18.2.2]) [] [] 0) (callOk_ref (l := []) (args' := [.agg (api_Int.c den), .agg (api_Int.c v14)]) (SnL.cons (Sn.pure rfl) (SnL.cons (Sn.pure rfl) SnL.nil)) (integer_Divide_ok n den v14 v18 hc19))) ?_
  refine EVO.p1 (.agg (api_Int.c den)) ?_
  refine EVO.p1 (.agg (api_Int.c v14)) ?_
  refine EVO.c0 (by kernel_rfl) (callOf_at (by kernel_rfl)) ?_
  refine EVO.p1 (.tup [.agg (api_Int.c v18.1), .agg (api_Int.c v18.2.1), aI64 v18.2.2]) ?_
  refine EVO.p1 (.agg (api_Int.c v18.1)) ?_
  refine EVO.p1 (.agg (api_Int.c v18.2.1)) ?_
  refine EVO.p1 (aI64 v18.2.2) ?_
  refine EVO.e1 (.unk) [(1, .own (api_Int.c v18.1))] ?_
  refine EVO.done ?_
  refine CQ.n1 [2, 3, 4] (mkS 33 0 [(2, .hp 0 0), (3, .hp 1 0), (4, .hp 2 0)]) [.own (api_Int.c v16.1), .own (api_Int.c v18.1), .own [aB false, .at (.slice none 0 0), aB false, .at (.slice none 0 0)], .own (api_Int.c v14)] ?_
  refine CQ.seq ?_
  refine CQ.r0 fine ?_
  refine EVO.p1 (.agg (api_Int.c v16.1)) ?_
  refine EVO.p1 (.agg (api_Int.c v18.1)) ?_
  refine EVO.p1 (.agg [aB v16.1.Negative, sU32 v16.1.Groups, aB v18.1.Negative, sU32 v18.1.Groups]) ?_
  refine EVO.e1 (.unk) [(2, .own [aB v16.1.Negative, sU32 v16.1.Groups, aB v18.1.Negative, sU32 v18.1.Groups])] ?_
  refine EVO.done ?_
  refine CQ.ret ?_
  obtain rfl := Option.some.inj hr
  exact FinQ.r1 [.agg [aB v16.1.Negative, sU32 v16.1.Groups, aB v18.1.Negative, sU32 v18.1.Groups]]

theorem fraction_New_ok (n : Nat) (num : api_Int) (den : api_Int) (r : api_Rat × Int) (hr : fraction_New n num den = some r) : FnOk Tryz.prog 50 [.agg [.at (.bool num.Negative), slT (iC .u32) num.Groups], .agg [.at (.bool den.Negative), slT (iC .u32) den.Groups]] (.tup [.agg [.at (.bool r.1.Num.Negative), slT (iC .u32) r.1.Num.Groups, .at (.bool r.1.Den.Negative), slT (iC .u32) r.1.Den.Groups], .at (.int .i64 r.2)]) := by
 unfold fraction_New at hr
 refine FnOk.body fine Tryz.func50 (c := (Tryz.f50.body).getD .skip) rfl (s := mkS 17 0 [(0, .agg (api_Int.c num)), (1, .agg (api_Int.c den))]) (by kernel_rfl) (rs := [.cell 4 39, .tmp 5]) rfl ?_
 unfold Tryz.f50
 simp only [Option.getD_some]
 refine CQ.seq ?_
 refine CQ.r0 fine ?_
 refine EVO.e1 (.hp 0 0) [(0, .own (api_Int.c num))] ?_
 refine EVO.e1 (.hp 1 0) [(1, .own (api_Int.c den))] ?_
 refine EVO.e1 (.hp 2 0) [(2, .own [aB false, .at (.slice none 0 0), aB false, .at (.slice none 0 0)])] ?_
 refine EVO.p1 (aI64 0) ?_
 refine EVO.done ?_
 refine CQ.n1 [2, 3, 4] (mkS 17 0 [(2, .hp 0 0), (3, .hp 1 0), (4, .hp 2 0)]) [.own (api_Int.c num), .own (api_Int.c den), .own [aB false, .at (.slice none 0 0), aB false, .at (.slice none 0 0)]] ?_
 refine CQ.seq ?_
 replace hr := bd hr; obtain ⟨v1, hc2, hr⟩ := hr
 replace hr := bd hr; obtain ⟨v3, hc4, hr⟩ := hr
 refine CQ.regionT fine (callOf_ok [{ f := 97, args := [.agg (api_Int.c num)], H := [.own (api_Int.c num), .own (api_Int.c den), .own [aB false, .at (.slice none 0 0), aB false, .at (.slice none 0 0)]], r := .loc (.agg (api_Int.c v1)) [] [] 0 : CE }, { f := 97, args := [.agg (api_Int.c den)], H := [.own (api_Int.c num), .own (api_Int.c den), .own [aB false, .at (.slice none 0 0), aB false, .at (.slice none 0 0)]], r := .loc (.agg (api_Int.c v3)) [] [] 0 : CE }] (List.forall_mem_cons.2 ⟨(callOk_ref (l := []) (args' := [.agg (api_Int.c num)]) (SnL.cons (Sn.pure rfl) SnL.nil) (fraction_counted_ok n num v1 hc2)), (List.forall_mem_cons.2 ⟨(callOk_ref (l := []) (args' := [.agg (api_Int.c den)]) (SnL.cons (Sn.pure rfl) SnL.nil) (fraction_counted_ok n den v3 hc4)), ce0⟩)⟩)) ?_
 refine EVT.p1 (.agg (api_Int.c num)) ?_
 refine EVT.cal (by kernel_rfl) (by kernel_rfl) (callOf_at (by kernel_rfl)) (by kernel_rfl) ?_
 refine EVT.p1 (.agg (api_Int.c den)) ?_
 refine EVT.cal (by kernel_rfl) (by kernel_rfl) (callOf_skip (fun _ h => by obtain e0 := fraction_counted_inj h; rw [show v3 = v1 from Option.some.inj (hc4.symm.trans ((show fraction_counted n den = fraction_counted n num from (congr rfl e0)).trans hc2))]) (callOf_at (by kernel_rfl))) (by kernel_rfl) ?_
 refine EVT.e1 (.unk) [(0, .own (api_Int.c v1))] ?_
 refine EVT.e1 (.unk) [(1, .own (api_Int.c v3))] ?_
 refine EVT.done ⟨by kernel_rfl, ?_⟩
 refine CQ.n1 [2, 3, 4] (mkS 17 0 [(2, .hp 0 0), (3, .hp 1 0), (4, .hp 2 0)]) [.own (api_Int.c v1), .own (api_Int.c v3), .own [aB false, .at (.slice none 0 0), aB false, .at (.slice none 0 0)]] ?_
 refine CQ.seq ?_
 refine CQ.seq ?_
 replace hr := bd hr; obtain ⟨v5, hc6, hr⟩ := hr
 refine CQ.region fine (callOf_1 91 [.agg (api_Int.c v3)] [.own (api_Int.c v1), .own (api_Int.c v3), .own [aB false, .at (.slice none 0 0), aB false, .at (.slice none 0 0)]] (.loc (aI64 v5) [] [] 0) (callOk_val (l := []) (args' := [.agg (api_Int.c v3)]) rfl (SnL.cons (Sn.pure rfl) SnL.nil) (integer_Sign_ok n v3 v5 hc6))) ?_
 refine EVO.p1 (.agg (api_Int.c v3)) ?_
 refine EVO.c0 (by kernel_rfl) (callOf_at (by kernel_rfl)) ?_
 refine EVO.p1 (aB ((v5 : Int) == 0)) ?_
 refine EVO.done ?_
 refine CQ.n1 [2, 3, 4, 12] (mkS 17 0 [(2, .hp 0 0), (3, .hp 1 0), (4, .hp 2 0), (12, aB ((v5 : Int) == 0))]) [.own (api_Int.c v1), .own (api_Int.c v3), .own [aB false, .at (.slice none 0 0), aB false, .at (.slice none 0 0)]] ?_
 refine CQ.cond (t := (v5 : Int) == 0) (by kernel_rfl) (fun hb7 => ?_) (fun hb7 => ?_)
 ·replace hr := cd_t hb7 hr
  refine CQ.seq ?_
  refine CQ.r0 fine ?_
  refine EVO.p1 (.agg [aB false, .at (.slice none 0 0), aB false, .at (.slice none 0 0)]) ?_
  refine EVO.e1 (.unk) [(2, .own [aB false, .at (.slice none 0 0), aB false, .at (.slice none 0 0)])] ?_
  refine EVO.p1 (aI64 14) ?_
  refine EVO.done ?_
  refine CQ.ret ?_
  obtain rfl := Option.some.inj hr
  exact FinQ.ret (vs := [.agg [aB false, .at (.slice none 0 0), aB false, .at (.slice none 0 0)], aI64 14]) (by kernel_rfl) (Sn.tup (SnL.cons (Sn.agg (SnL.cons (Sn.pure rfl) (SnL.cons Sn.nilsl (SnL.cons (Sn.pure rfl) (SnL.cons Sn.nilsl SnL.nil))))) (SnL.cons (Sn.pure rfl) SnL.nil)))
 ·replace hr := cd_f hb7 hr
  refine CQ.skip ?_
  refine CQ.seq ?_
  replace hr := bd hr; obtain ⟨v8, hc9, hr⟩ := hr
  refine CQ.region fine (callOf_1 98 [.agg (api_Int.c v1), .agg (api_Int.c v3)] [.own (api_Int.c v1), .own (api_Int.c v3), .own [aB false, .at (.slice none 0 0), aB false, .at (.slice none 0 0)]] (.loc (.agg (api_Rat.c v8)) [] [] 0) (callOk_ref (l := []) (args' := [.agg (api_Int.c v1), .agg (api_Int.c v3)]) (SnL.cons (Sn.pure rfl) (SnL.cons (Sn.pure rfl) SnL.nil)) (fraction_reduced_ok n v1 v3 v8 hc9))) ?_
  refine EVO.p1 (.agg (api_Int.c v1)) ?_
  refine EVO.p1 (.agg (api_Int.c v3)) ?_
  refine EVO.c0 (by kernel_rfl) (callOf_at (by kernel_rfl)) ?_
  refine EVO.e1 (.unk) [(2, .own (api_Rat.c v8))] ?_
  refine EVO.p1 (aI64 0) ?_
  refine EVO.done ?_
  refine CQ.ret ?_
  obtain rfl := Option.some.inj hr
  exact FinQ.ret (vs := [.agg (api_Rat.c v8), aI64 0]) (by kernel_rfl) (Sn.tup (SnL.cons (Sn.pure rfl) (SnL.cons (Sn.pure rfl) SnL.nil)))

theorem fraction_Of_ok (n : Nat) (n' : Int) (d : Int) (r : api_Rat × Int) (hr : fraction_Of n n' d = some r) : FnOk Tryz.prog 85 [.at (.int .i64 n'), .at (.int .i64 d)] (.tup [.agg [.at (.bool r.1.Num.Negative), slT (iC .u32) r.1.Num.Groups, .at (.bool r.1.Den.Negative), slT (iC .u32) r.1.Den.Groups], .at (.int .i64 r.2)]) := by
 unfold fraction_Of at hr
 refine FnOk.body fine Tryz.func85 (c := (Tryz.f85.body).getD .skip) rfl (s := mkS 13 0 [(0, aI64 n'), (1, aI64 d)]) (by kernel_rfl) (rs := [.cell 4 39, .tmp 5]) rfl ?_
 unfold Tryz.f85
 simp only [Option.getD_some]
 refine CQ.seq ?_
 refine CQ.r0 fine ?_
 refine EVO.e1 (.hp 0 0) [(0, .own [aB false, .at (.slice none 0 0), aB false, .at (.slice none 0 0)])] ?_
 refine EVO.p1 (aI64 0) ?_
 refine EVO.done ?_
 refine CQ.n1 [0, 1, 4] (mkS 13 0 [(0, aI64 n'), (1, aI64 d), (4, .hp 0 0)]) [.own [aB false, .at (.slice none 0 0), aB false, .at (.slice none 0 0)]] ?_
 refine CQ.seq ?_
 replace hr := bd hr; obtain ⟨v1, hc2, hr⟩ := hr
 replace hr := bd hr; obtain ⟨v3, hc4, hr⟩ := hr
 replace hr := bd hr; obtain ⟨v5, hc6, hr⟩ := hr
 refine CQ.region fine (callOf_ok [{ f := 49, args := [aI64 n'], H := [.own [aB false, .at (.slice none 0 0), aB false, .at (.slice none 0 0)]], r := .loc (.agg (api_Int.c v1)) [] [] 0 : CE }, { f := 49, args := [aI64 d], H := [.own [aB false, .at (.slice none 0 0), aB false, .at (.slice none 0 0)]], r := .loc (.agg (api_Int.c v3)) [] [] 0 : CE }, { f := 50, args := [.agg (api_Int.c v1), .agg (api_Int.c v3)], H := [.own [aB false, .at (.slice none 0 0), aB false, .at (.slice none 0 0)]], r := .loc (.tup [.agg (api_Rat.c v5.1), aI64 v5.2]) [] [] 0 : CE }] (List.forall_mem_cons.2 ⟨(callOk_ref (l := []) (args' := [aI64 n']) (SnL.cons (Sn.pure rfl) SnL.nil) (integer_Of_ok n n' v1 hc2)), (List.forall_mem_cons.2 ⟨(callOk_ref (l := []) (args' := [aI64 d]) (SnL.cons (Sn.pure rfl) SnL.nil) (integer_Of_ok n d v3 hc4)), (List.forall_mem_cons.2 ⟨(callOk_ref (l := []) (args' := [.agg (api_Int.c v1), .agg (api_Int.c v3)]) (SnL.cons (Sn.pure rfl) (SnL.cons (Sn.pure rfl) SnL.nil)) (fraction_New_ok n v1 v3 v5 hc6)), ce0⟩)⟩)⟩)) ?_
 refine EVO.p1 (aI64 n') ?_
 refine EVO.c0 (by kernel_rfl) (callOf_at (by kernel_rfl)) ?_
 refine EVO.p1 (aI64 d) ?_
 refine EVO.c0 (by kernel_rfl) (callOf_skip (fun _ h => by obtain e0 := integer_Of_inj h; rw [show v3 = v1 from Option.some.inj (hc4.symm.trans ((show integer_Of n d = integer_Of n n' from (congr rfl e0)).trans hc2))]) (callOf_at (by kernel_rfl))) ?_
 refine EVO.c0 (by kernel_rfl) (callOf_skip (fun h _ => absurd (show (50 : Nat) = 49 from h) (by decide)) (callOf_skip (fun h _ => absurd (show (50 : Nat) = 49 from h) (by decide)) (callOf_at (by kernel_rfl)))) ?_
 refine EVO.p1 (.agg (api_Rat.c v5.1)) ?_
 refine EVO.p1 (aI64 v5.2) ?_
 refine EVO.e1 (.unk) [(0, .own (api_Rat.c v5.1))] ?_
 refine EVO.p1 (aI64 v5.2) ?_
 refine EVO.done ?_
 refine CQ.ret ?_
 obtain rfl := Option.some.inj hr
 exact FinQ.ret (vs := [.agg (api_Rat.c v5.1), aI64 v5.2]) (by kernel_rfl) (Sn.tup (SnL.cons (Sn.pure rfl) (SnL.cons (Sn.pure rfl) SnL.nil)))

theorem integer_Compare_ok (n : Nat) (x' : api_Int) (y : api_Int) (r : Int) (hr : integer_Compare n x' y = some r) : FnOk Tryz.prog 196 [.agg [.at (.bool x'.Negative), slT (iC .u32) x'.Groups], .agg [.at (.bool y.Negative), slT (iC .u32) y.Groups]] (.at (.int .i64 r)) := by
 unfold integer_Compare at hr
 refine FnOk.body fine Tryz.func196 (c := (Tryz.f196.body).getD .skip) rfl (s := mkS 28 0 [(0, .agg (api_Int.c x')), (1, .agg (api_Int.c y))]) (by kernel_rfl) (rs := [.tmp 4]) rfl ?_
 unfold Tryz.f196
 simp only [Option.getD_some]
 refine CQ.seq ?_
 refine CQ.r0 fine ?_
 refine EVO.e1 (.hp 0 0) [(0, .own (api_Int.c x'))] ?_
 refine EVO.e1 (.hp 1 0) [(1, .own (api_Int.c y))] ?_
 refine EVO.p1 (aI64 0) ?_
 refine EVO.done ?_
 refine CQ.n1 [2, 3] (mkS 28 0 [(2, .hp 0 0), (3, .hp 1 0)]) [.own (api_Int.c x'), .own (api_Int.c y)] ?_
 refine CQ.seq ?_
 refine CQ.seq ?_
 replace hr := bd hr; obtain ⟨v1, hc2, hr⟩ := hr
 replace hr := bd hr; obtain ⟨v3, hc4, hr⟩ := hr
 refine CQ.regionT fine (callOf_ok [{ f := 91, args := [.agg (api_Int.c x')], H := [.own (api_Int.c x'), .own (api_Int.c y)], r := .loc (aI64 v1) [] [] 0 : CE }, { f := 91, args := [.agg (api_Int.c y)], H := [.own (api_Int.c x'), .own (api_Int.c y)], r := .loc (aI64 v3) [] [] 0 : CE }] (List.forall_mem_cons.2 ⟨(callOk_val (l := []) (args' := [.agg (api_Int.c x')]) rfl (SnL.cons (Sn.pure rfl) SnL.nil) (integer_Sign_ok n x' v1 hc2)), (List.forall_mem_cons.2 ⟨(callOk_val (l := []) (args' := [.agg (api_Int.c y)]) rfl (SnL.cons (Sn.pure rfl) SnL.nil) (integer_Sign_ok n y v3 hc4)), ce0⟩)⟩)) ?_
 refine EVT.p1 (.agg (api_Int.c x')) ?_
 refine EVT.cal (by kernel_rfl) (by kernel_rfl) (callOf_at (by kernel_rfl)) (by kernel_rfl) ?_
 refine EVT.p1 (.agg (api_Int.c y)) ?_
 refine EVT.cal (by kernel_rfl) (by kernel_rfl) (callOf_skip (fun _ h => by obtain e0 := integer_Sign_inj h; rw [show v3 = v1 from Option.some.inj (hc4.symm.trans ((show integer_Sign n y = integer_Sign n x' from (congr rfl e0)).trans hc2))]) (callOf_at (by kernel_rfl))) (by kernel_rfl) ?_
 refine EVT.p1 (aI64 v1) ?_
 refine EVT.p1 (aI64 v3) ?_
 refine EVT.done ⟨by kernel_rfl, ?_⟩
 refine CQ.n1 [2, 3, 5, 6] (mkS 28 0 [(2, .hp 0 0), (3, .hp 1 0), (5, aI64 v1), (6, aI64 v3)]) [.own (api_Int.c x'), .own (api_Int.c y)] ?_
 refine CQ.seq ?_
 refine CQ.r0 fine ?_
 refine EVO.p1 (aI64 v1) ?_
 refine EVO.p1 (aI64 v3) ?_
 refine EVO.p1 (aB ((v1 : Int) != v3)) ?_
 refine EVO.done ?_
 refine CQ.n1 [2, 3, 5, 6, 14] (mkS 28 0 [(2, .hp 0 0), (3, .hp 1 0), (5, aI64 v1), (6, aI64 v3), (14, aB ((v1 : Int) != v3))]) [.own (api_Int.c x'), .own (api_Int.c y)] ?_
 refine CQ.cond (t := (v1 : Int) != v3) (by kernel_rfl) (fun hb5 => ?_) (fun hb5 => ?_)
 ·replace hr := cd_t hb5 hr
  refine CQ.seq ?_
  replace hr := bd hr; obtain ⟨v6, hc7, hr⟩ := hr
  refine CQ.region fine (callOf_1 75 [aI64 v1, aI64 v3] [.own (api_Int.c x'), .own (api_Int.c y)] (.loc (aI64 v6) [] [] 0) (callOk_val (l := []) (args' := [aI64 v1, aI64 v3]) rfl (SnL.cons (Sn.pure rfl) (SnL.cons (Sn.pure rfl) SnL.nil)) (cmp_Compare_int_ok n v1 v3 v6 hc7))) ?_
  refine EVO.p1 (aI64 v1) ?_
  refine EVO.p1 (aI64 v3) ?_
  refine EVO.c0 (by kernel_rfl) (callOf_at (by kernel_rfl)) ?_
  refine EVO.p1 (aI64 v6) ?_
  refine EVO.done ?_
  refine CQ.ret ?_
  obtain rfl := Option.some.inj hr
  exact FinQ.r1 [aI64 v6]
 ·replace hr := cd_f hb5 hr
  refine CQ.skip ?_
  refine CQ.seq ?_
  replace hr := bd hr; obtain ⟨v8, hc9, hr⟩ := hr
  replace hr := bd hr; obtain ⟨v10, hc11, hr⟩ := hr
  replace hr := bd hr; obtain ⟨v12, hc13, hr⟩ := hr
  refine CQ.regionT fine (callOf_ok [{ f := 100, args := [.agg (api_Int.c x')], H := [.own (api_Int.c x'), .own (api_Int.c y)], r := .loc (sU32 v8) [] [] 0 : CE }, { f := 100, args := [.agg (api_Int.c y)], H := [.own (api_Int.c x'), .own (api_Int.c y)], r := .loc (sU32 v10) [] [] 0 : CE }, { f := 172, args := [sU32 v8, sU32 v10], H := [.own (api_Int.c x'), .own (api_Int.c y)], r := .loc (aI64 v12) [] [] 0 : CE }] (List.forall_mem_cons.2 ⟨(callOk_ref (l := []) (args' := [.agg (api_Int.c x')]) (SnL.cons (Sn.pure rfl) SnL.nil) (integer_groups_ok n x' v8 hc9)), (List.forall_mem_cons.2 ⟨(callOk_ref (l := []) (args' := [.agg (api_Int.c y)]) (SnL.cons (Sn.pure rfl) SnL.nil) (integer_groups_ok n y v10 hc11)), (List.forall_mem_cons.2 ⟨(callOk_val (l := []) (args' := [sU32 v8, sU32 v10]) rfl (SnL.cons (Sn.pure rfl) (SnL.cons (Sn.pure rfl) SnL.nil)) (integer_compare_ok n v8 v10 v12 hc13)), ce0⟩)⟩)⟩)) ?_
  refine EVT.p1 (.agg (api_Int.c x')) ?_
  refine EVT.cal (by kernel_rfl) (by kernel_rfl) (callOf_at (by kernel_rfl)) (by kernel_rfl) ?_
  refine EVT.p1 (.agg (api_Int.c y)) ?_
  refine EVT.cal (by kernel_rfl) (by kernel_rfl) (callOf_skip (fun _ h => by obtain e0 := integer_groups_inj h; rw [show v10 = v8 from Option.some.inj (hc11.symm.trans ((show integer_groups n y = integer_groups n x' from (congr rfl e0)).trans hc9))]) (callOf_at (by kernel_rfl))) (by kernel_rfl) ?_
  refine EVT.cal (by kernel_rfl) (by kernel_rfl) (callOf_skip (fun h _ => absurd (show (172 : Nat) = 100 from h) (by decide)) (callOf_skip (fun h _ => absurd (show (172 : Nat) = 100 from h) (by decide)) (callOf_at (by kernel_rfl)))) (by kernel_rfl) ?_
  refine EVT.p1 (aI64 v12) ?_
  refine EVT.done ⟨by kernel_rfl, ?_⟩
  refine CQ.n1 [2, 7] (mkS 28 0 [(2, .hp 0 0), (7, aI64 v12)]) [.own (api_Int.c x'), .own (api_Int.c y)] ?_
  refine CQ.seq ?_
  refine CQ.seq ?_
  refine CQ.r0 fine ?_
  refine EVO.p1 (.hp 0 0) ?_
  refine EVO.p1 (aB x'.Negative) ?_
  refine EVO.done ?_
  refine CQ.n1 [7, 24] (mkS 28 0 [(7, aI64 v12), (24, aB x'.Negative)]) [.own (api_Int.c x'), .own (api_Int.c y)] ?_
  refine CQ.cond (t := x'.Negative) (by kernel_rfl) (fun hb14 => ?_) (fun hb14 => ?_)
  ·replace hr := cd_t hb14 hr
   refine CQ.seq ?_
   refine CQ.r0 fine ?_
   refine EVO.p1 (aI64 v12) ?_
   refine EVO.p0 (v := aI64 (wrapF .i64 (0 - v12))) (Eq.trans (b := some (.pure (aI64 (IntKind.wrap .i64 (0 - v12))))) (by kernel_rfl) wrap_at) ?_
   refine EVO.p1 (aI64 (wrapF .i64 (0 - v12))) ?_
   refine EVO.done ?_
   refine CQ.ret ?_
   obtain rfl := Option.some.inj hr
   exact FinQ.r1 [aI64 (wrapF .i64 (0 - v12))]
  ·replace hr := cd_f hb14 hr
   refine CQ.skip ?_
   refine CQ.seq ?_
   refine CQ.r0 fine ?_
   refine EVO.p1 (aI64 v12) ?_
   refine EVO.p1 (aI64 v12) ?_
   refine EVO.done ?_
   refine CQ.ret ?_
   obtain rfl := Option.some.inj hr
   exact FinQ.r1 [aI64 v12]

theorem fraction_Valid_ok (n : Nat) (x' : api_Rat) (r : Bool) (hr : fraction_Valid n x' = some r) : FnOk Tryz.prog 169 [.agg [.at (.bool x'.Num.Negative), slT (iC .u32) x'.Num.Groups, .at (.bool x'.Den.Negative), slT (iC .u32) x'.Den.Groups]] (.at (.bool r)) := by
 unfold fraction_Valid at hr
 refine FnOk.body fine Tryz.func169 (c := (Tryz.f169.body).getD .skip) rfl (s := mkS 27 0 [(0, .agg (api_Rat.c x'))]) (by kernel_rfl) (rs := [.tmp 2]) rfl ?_
 unfold Tryz.f169
 simp only [Option.getD_some]
 refine CQ.seq ?_
 refine CQ.r0 fine ?_
 refine EVO.e1 (.hp 0 0) [(0, .own (api_Rat.c x'))] ?_
 refine EVO.p1 (aB false) ?_
 refine EVO.done ?_
 refine CQ.n1 [1] (mkS 27 0 [(1, .hp 0 0)]) [.own (api_Rat.c x')] ?_
 refine CQ.seq ?_
 refine CQ.seq ?_
 replace hr := bd hr; obtain ⟨v1, hc2, hr⟩ := hr
 rcases Bool.eq_false_or_eq_true (!v1) with hb3 | hb3
 ·replace hr := cd_t hb3 hr
  refine CQ.region fine (callOf_1 132 [.agg (api_Int.c x'.Num)] [.own (api_Rat.c x')] (.loc (aB v1) [] [] 0) (callOk_val (l := []) (args' := [.agg (api_Int.c x'.Num)]) rfl (SnL.cons (Sn.pure rfl) SnL.nil) (integer_Valid_ok n x'.Num v1 hc2))) ?_
  refine EVO.p1 (.hp 0 0) ?_
  refine EVO.p1 (.agg (api_Int.c x'.Num)) ?_
  refine EVO.c0 (by kernel_rfl) (callOf_at (by kernel_rfl)) ?_
  refine EVO.p0 (v := aB true) (Eq.trans (b := some (.pure (aB (!v1)))) (by kernel_rfl) (by rw [hb3])) ?_
  refine EVO.p1 (aB true) ?_
  refine EVO.s1 ?_
  refine EVO.s1 ?_
  refine EVO.s1 ?_
  refine EVO.s1 ?_
  refine EVO.p1 (aB true) ?_
  refine EVO.p1 (aB true) ?_
  refine EVO.s1 ?_
  refine EVO.s1 ?_
  refine EVO.s1 ?_
  refine EVO.s1 ?_
  refine EVO.p1 (aB true) ?_
  refine EVO.done ?_
  refine CQ.n1 [1, 18] (mkS 27 0 [(1, .hp 0 0), (18, aB true)]) [.own (api_Rat.c x')] ?_
  refine CQ.cT (by kernel_rfl) ?_
  refine CQ.seq ?_
  refine CQ.r0 fine ?_
  refine EVO.p1 (aB false) ?_
  refine EVO.done ?_
  refine CQ.ret ?_
  obtain rfl := Option.some.inj hr
  exact FinQ.r1 [aB false]
 ·replace hr := cd_f hb3 hr
  replace hr := bd hr; obtain ⟨v4, hc5, hr⟩ := hr
  rcases Bool.eq_false_or_eq_true (!v4) with hb6 | hb6
  ·replace hr := cd_t hb6 hr
   refine CQ.region fine (callOf_ok [{ f := 132, args := [.agg (api_Int.c x'.Num)], H := [.own (api_Rat.c x')], r := .loc (aB v1) [] [] 0 : CE }, { f := 132, args := [.agg (api_Int.c x'.Den)], H := [.own (api_Rat.c x')], r := .loc (aB v4) [] [] 0 : CE }] (List.forall_mem_cons.2 ⟨(callOk_val (l := []) (args' := [.agg (api_Int.c x'.Num)]) rfl (SnL.cons (Sn.pure rfl) SnL.nil) (integer_Valid_ok n x'.Num v1 hc2)), (List.forall_mem_cons.2 ⟨(callOk_val (l := []) (args' := [.agg (api_Int.c x'.Den)]) rfl (SnL.cons (Sn.pure rfl) SnL.nil) (integer_Valid_ok n x'.Den v4 hc5)), ce0⟩)⟩)) ?_
   refine EVO.p1 (.hp 0 0) ?_
   refine EVO.p1 (.agg (api_Int.c x'.Num)) ?_
   refine EVO.c0 (by kernel_rfl) (callOf_at (by kernel_rfl)) ?_
   refine EVO.p0 (v := aB false) (Eq.trans (b := some (.pure (aB (!v1)))) (by kernel_rfl) (by rw [hb3])) ?_
   refine EVO.p1 (aB false) ?_
   refine EVO.q1 (.hp 0 2) ?_
   refine EVO.q1 (.agg (api_Int.c x'.Den)) ?_
   refine EVO.cal (by kernel_rfl) (by kernel_rfl) (callOf_skip (fun _ h => by obtain e0 := integer_Valid_inj h; rw [show v4 = v1 from Option.some.inj (hc5.symm.trans ((show integer_Valid n x'.Den = integer_Valid n x'.Num from (congr rfl e0)).trans hc2))]) (callOf_at (by kernel_rfl))) ?_
   refine EVO.pure (v := aB true) (by kernel_rfl) (Eq.trans (b := some (.pure (aB (!v4)))) (by kernel_rfl) (by rw [hb6])) ?_
   refine EVO.p1 (aB true) ?_
   refine EVO.p1 (aB true) ?_
   refine EVO.s1 ?_
   refine EVO.s1 ?_
   refine EVO.s1 ?_
   refine EVO.s1 ?_
   refine EVO.p1 (aB true) ?_
   refine EVO.done ?_
   refine CQ.n1 [1, 18] (mkS 27 0 [(1, .hp 0 0), (18, aB true)]) [.own (api_Rat.c x')] ?_
   refine CQ.cT (by kernel_rfl) ?_
   refine CQ.seq ?_
   refine CQ.r0 fine ?_
   refine EVO.p1 (aB false) ?_
   refine EVO.done ?_
   refine CQ.ret ?_
   obtain rfl := Option.some.inj hr
   exact FinQ.r1 [aB false]
  ·replace hr := cd_f hb6 hr
   replace hr := bd hr; obtain ⟨v7, hc8, hr⟩ := hr
   refine CQ.region fine (callOf_ok [{ f := 132, args := [.agg (api_Int.c x'.Num)], H := [.own (api_Rat.c x')], r := .loc (aB v1) [] [] 0 : CE }, { f := 132, args := [.agg (api_Int.c x'.Den)], H := [.own (api_Rat.c x')], r := .loc (aB v4) [] [] 0 : CE }, { f := 91, args := [.agg (api_Int.c x'.Den)], H := [.own (api_Rat.c x')], r := .loc (aI64 v7) [] [] 0 : CE }] (List.forall_mem_cons.2 ⟨(callOk_val (l := []) (args' := [.agg (api_Int.c x'.Num)]) rfl (SnL.cons (Sn.pure rfl) SnL.nil) (integer_Valid_ok n x'.Num v1 hc2)), (List.forall_mem_cons.2 ⟨(callOk_val (l := []) (args' := [.agg (api_Int.c x'.Den)]) rfl (SnL.cons (Sn.pure rfl) SnL.nil) (integer_Valid_ok n x'.Den v4 hc5)), (List.forall_mem_cons.2 ⟨(callOk_val (l := []) (args' := [.agg (api_Int.c x'.Den)]) rfl (SnL.cons (Sn.pure rfl) SnL.nil) (integer_Sign_ok n x'.Den v7 hc8)), ce0⟩)⟩)⟩)) ?_
   refine EVO.p1 (.hp 0 0) ?_
   refine EVO.p1 (.agg (api_Int.c x'.Num)) ?_
   refine EVO.c0 (by kernel_rfl) (callOf_at (by kernel_rfl)) ?_
   refine EVO.p0 (v := aB false) (Eq.trans (b := some (.pure (aB (!v1)))) (by kernel_rfl) (by rw [hb3])) ?_
   refine EVO.p1 (aB false) ?_
   refine EVO.q1 (.hp 0 2) ?_
   refine EVO.q1 (.agg (api_Int.c x'.Den)) ?_
   refine EVO.cal (by kernel_rfl) (by kernel_rfl) (callOf_skip (fun _ h => by obtain e0 := integer_Valid_inj h; rw [show v4 = v1 from Option.some.inj (hc5.symm.trans ((show integer_Valid n x'.Den = integer_Valid n x'.Num from (congr rfl e0)).trans hc2))]) (callOf_at (by kernel_rfl))) ?_
   refine EVO.pure (v := aB false) (by kernel_rfl) (Eq.trans (b := some (.pure (aB (!v4)))) (by kernel_rfl) (by rw [hb6])) ?_
   refine EVO.p1 (aB false) ?_
   refine EVO.p1 (aB false) ?_
   refine EVO.q1 (.hp 0 2) ?_
   refine EVO.q1 (.agg (api_Int.c x'.Den)) ?_
   refine EVO.cal (by kernel_rfl) (by kernel_rfl) (callOf_skip (fun h _ => absurd (show (91 : Nat) = 132 from h) (by decide)) (callOf_skip (fun h _ => absurd (show (91 : Nat) = 132 from h) (by decide)) (callOf_at (by kernel_rfl)))) ?_
   refine EVO.q1 (aB (decide (v7 ≤ 0))) ?_
   refine EVO.p1 (aB (decide (v7 ≤ 0))) ?_
   refine EVO.done ?_
   refine CQ.n1 [1, 18] (mkS 27 0 [(1, .hp 0 0), (18, aB (decide (v7 ≤ 0)))]) [.own (api_Rat.c x')] ?_
   refine CQ.cond (t := decide (v7 ≤ 0)) (by kernel_rfl) (fun hb9 => ?_) (fun hb9 => ?_)
   ·replace hr := cd_t hb9 hr
    refine CQ.seq ?_
    refine CQ.r0 fine ?_
    refine EVO.p1 (aB false) ?_
    refine EVO.done ?_
    refine CQ.ret ?_
    obtain rfl := Option.some.inj hr
    exact FinQ.r1 [aB false]
   ·replace hr := cd_f hb9 hr
    refine CQ.skip ?_
    refine CQ.seq ?_
    replace hr := bd hr; obtain ⟨v10, hc11, hr⟩ := hr
    replace hr := bd hr; obtain ⟨v12, hc13, hr⟩ := hr
    replace hr := bd hr; obtain ⟨v14, hc15, hr⟩ := hr
    refine CQ.region fine (callOf_ok [{ f := 134, args := [.agg (api_Int.c x'.Num), .agg (api_Int.c x'.Den)], H := [.own (api_Rat.c x')], r := .loc (.agg (api_Int.c v10)) [] [] 0 : CE }, { f := 49, args := [aI64 1], H := [.own (api_Rat.c x')], r := .loc (.agg (api_Int.c v12)) [] [] 0 : CE }, { f := 196, args := [.agg (api_Int.c v10), .agg (api_Int.c v12)], H := [.own (api_Rat.c x')], r := .loc (aI64 v14) [] [] 0 : CE }] (List.forall_mem_cons.2 ⟨(callOk_ref (l := []) (args' := [.agg (api_Int.c x'.Num), .agg (api_Int.c x'.Den)]) (SnL.cons (Sn.pure rfl) (SnL.cons (Sn.pure rfl) SnL.nil)) (integer_Gcd_ok n x'.Num x'.Den v10 hc11)), (List.forall_mem_cons.2 ⟨(callOk_ref (l := []) (args' := [aI64 1]) (SnL.cons (Sn.pure rfl) SnL.nil) (integer_Of_ok n 1 v12 hc13)), (List.forall_mem_cons.2 ⟨(callOk_val (l := []) (args' := [.agg (api_Int.c v10), .agg (api_Int.c v12)]) rfl (SnL.cons (Sn.pure rfl) (SnL.cons (Sn.pure rfl) SnL.nil)) (integer_Compare_ok n v10 v12 v14 hc15)), ce0⟩)⟩)⟩)) ?_
    refine EVO.p1 (.hp 0 0) ?_
    refine EVO.p1 (.agg (api_Int.c x'.Num)) ?_
    refine EVO.p1 (.hp 0 2) ?_
    refine EVO.p1 (.agg (api_Int.c x'.Den)) ?_
    refine EVO.c0 (by kernel_rfl) (callOf_at (by kernel_rfl)) ?_
    refine EVO.c0 (by kernel_rfl) (callOf_skip (fun h _ => absurd (show (49 : Nat) = 134 from h) (by decide)) (callOf_at (by kernel_rfl))) ?_
    refine EVO.c0 (by kernel_rfl) (callOf_skip (fun h _ => absurd (show (196 : Nat) = 134 from h) (by decide)) (callOf_skip (fun h _ => absurd (show (196 : Nat) = 49 from h) (by decide)) (callOf_at (by kernel_rfl)))) ?_
    refine EVO.p1 (aB ((v14 : Int) == 0)) ?_
    refine EVO.p1 (aB ((v14 : Int) == 0)) ?_
    refine EVO.done ?_
    refine CQ.ret ?_
    obtain rfl := Option.some.inj hr
    exact FinQ.r1 [aB ((v14 : Int) == 0)]

theorem fraction_copied_ok (n : Nat) (x' : api_Rat) (r : api_Rat) (hr : fraction_copied n x' = some r) : FnOk Tryz.prog 170 [.agg [.at (.bool x'.Num.Negative), slT (iC .u32) x'.Num.Groups, .at (.bool x'.Den.Negative), slT (iC .u32) x'.Den.Groups]] (.agg [.at (.bool r.Num.Negative), slT (iC .u32) r.Num.Groups, .at (.bool r.Den.Negative), slT (iC .u32) r.Den.Groups]) := by
 unfold fraction_copied at hr
 refine FnOk.body fine Tryz.func170 (c := (Tryz.f170.body).getD .skip) rfl (s := mkS 12 0 [(0, .agg (api_Rat.c x'))]) (by kernel_rfl) (rs := [.cell 2 39]) rfl ?_
 unfold Tryz.f170
 simp only [Option.getD_some]
 refine CQ.seq ?_
 refine CQ.r0 fine ?_
 refine EVO.e1 (.hp 0 0) [(0, .own (api_Rat.c x'))] ?_
 refine EVO.e1 (.hp 1 0) [(1, .own [aB false, .at (.slice none 0 0), aB false, .at (.slice none 0 0)])] ?_
 refine EVO.done ?_
 refine CQ.n1 [1, 2] (mkS 12 0 [(1, .hp 0 0), (2, .hp 1 0)]) [.own (api_Rat.c x'), .own [aB false, .at (.slice none 0 0), aB false, .at (.slice none 0 0)]] ?_
 refine CQ.seq ?_
 replace hr := bd hr; obtain ⟨v1, hc2, hr⟩ := hr
 replace hr := bd hr; obtain ⟨v3, hc4, hr⟩ := hr
 replace hr := bd hr; obtain ⟨v5, hc6, hr⟩ := hr
 replace hr := bd hr; obtain ⟨v7, hc8, hr⟩ := hr
 refine CQ.regionT fine (callOf_ok [{ f := 133, args := [.agg (api_Int.c x'.Num)], H := [.own (api_Rat.c x'), .own [aB false, .at (.slice none 0 0), aB false, .at (.slice none 0 0)]], r := .loc (.agg (api_Int.c v1)) [] [] 0 : CE }, { f := 133, args := [.agg (api_Int.c v1)], H := [.own (api_Rat.c x'), .own [aB false, .at (.slice none 0 0), aB false, .at (.slice none 0 0)]], r := .loc (.agg (api_Int.c v3)) [] [] 0 : CE }, { f := 133, args := [.agg (api_Int.c x'.Den)], H := [.own (api_Rat.c x'), .own [aB false, .at (.slice none 0 0), aB false, .at (.slice none 0 0)]], r := .loc (.agg (api_Int.c v5)) [] [] 0 : CE }, { f := 133, args := [.agg (api_Int.c v5)], H := [.own (api_Rat.c x'), .own [aB false, .at (.slice none 0 0), aB false, .at (.slice none 0 0)]], r := .loc (.agg (api_Int.c v7)) [] [] 0 : CE }] (List.forall_mem_cons.2 ⟨(callOk_ref (l := []) (args' := [.agg (api_Int.c x'.Num)]) (SnL.cons (Sn.pure rfl) SnL.nil) (integer_Neg_ok n x'.Num v1 hc2)), (List.forall_mem_cons.2 ⟨(callOk_ref (l := []) (args' := [.agg (api_Int.c v1)]) (SnL.cons (Sn.pure rfl) SnL.nil) (integer_Neg_ok n v1 v3 hc4)), (List.forall_mem_cons.2 ⟨(callOk_ref (l := []) (args' := [.agg (api_Int.c x'.Den)]) (SnL.cons (Sn.pure rfl) SnL.nil) (integer_Neg_ok n x'.Den v5 hc6)), (List.forall_mem_cons.2 ⟨(callOk_ref (l := []) (args' := [.agg (api_Int.c v5)]) (SnL.cons (Sn.pure rfl) SnL.nil) (integer_Neg_ok n v5 v7 hc8)), ce0⟩)⟩)⟩)⟩)) ?_
 refine EVT.p1 (.hp 0 0) ?_
 refine EVT.p1 (.agg (api_Int.c x'.Num)) ?_
 refine EVT.cal (by kernel_rfl) (by kernel_rfl) (callOf_at (by kernel_rfl)) (by kernel_rfl) ?_
 refine EVT.cal (by kernel_rfl) (by kernel_rfl) (callOf_skip (fun _ h => by obtain e0 := integer_Neg_inj h; rw [show v3 = v1 from Option.some.inj (hc4.symm.trans ((show integer_Neg n v1 = integer_Neg n x'.Num from (congr rfl e0)).trans hc2))]) (callOf_at (by kernel_rfl))) (by kernel_rfl) ?_
 refine EVT.p1 (.hp 0 2) ?_
 refine EVT.p1 (.agg (api_Int.c x'.Den)) ?_
 refine EVT.cal (by kernel_rfl) (by kernel_rfl) (callOf_skip (fun _ h => by obtain e0 := integer_Neg_inj h; rw [show v5 = v1 from Option.some.inj (hc6.symm.trans ((show integer_Neg n x'.Den = integer_Neg n x'.Num from (congr rfl e0)).trans hc2))]) (callOf_skip (fun _ h => by obtain e0 := integer_Neg_inj h; rw [show v5 = v3 from Option.some.inj (hc6.symm.trans ((show integer_Neg n x'.Den = integer_Neg n v1 from (congr rfl e0)).trans hc4))]) (callOf_at (by kernel_rfl)))) (by kernel_rfl) ?_
 refine EVT.cal (by kernel_rfl) (by kernel_rfl) (callOf_skip (fun _ h => by obtain e0 := integer_Neg_inj h; rw [show v7 = v1 from Option.some.inj (hc8.symm.trans ((show integer_Neg n v5 = integer_Neg n x'.Num from (congr rfl e0)).trans hc2))]) (callOf_skip (fun _ h => by obtain e0 := integer_Neg_inj h; rw [show v7 = v3 from Option.some.inj (hc8.symm.trans ((show integer_Neg n v5 = integer_Neg n v1 from (congr rfl e0)).trans hc4))]) (callOf_skip (fun _ h => by obtain e0 := integer_Neg_inj h; rw [show v7 = v5 from Option.some.inj (hc8.symm.trans ((show integer_Neg n v5 = integer_Neg n x'.Den from (congr rfl e0)).trans hc6))]) (callOf_at (by kernel_rfl))))) (by kernel_rfl) ?_
 refine EVT.p1 (.agg [aB v3.Negative, sU32 v3.Groups, aB v7.Negative, sU32 v7.Groups]) ?_
 refine EVT.e1 (.unk) [(1, .own [aB v3.Negative, sU32 v3.Groups, aB v7.Negative, sU32 v7.Groups])] ?_
 refine EVT.done ⟨by kernel_rfl, ?_⟩
 refine CQ.ret ?_
 obtain rfl := Option.some.inj hr
 exact FinQ.r1 [.agg [aB v3.Negative, sU32 v3.Groups, aB v7.Negative, sU32 v7.Groups]]

theorem fraction_Value_inj {x' : api_Rat} {x'_ : api_Rat} (h : ([.agg [.at (.bool x'.Num.Negative), slT (iC .u32) x'.Num.Groups, .at (.bool x'.Den.Negative), slT (iC .u32) x'.Den.Groups]] : List AV) = [.agg [.at (.bool x'_.Num.Negative), slT (iC .u32) x'_.Num.Groups, .at (.bool x'_.Den.Negative), slT (iC .u32) x'_.Den.Groups]]) : x' = x'_ := by
 obtain ⟨⟨_, _⟩, ⟨_, _⟩⟩ := x'
 obtain ⟨⟨_, _⟩, ⟨_, _⟩⟩ := x'_
 simp only [List.cons.injEq, AV.agg.injEq, AV.at.injEq, Value.int.injEq, Value.bool.injEq, AV.fn.injEq, AV.pp.injEq, true_and, and_true, slT_inj_int] at h
 simp_all
theorem fraction_Value_ok (n : Nat) (x' : api_Rat) (r : api_Rat) (hr : fraction_Value n x' = some r) : FnOk Tryz.prog 126 [.agg [.at (.bool x'.Num.Negative), slT (iC .u32) x'.Num.Groups, .at (.bool x'.Den.Negative), slT (iC .u32) x'.Den.Groups]] (.agg [.at (.bool r.Num.Negative), slT (iC .u32) r.Num.Groups, .at (.bool r.Den.Negative), slT (iC .u32) r.Den.Groups]) := by
 unfold fraction_Value at hr
 refine FnOk.body fine Tryz.func126 (c := (Tryz.f126.body).getD .skip) rfl (s := mkS 8 0 [(0, .agg (api_Rat.c x'))]) (by kernel_rfl) (rs := [.cell 2 39]) rfl ?_
 unfold Tryz.f126
 simp only [Option.getD_some]
 refine CQ.seq ?_
 refine CQ.r0 fine ?_
 refine EVO.e1 (.hp 0 0) [(0, .own (api_Rat.c x'))] ?_
 refine EVO.e1 (.hp 1 0) [(1, .own [aB false, .at (.slice none 0 0), aB false, .at (.slice none 0 0)])] ?_
 refine EVO.done ?_
 refine CQ.n1 [1, 2] (mkS 8 0 [(1, .hp 0 0), (2, .hp 1 0)]) [.own (api_Rat.c x'), .own [aB false, .at (.slice none 0 0), aB false, .at (.slice none 0 0)]] ?_
 refine CQ.seq ?_
 refine CQ.seq ?_
 replace hr := bd hr; obtain ⟨v1, hc2, hr⟩ := hr
 refine CQ.region fine (callOf_1 169 [.agg (api_Rat.c x')] [.own (api_Rat.c x'), .own [aB false, .at (.slice none 0 0), aB false, .at (.slice none 0 0)]] (.loc (aB v1) [] [] 0) (callOk_val (l := []) (args' := [.agg (api_Rat.c x')]) rfl (SnL.cons (Sn.pure rfl) SnL.nil) (fraction_Valid_ok n x' v1 hc2))) ?_
 refine EVO.p1 (.agg (api_Rat.c x')) ?_
 refine EVO.c0 (by kernel_rfl) (callOf_at (by kernel_rfl)) ?_
 refine EVO.done ?_
 refine CQ.n1 [1, 2, 4] (mkS 8 0 [(1, .hp 0 0), (2, .hp 1 0), (4, aB v1)]) [.own (api_Rat.c x'), .own [aB false, .at (.slice none 0 0), aB false, .at (.slice none 0 0)]] ?_
 refine CQ.cond (t := v1) (by kernel_rfl) (fun hb3 => ?_) (fun hb3 => ?_)
 ·replace hr := cd_t hb3 hr
  refine CQ.seq ?_
  replace hr := bd hr; obtain ⟨v4, hc5, hr⟩ := hr
  refine CQ.region fine (callOf_1 170 [.agg (api_Rat.c x')] [.own (api_Rat.c x'), .own [aB false, .at (.slice none 0 0), aB false, .at (.slice none 0 0)]] (.loc (.agg (api_Rat.c v4)) [] [] 0) (callOk_ref (l := []) (args' := [.agg (api_Rat.c x')]) (SnL.cons (Sn.pure rfl) SnL.nil) (fraction_copied_ok n x' v4 hc5))) ?_
  refine EVO.p1 (.agg (api_Rat.c x')) ?_
  refine EVO.c0 (by kernel_rfl) (callOf_at (by kernel_rfl)) ?_
  refine EVO.e1 (.unk) [(1, .own (api_Rat.c v4))] ?_
  refine EVO.done ?_
  refine CQ.ret ?_
  obtain rfl := Option.some.inj hr
  exact FinQ.r1 [.agg (api_Rat.c v4)]
 ·replace hr := cd_f hb3 hr
  refine CQ.skip ?_
  refine CQ.seq ?_
  replace hr := bd hr; obtain ⟨v6, hc7, hr⟩ := hr
  refine CQ.region fine (callOf_1 48 [aI64 0] [.own (api_Rat.c x'), .own [aB false, .at (.slice none 0 0), aB false, .at (.slice none 0 0)]] (.loc (.agg (api_Rat.c v6)) [] [] 0) (callOk_ref (l := []) (args' := [aI64 0]) (SnL.cons (Sn.pure rfl) SnL.nil) (fraction_Whole_ok n 0 v6 hc7))) ?_
  refine EVO.c0 (by kernel_rfl) (callOf_at (by kernel_rfl)) ?_
  refine EVO.e1 (.unk) [(1, .own (api_Rat.c v6))] ?_
  refine EVO.done ?_
  refine CQ.ret ?_
  obtain rfl := Option.some.inj hr
  exact FinQ.r1 [.agg (api_Rat.c v6)]

theorem integer_Mul_inj {x' : api_Int} {y : api_Int} {x'_ : api_Int} {y_ : api_Int} (h : ([.agg [.at (.bool x'.Negative), slT (iC .u32) x'.Groups], .agg [.at (.bool y.Negative), slT (iC .u32) y.Groups]] : List AV) = [.agg [.at (.bool x'_.Negative), slT (iC .u32) x'_.Groups], .agg [.at (.bool y_.Negative), slT (iC .u32) y_.Groups]]) : x' = x'_ ∧ y = y_ := by
 obtain ⟨_, _⟩ := x'
 obtain ⟨_, _⟩ := x'_
 obtain ⟨_, _⟩ := y
 obtain ⟨_, _⟩ := y_
 simp only [List.cons.injEq, AV.agg.injEq, AV.at.injEq, Value.int.injEq, Value.bool.injEq, AV.fn.injEq, AV.pp.injEq, true_and, and_true, slT_inj_int] at h
 simp_all
theorem integer_Mul_ok (n : Nat) (x' : api_Int) (y : api_Int) (r : api_Int) (hr : integer_Mul n x' y = some r) : FnOk Tryz.prog 51 [.agg [.at (.bool x'.Negative), slT (iC .u32) x'.Groups], .agg [.at (.bool y.Negative), slT (iC .u32) y.Groups]] (.agg [.at (.bool r.Negative), slT (iC .u32) r.Groups]) := by
 unfold integer_Mul at hr
 refine FnOk.body fine Tryz.func51 (c := (Tryz.f51.body).getD .skip) rfl (s := mkS 16 0 [(0, .agg (api_Int.c x')), (1, .agg (api_Int.c y))]) (by kernel_rfl) (rs := [.cell 4 37]) rfl ?_
 unfold Tryz.f51
 simp only [Option.getD_some]
 refine CQ.seq ?_
 refine CQ.r0 fine ?_
 refine EVO.e1 (.hp 0 0) [(0, .own (api_Int.c x'))] ?_
 refine EVO.e1 (.hp 1 0) [(1, .own (api_Int.c y))] ?_
 refine EVO.e1 (.hp 2 0) [(2, .own [aB false, .at (.slice none 0 0)])] ?_
 refine EVO.done ?_
 refine CQ.n1 [2, 3, 4] (mkS 16 0 [(2, .hp 0 0), (3, .hp 1 0), (4, .hp 2 0)]) [.own (api_Int.c x'), .own (api_Int.c y), .own [aB false, .at (.slice none 0 0)]] ?_
 refine CQ.seq ?_
 replace hr := bd hr; obtain ⟨v1, hc2, hr⟩ := hr
 replace hr := bd hr; obtain ⟨v3, hc4, hr⟩ := hr
 replace hr := bd hr; obtain ⟨v5, hc6, hr⟩ := hr
 replace hr := bd hr; obtain ⟨v7, hc8, hr⟩ := hr
 refine CQ.regionT fine (callOf_ok [{ f := 100, args := [.agg (api_Int.c x')], H := [.own (api_Int.c x'), .own (api_Int.c y), .own [aB false, .at (.slice none 0 0)]], r := .loc (sU32 v1) [] [] 0 : CE }, { f := 100, args := [.agg (api_Int.c y)], H := [.own (api_Int.c x'), .own (api_Int.c y), .own [aB false, .at (.slice none 0 0)]], r := .loc (sU32 v3) [] [] 0 : CE }, { f := 99, args := [sU32 v1, sU32 v3], H := [.own (api_Int.c x'), .own (api_Int.c y), .own [aB false, .at (.slice none 0 0)]], r := .loc (sU32 v5) [] [] 0 : CE }, { f := 95, args := [aB (x'.Negative != y.Negative), sU32 v5], H := [.own (api_Int.c x'), .own (api_Int.c y), .own [aB false, .at (.slice none 0 0)]], r := .loc (.agg (api_Int.c v7)) [] [] 0 : CE }] (List.forall_mem_cons.2 ⟨(callOk_ref (l := []) (args' := [.agg (api_Int.c x')]) (SnL.cons (Sn.pure rfl) SnL.nil) (integer_groups_ok n x' v1 hc2)), (List.forall_mem_cons.2 ⟨(callOk_ref (l := []) (args' := [.agg (api_Int.c y)]) (SnL.cons (Sn.pure rfl) SnL.nil) (integer_groups_ok n y v3 hc4)), (List.forall_mem_cons.2 ⟨(callOk_ref (l := []) (args' := [sU32 v1, sU32 v3]) (SnL.cons (Sn.pure rfl) (SnL.cons (Sn.pure rfl) SnL.nil)) (integer_times_ok n v1 v3 v5 hc6)), (List.forall_mem_cons.2 ⟨(callOk_ref (l := []) (args' := [aB (x'.Negative != y.Negative), sU32 v5]) (SnL.cons (Sn.pure rfl) (SnL.cons (Sn.pure rfl) SnL.nil)) (integer_made_ok n (x'.Negative != y.Negative) v5 v7 hc8)), ce0⟩)⟩)⟩)⟩)) ?_
 refine EVT.p1 (.hp 0 0) ?_
 refine EVT.p1 (aB x'.Negative) ?_
 refine EVT.p1 (.hp 1 0) ?_
 refine EVT.p1 (aB y.Negative) ?_
 refine EVT.p1 (aB (x'.Negative != y.Negative)) ?_
 refine EVT.p1 (.agg (api_Int.c x')) ?_
 refine EVT.cal (by kernel_rfl) (by kernel_rfl) (callOf_at (by kernel_rfl)) (by kernel_rfl) ?_
 refine EVT.p1 (.agg (api_Int.c y)) ?_
 refine EVT.cal (by kernel_rfl) (by kernel_rfl) (callOf_skip (fun _ h => by obtain e0 := integer_groups_inj h; rw [show v3 = v1 from Option.some.inj (hc4.symm.trans ((show integer_groups n y = integer_groups n x' from (congr rfl e0)).trans hc2))]) (callOf_at (by kernel_rfl))) (by kernel_rfl) ?_
 refine EVT.cal (by kernel_rfl) (by kernel_rfl) (callOf_skip (fun h _ => absurd (show (99 : Nat) = 100 from h) (by decide)) (callOf_skip (fun h _ => absurd (show (99 : Nat) = 100 from h) (by decide)) (callOf_at (by kernel_rfl)))) (by kernel_rfl) ?_
 refine EVT.cal (by kernel_rfl) (by kernel_rfl) (callOf_skip (fun h _ => absurd (show (95 : Nat) = 100 from h) (by decide)) (callOf_skip (fun h _ => absurd (show (95 : Nat) = 100 from h) (by decide)) (callOf_skip (fun h _ => absurd (show (95 : Nat) = 99 from h) (by decide)) (callOf_at (by kernel_rfl))))) (by kernel_rfl) ?_
 refine EVT.e1 (.unk) [(2, .own (api_Int.c v7))] ?_
 refine EVT.done ⟨by kernel_rfl, ?_⟩
 refine CQ.ret ?_
 obtain rfl := Option.some.inj hr
 exact FinQ.r1 [.agg (api_Int.c v7)]

theorem fraction_Mul_ok (n : Nat) (x' : api_Rat) (y : api_Rat) (r : api_Rat) (hr : fraction_Mul n x' y = some r) : FnOk Tryz.prog 88 [.agg [.at (.bool x'.Num.Negative), slT (iC .u32) x'.Num.Groups, .at (.bool x'.Den.Negative), slT (iC .u32) x'.Den.Groups], .agg [.at (.bool y.Num.Negative), slT (iC .u32) y.Num.Groups, .at (.bool y.Den.Negative), slT (iC .u32) y.Den.Groups]] (.agg [.at (.bool r.Num.Negative), slT (iC .u32) r.Num.Groups, .at (.bool r.Den.Negative), slT (iC .u32) r.Den.Groups]) := by
 unfold fraction_Mul at hr
 refine FnOk.body fine Tryz.func88 (c := (Tryz.f88.body).getD .skip) rfl (s := mkS 20 0 [(0, .agg (api_Rat.c x')), (1, .agg (api_Rat.c y))]) (by kernel_rfl) (rs := [.cell 4 39]) rfl ?_
 unfold Tryz.f88
 simp only [Option.getD_some]
 refine CQ.seq ?_
 refine CQ.r0 fine ?_
 refine EVO.e1 (.hp 0 0) [(0, .own (api_Rat.c x'))] ?_
 refine EVO.e1 (.hp 1 0) [(1, .own (api_Rat.c y))] ?_
 refine EVO.e1 (.hp 2 0) [(2, .own [aB false, .at (.slice none 0 0), aB false, .at (.slice none 0 0)])] ?_
 refine EVO.done ?_
 refine CQ.n1 [2, 3, 4] (mkS 20 0 [(2, .hp 0 0), (3, .hp 1 0), (4, .hp 2 0)]) [.own (api_Rat.c x'), .own (api_Rat.c y), .own [aB false, .at (.slice none 0 0), aB false, .at (.slice none 0 0)]] ?_
 refine CQ.seq ?_
 replace hr := bd hr; obtain ⟨v1, hc2, hr⟩ := hr
 replace hr := bd hr; obtain ⟨v3, hc4, hr⟩ := hr
 refine CQ.regionT fine (callOf_ok [{ f := 126, args := [.agg (api_Rat.c x')], H := [.own (api_Rat.c x'), .own (api_Rat.c y), .own [aB false, .at (.slice none 0 0), aB false, .at (.slice none 0 0)]], r := .loc (.agg (api_Rat.c v1)) [] [] 0 : CE }, { f := 126, args := [.agg (api_Rat.c y)], H := [.own (api_Rat.c x'), .own (api_Rat.c y), .own [aB false, .at (.slice none 0 0), aB false, .at (.slice none 0 0)]], r := .loc (.agg (api_Rat.c v3)) [] [] 0 : CE }] (List.forall_mem_cons.2 ⟨(callOk_ref (l := []) (args' := [.agg (api_Rat.c x')]) (SnL.cons (Sn.pure rfl) SnL.nil) (fraction_Value_ok n x' v1 hc2)), (List.forall_mem_cons.2 ⟨(callOk_ref (l := []) (args' := [.agg (api_Rat.c y)]) (SnL.cons (Sn.pure rfl) SnL.nil) (fraction_Value_ok n y v3 hc4)), ce0⟩)⟩)) ?_
 refine EVT.p1 (.agg (api_Rat.c x')) ?_
 refine EVT.cal (by kernel_rfl) (by kernel_rfl) (callOf_at (by kernel_rfl)) (by kernel_rfl) ?_
 refine EVT.p1 (.agg (api_Rat.c y)) ?_
 refine EVT.cal (by kernel_rfl) (by kernel_rfl) (callOf_skip (fun _ h => by obtain e0 := fraction_Value_inj h; rw [show v3 = v1 from Option.some.inj (hc4.symm.trans ((show fraction_Value n y = fraction_Value n x' from (congr rfl e0)).trans hc2))]) (callOf_at (by kernel_rfl))) (by kernel_rfl) ?_
 refine EVT.e1 (.unk) [(0, .own (api_Rat.c v1))] ?_
 refine EVT.e1 (.unk) [(1, .own (api_Rat.c v3))] ?_
 refine EVT.done ⟨by kernel_rfl, ?_⟩
 refine CQ.n1 [2, 3, 4] (mkS 20 0 [(2, .hp 0 0), (3, .hp 1 0), (4, .hp 2 0)]) [.own (api_Rat.c v1), .own (api_Rat.c v3), .own [aB false, .at (.slice none 0 0), aB false, .at (.slice none 0 0)]] ?_
 refine CQ.seq ?_
 replace hr := bd hr; obtain ⟨v5, hc6, hr⟩ := hr
 replace hr := bd hr; obtain ⟨v7, hc8, hr⟩ := hr
 replace hr := bd hr; obtain ⟨v9, hc10, hr⟩ := hr
 refine CQ.regionT fine (callOf_ok [{ f := 51, args := [.agg (api_Int.c v1.Num), .agg (api_Int.c v3.Num)], H := [.own (api_Rat.c v1), .own (api_Rat.c v3), .own [aB false, .at (.slice none 0 0), aB false, .at (.slice none 0 0)]], r := .loc (.agg (api_Int.c v5)) [] [] 0 : CE }, { f := 51, args := [.agg (api_Int.c v1.Den), .agg (api_Int.c v3.Den)], H := [.own (api_Rat.c v1), .own (api_Rat.c v3), .own [aB false, .at (.slice none 0 0), aB false, .at (.slice none 0 0)]], r := .loc (.agg (api_Int.c v7)) [] [] 0 : CE }, { f := 98, args := [.agg (api_Int.c v5), .agg (api_Int.c v7)], H := [.own (api_Rat.c v1), .own (api_Rat.c v3), .own [aB false, .at (.slice none 0 0), aB false, .at (.slice none 0 0)]], r := .loc (.agg (api_Rat.c v9)) [] [] 0 : CE }] (List.forall_mem_cons.2 ⟨(callOk_ref (l := []) (args' := [.agg (api_Int.c v1.Num), .agg (api_Int.c v3.Num)]) (SnL.cons (Sn.pure rfl) (SnL.cons (Sn.pure rfl) SnL.nil)) (integer_Mul_ok n v1.Num v3.Num v5 hc6)), (List.forall_mem_cons.2 ⟨(callOk_ref (l := []) (args' := [.agg (api_Int.c v1.Den), .agg (api_Int.c v3.Den)]) (SnL.cons (Sn.pure rfl) (SnL.cons (Sn.pure rfl) SnL.nil)) (integer_Mul_ok n v1.Den v3.Den v7 hc8)), (List.forall_mem_cons.2 ⟨(callOk_ref (l := []) (args' := [.agg (api_Int.c v5), .agg (api_Int.c v7)]) (SnL.cons (Sn.pure rfl) (SnL.cons (Sn.pure rfl) SnL.nil)) (fraction_reduced_ok n v5 v7 v9 hc10)), ce0⟩)⟩)⟩)) ?_
 refine EVT.p1 (.hp 0 0) ?_
 refine EVT.p1 (.agg (api_Int.c v1.Num)) ?_
 refine EVT.p1 (.hp 1 0) ?_
 refine EVT.p1 (.agg (api_Int.c v3.Num)) ?_
 refine EVT.cal (by kernel_rfl) (by kernel_rfl) (callOf_at (by kernel_rfl)) (by kernel_rfl) ?_
 refine EVT.p1 (.hp 0 2) ?_
 refine EVT.p1 (.agg (api_Int.c v1.Den)) ?_
 refine EVT.p1 (.hp 1 2) ?_
 refine EVT.p1 (.agg (api_Int.c v3.Den)) ?_
 refine EVT.cal (by kernel_rfl) (by kernel_rfl) (callOf_skip (fun _ h => by obtain ⟨e0, e1⟩ := integer_Mul_inj h; rw [show v7 = v5 from Option.some.inj (hc8.symm.trans ((show integer_Mul n v1.Den v3.Den = integer_Mul n v1.Num v3.Num from (congr (congr rfl e0) e1)).trans hc6))]) (callOf_at (by kernel_rfl))) (by kernel_rfl) ?_
 refine EVT.cal (by kernel_rfl) (by kernel_rfl) (callOf_skip (fun h _ => absurd (show (98 : Nat) = 51 from h) (by decide)) (callOf_skip (fun h _ => absurd (show (98 : Nat) = 51 from h) (by decide)) (callOf_at (by kernel_rfl)))) (by kernel_rfl) ?_
 refine EVT.e1 (.unk) [(2, .own (api_Rat.c v9))] ?_
 refine EVT.done ⟨by kernel_rfl, ?_⟩
 refine CQ.ret ?_
 obtain rfl := Option.some.inj hr
 exact FinQ.r1 [.agg (api_Rat.c v9)]

theorem integer_sum_ok (n : Nat) (negative : Bool) (a : List Int) (other : Bool) (b : List Int) (r : api_Int) (hr : integer_sum n negative a other b = some r) : FnOk Tryz.prog 127 [.at (.bool negative), slT (iC .u32) a, .at (.bool other), slT (iC .u32) b] (.agg [.at (.bool r.Negative), slT (iC .u32) r.Groups]) := by
 unfold integer_sum at hr
 refine FnOk.body fine Tryz.func127 (c := (Tryz.f127.body).getD .skip) rfl (s := mkS 33 0 [(0, aB negative), (1, sU32 a), (2, aB other), (3, sU32 b)]) (by kernel_rfl) (rs := [.cell 8 37]) rfl ?_
 unfold Tryz.f127
 simp only [Option.getD_some]
 refine CQ.seq ?_
 refine CQ.r0 fine ?_
 refine EVO.e1 (.hp 0 0) [(0, .own [aB false, .at (.slice none 0 0)])] ?_
 refine EVO.done ?_
 refine CQ.seq ?_
 refine CQ.block ?_
 refine CQ.seq ?_
 refine CQ.r0 fine ?_
 refine EVO.p1 (aB negative) ?_
 refine EVO.p1 (aB other) ?_
 refine EVO.p1 (aB (negative == other)) ?_
 refine EVO.p1 (aB (negative == other)) ?_
 refine EVO.done ?_
 refine CQ.n1 [0, 1, 2, 3, 8, 9] (mkS 33 0 [(0, aB negative), (1, sU32 a), (2, aB other), (3, sU32 b), (8, .hp 0 0), (9, aB (negative == other))]) [.own [aB false, .at (.slice none 0 0)]] ?_
 refine CQ.cond (t := negative == other) (by kernel_rfl) (fun hb1 => ?_) (fun hb1 => ?_)
 ·replace hr := cd_t hb1 hr
  refine CQ.seq ?_
  replace hr := bd hr; obtain ⟨v2, hc3, hr⟩ := hr
  replace hr := bd hr; obtain ⟨v4, hc5, hr⟩ := hr
  refine CQ.region fine (callOf_ok [{ f := 171, args := [sU32 a, sU32 b], H := [.own [aB false, .at (.slice none 0 0)]], r := .loc (sU32 v2) [] [] 0 : CE }, { f := 95, args := [aB negative, sU32 v2], H := [.own [aB false, .at (.slice none 0 0)]], r := .loc (.agg (api_Int.c v4)) [] [] 0 : CE }] (List.forall_mem_cons.2 ⟨(callOk_ref (l := []) (args' := [sU32 a, sU32 b]) (SnL.cons (Sn.pure rfl) (SnL.cons (Sn.pure rfl) SnL.nil)) (integer_plus_ok n a b v2 hc3)), (List.forall_mem_cons.2 ⟨(callOk_ref (l := []) (args' := [aB negative, sU32 v2]) (SnL.cons (Sn.pure rfl) (SnL.cons (Sn.pure rfl) SnL.nil)) (integer_made_ok n negative v2 v4 hc5)), ce0⟩)⟩)) ?_
  refine EVO.p1 (aB negative) ?_
  refine EVO.p1 (sU32 a) ?_
  refine EVO.p1 (sU32 b) ?_
  refine EVO.c0 (by kernel_rfl) (callOf_at (by kernel_rfl)) ?_
  refine EVO.c0 (by kernel_rfl) (callOf_skip (fun h _ => absurd (show (95 : Nat) = 171 from h) (by decide)) (callOf_at (by kernel_rfl))) ?_
  refine EVO.e1 (.unk) [(0, .own (api_Int.c v4))] ?_
  refine EVO.done ?_
  refine CQ.ret ?_
  obtain rfl := Option.some.inj hr
  exact FinQ.r1 [.agg (api_Int.c v4)]
 ·replace hr := cd_f hb1 hr
  refine CQ.seq ?_
  replace hr := bd hr; obtain ⟨v6, hc7, hr⟩ := hr
  refine CQ.region fine (callOf_1 172 [sU32 a, sU32 b] [.own [aB false, .at (.slice none 0 0)]] (.loc (aI64 v6) [] [] 0) (callOk_val (l := []) (args' := [sU32 a, sU32 b]) rfl (SnL.cons (Sn.pure rfl) (SnL.cons (Sn.pure rfl) SnL.nil)) (integer_compare_ok n a b v6 hc7))) ?_
  refine EVO.p1 (sU32 a) ?_
  refine EVO.p1 (sU32 b) ?_
  refine EVO.c0 (by kernel_rfl) (callOf_at (by kernel_rfl)) ?_
  refine EVO.p1 (aB (decide (v6 ≥ 0))) ?_
  refine EVO.p1 (aB (decide (v6 ≥ 0))) ?_
  refine EVO.done ?_
  refine CQ.n1 [0, 1, 2, 3, 8, 18] (mkS 33 0 [(0, aB negative), (1, sU32 a), (2, aB other), (3, sU32 b), (8, .hp 0 0), (18, aB (decide (v6 ≥ 0)))]) [.own [aB false, .at (.slice none 0 0)]] ?_
  refine CQ.cond (t := decide (v6 ≥ 0)) (by kernel_rfl) (fun hb8 => ?_) (fun hb8 => ?_)
  ·replace hr := cd_t hb8 hr
   refine CQ.seq ?_
   replace hr := bd hr; obtain ⟨v9, hc10, hr⟩ := hr
   replace hr := bd hr; obtain ⟨v11, hc12, hr⟩ := hr
   refine CQ.region fine (callOf_ok [{ f := 173, args := [sU32 a, sU32 b], H := [.own [aB false, .at (.slice none 0 0)]], r := .loc (sU32 v9) [] [] 0 : CE }, { f := 95, args := [aB negative, sU32 v9], H := [.own [aB false, .at (.slice none 0 0)]], r := .loc (.agg (api_Int.c v11)) [] [] 0 : CE }] (List.forall_mem_cons.2 ⟨(callOk_ref (l := []) (args' := [sU32 a, sU32 b]) (SnL.cons (Sn.pure rfl) (SnL.cons (Sn.pure rfl) SnL.nil)) (integer_minus_ok n a b v9 hc10)), (List.forall_mem_cons.2 ⟨(callOk_ref (l := []) (args' := [aB negative, sU32 v9]) (SnL.cons (Sn.pure rfl) (SnL.cons (Sn.pure rfl) SnL.nil)) (integer_made_ok n negative v9 v11 hc12)), ce0⟩)⟩)) ?_
   refine EVO.p1 (aB negative) ?_
   refine EVO.p1 (sU32 a) ?_
   refine EVO.p1 (sU32 b) ?_
   refine EVO.c0 (by kernel_rfl) (callOf_at (by kernel_rfl)) ?_
   refine EVO.c0 (by kernel_rfl) (callOf_skip (fun h _ => absurd (show (95 : Nat) = 173 from h) (by decide)) (callOf_at (by kernel_rfl))) ?_
   refine EVO.e1 (.unk) [(0, .own (api_Int.c v11))] ?_
   refine EVO.done ?_
   refine CQ.ret ?_
   obtain rfl := Option.some.inj hr
   exact FinQ.r1 [.agg (api_Int.c v11)]
  ·replace hr := cd_f hb8 hr
   refine CQ.skip ?_
   refine CQ.pop ?_
   refine CQ.seq ?_
   replace hr := bd hr; obtain ⟨v13, hc14, hr⟩ := hr
   replace hr := bd hr; obtain ⟨v15, hc16, hr⟩ := hr
   refine CQ.region fine (callOf_ok [{ f := 173, args := [sU32 b, sU32 a], H := [.own [aB false, .at (.slice none 0 0)]], r := .loc (sU32 v13) [] [] 0 : CE }, { f := 95, args := [aB other, sU32 v13], H := [.own [aB false, .at (.slice none 0 0)]], r := .loc (.agg (api_Int.c v15)) [] [] 0 : CE }] (List.forall_mem_cons.2 ⟨(callOk_ref (l := []) (args' := [sU32 b, sU32 a]) (SnL.cons (Sn.pure rfl) (SnL.cons (Sn.pure rfl) SnL.nil)) (integer_minus_ok n b a v13 hc14)), (List.forall_mem_cons.2 ⟨(callOk_ref (l := []) (args' := [aB other, sU32 v13]) (SnL.cons (Sn.pure rfl) (SnL.cons (Sn.pure rfl) SnL.nil)) (integer_made_ok n other v13 v15 hc16)), ce0⟩)⟩)) ?_
   refine EVO.p1 (aB other) ?_
   refine EVO.p1 (sU32 b) ?_
   refine EVO.p1 (sU32 a) ?_
   refine EVO.c0 (by kernel_rfl) (callOf_at (by kernel_rfl)) ?_
   refine EVO.c0 (by kernel_rfl) (callOf_skip (fun h _ => absurd (show (95 : Nat) = 173 from h) (by decide)) (callOf_at (by kernel_rfl))) ?_
   refine EVO.e1 (.unk) [(0, .own (api_Int.c v15))] ?_
   refine EVO.done ?_
   refine CQ.ret ?_
   obtain rfl := Option.some.inj hr
   exact FinQ.r1 [.agg (api_Int.c v15)]

theorem integer_Add_ok (n : Nat) (x' : api_Int) (y : api_Int) (r : api_Int) (hr : integer_Add n x' y = some r) : FnOk Tryz.prog 90 [.agg [.at (.bool x'.Negative), slT (iC .u32) x'.Groups], .agg [.at (.bool y.Negative), slT (iC .u32) y.Groups]] (.agg [.at (.bool r.Negative), slT (iC .u32) r.Groups]) := by
 unfold integer_Add at hr
 refine FnOk.body fine Tryz.func90 (c := (Tryz.f90.body).getD .skip) rfl (s := mkS 14 0 [(0, .agg (api_Int.c x')), (1, .agg (api_Int.c y))]) (by kernel_rfl) (rs := [.cell 4 37]) rfl ?_
 unfold Tryz.f90
 simp only [Option.getD_some]
 refine CQ.seq ?_
 refine CQ.r0 fine ?_
 refine EVO.e1 (.hp 0 0) [(0, .own (api_Int.c x'))] ?_
 refine EVO.e1 (.hp 1 0) [(1, .own (api_Int.c y))] ?_
 refine EVO.e1 (.hp 2 0) [(2, .own [aB false, .at (.slice none 0 0)])] ?_
 refine EVO.done ?_
 refine CQ.n1 [2, 3, 4] (mkS 14 0 [(2, .hp 0 0), (3, .hp 1 0), (4, .hp 2 0)]) [.own (api_Int.c x'), .own (api_Int.c y), .own [aB false, .at (.slice none 0 0)]] ?_
 refine CQ.seq ?_
 replace hr := bd hr; obtain ⟨v1, hc2, hr⟩ := hr
 replace hr := bd hr; obtain ⟨v3, hc4, hr⟩ := hr
 replace hr := bd hr; obtain ⟨v5, hc6, hr⟩ := hr
 refine CQ.regionT fine (callOf_ok [{ f := 100, args := [.agg (api_Int.c x')], H := [.own (api_Int.c x'), .own (api_Int.c y), .own [aB false, .at (.slice none 0 0)]], r := .loc (sU32 v1) [] [] 0 : CE }, { f := 100, args := [.agg (api_Int.c y)], H := [.own (api_Int.c x'), .own (api_Int.c y), .own [aB false, .at (.slice none 0 0)]], r := .loc (sU32 v3) [] [] 0 : CE }, { f := 127, args := [aB x'.Negative, sU32 v1, aB y.Negative, sU32 v3], H := [.own (api_Int.c x'), .own (api_Int.c y), .own [aB false, .at (.slice none 0 0)]], r := .loc (.agg (api_Int.c v5)) [] [] 0 : CE }] (List.forall_mem_cons.2 ⟨(callOk_ref (l := []) (args' := [.agg (api_Int.c x')]) (SnL.cons (Sn.pure rfl) SnL.nil) (integer_groups_ok n x' v1 hc2)), (List.forall_mem_cons.2 ⟨(callOk_ref (l := []) (args' := [.agg (api_Int.c y)]) (SnL.cons (Sn.pure rfl) SnL.nil) (integer_groups_ok n y v3 hc4)), (List.forall_mem_cons.2 ⟨(callOk_ref (l := []) (args' := [aB x'.Negative, sU32 v1, aB y.Negative, sU32 v3]) (SnL.cons (Sn.pure rfl) (SnL.cons (Sn.pure rfl) (SnL.cons (Sn.pure rfl) (SnL.cons (Sn.pure rfl) SnL.nil)))) (integer_sum_ok n x'.Negative v1 y.Negative v3 v5 hc6)), ce0⟩)⟩)⟩)) ?_
 refine EVT.p1 (.hp 0 0) ?_
 refine EVT.p1 (aB x'.Negative) ?_
 refine EVT.p1 (.agg (api_Int.c x')) ?_
 refine EVT.cal (by kernel_rfl) (by kernel_rfl) (callOf_at (by kernel_rfl)) (by kernel_rfl) ?_
 refine EVT.p1 (.hp 1 0) ?_
 refine EVT.p1 (aB y.Negative) ?_
 refine EVT.p1 (.agg (api_Int.c y)) ?_
 refine EVT.cal (by kernel_rfl) (by kernel_rfl) (callOf_skip (fun _ h => by obtain e0 := integer_groups_inj h; rw [show v3 = v1 from Option.some.inj (hc4.symm.trans ((show integer_groups n y = integer_groups n x' from (congr rfl e0)).trans hc2))]) (callOf_at (by kernel_rfl))) (by kernel_rfl) ?_
 refine EVT.cal (by kernel_rfl) (by kernel_rfl) (callOf_skip (fun h _ => absurd (show (127 : Nat) = 100 from h) (by decide)) (callOf_skip (fun h _ => absurd (show (127 : Nat) = 100 from h) (by decide)) (callOf_at (by kernel_rfl)))) (by kernel_rfl) ?_
 refine EVT.e1 (.unk) [(2, .own (api_Int.c v5))] ?_
 refine EVT.done ⟨by kernel_rfl, ?_⟩
 refine CQ.ret ?_
 obtain rfl := Option.some.inj hr
 exact FinQ.r1 [.agg (api_Int.c v5)]

theorem fraction_Add_ok (n : Nat) (x' : api_Rat) (y : api_Rat) (r : api_Rat) (hr : fraction_Add n x' y = some r) : FnOk Tryz.prog 87 [.agg [.at (.bool x'.Num.Negative), slT (iC .u32) x'.Num.Groups, .at (.bool x'.Den.Negative), slT (iC .u32) x'.Den.Groups], .agg [.at (.bool y.Num.Negative), slT (iC .u32) y.Num.Groups, .at (.bool y.Den.Negative), slT (iC .u32) y.Den.Groups]] (.agg [.at (.bool r.Num.Negative), slT (iC .u32) r.Num.Groups, .at (.bool r.Den.Negative), slT (iC .u32) r.Den.Groups]) := by
 unfold fraction_Add at hr
 refine FnOk.body fine Tryz.func87 (c := (Tryz.f87.body).getD .skip) rfl (s := mkS 26 0 [(0, .agg (api_Rat.c x')), (1, .agg (api_Rat.c y))]) (by kernel_rfl) (rs := [.cell 4 39]) rfl ?_
 unfold Tryz.f87
 simp only [Option.getD_some]
 refine CQ.seq ?_
 refine CQ.r0 fine ?_
 refine EVO.e1 (.hp 0 0) [(0, .own (api_Rat.c x'))] ?_
 refine EVO.e1 (.hp 1 0) [(1, .own (api_Rat.c y))] ?_
 refine EVO.e1 (.hp 2 0) [(2, .own [aB false, .at (.slice none 0 0), aB false, .at (.slice none 0 0)])] ?_
 refine EVO.done ?_
 refine CQ.n1 [2, 3, 4] (mkS 26 0 [(2, .hp 0 0), (3, .hp 1 0), (4, .hp 2 0)]) [.own (api_Rat.c x'), .own (api_Rat.c y), .own [aB false, .at (.slice none 0 0), aB false, .at (.slice none 0 0)]] ?_
 refine CQ.seq ?_
 replace hr := bd hr; obtain ⟨v1, hc2, hr⟩ := hr
 replace hr := bd hr; obtain ⟨v3, hc4, hr⟩ := hr
 refine CQ.regionT fine (callOf_ok [{ f := 126, args := [.agg (api_Rat.c x')], H := [.own (api_Rat.c x'), .own (api_Rat.c y), .own [aB false, .at (.slice none 0 0), aB false, .at (.slice none 0 0)]], r := .loc (.agg (api_Rat.c v1)) [] [] 0 : CE }, { f := 126, args := [.agg (api_Rat.c y)], H := [.own (api_Rat.c x'), .own (api_Rat.c y), .own [aB false, .at (.slice none 0 0), aB false, .at (.slice none 0 0)]], r := .loc (.agg (api_Rat.c v3)) [] [] 0 : CE }] (List.forall_mem_cons.2 ⟨(callOk_ref (l := []) (args' := [.agg (api_Rat.c x')]) (SnL.cons (Sn.pure rfl) SnL.nil) (fraction_Value_ok n x' v1 hc2)), (List.forall_mem_cons.2 ⟨(callOk_ref (l := []) (args' := [.agg (api_Rat.c y)]) (SnL.cons (Sn.pure rfl) SnL.nil) (fraction_Value_ok n y v3 hc4)), ce0⟩)⟩)) ?_
 refine EVT.p1 (.agg (api_Rat.c x')) ?_
 refine EVT.cal (by kernel_rfl) (by kernel_rfl) (callOf_at (by kernel_rfl)) (by kernel_rfl) ?_
 refine EVT.p1 (.agg (api_Rat.c y)) ?_
 refine EVT.cal (by kernel_rfl) (by kernel_rfl) (callOf_skip (fun _ h => by obtain e0 := fraction_Value_inj h; rw [show v3 = v1 from Option.some.inj (hc4.symm.trans ((show fraction_Value n y = fraction_Value n x' from (congr rfl e0)).trans hc2))]) (callOf_at (by kernel_rfl))) (by kernel_rfl) ?_
 refine EVT.e1 (.unk) [(0, .own (api_Rat.c v1))] ?_
 refine EVT.e1 (.unk) [(1, .own (api_Rat.c v3))] ?_
 refine EVT.done ⟨by kernel_rfl, ?_⟩
 refine CQ.n1 [2, 3, 4] (mkS 26 0 [(2, .hp 0 0), (3, .hp 1 0), (4, .hp 2 0)]) [.own (api_Rat.c v1), .own (api_Rat.c v3), .own [aB false, .at (.slice none 0 0), aB false, .at (.slice none 0 0)]] ?_
 refine CQ.seq ?_
 replace hr := bd hr; obtain ⟨v5, hc6, hr⟩ := hr
 replace hr := bd hr; obtain ⟨v7, hc8, hr⟩ := hr
 replace hr := bd hr; obtain ⟨v9, hc10, hr⟩ := hr
 replace hr := bd hr; obtain ⟨v11, hc12, hr⟩ := hr
 replace hr := bd hr; obtain ⟨v13, hc14, hr⟩ := hr
 refine CQ.regionT fine (callOf_ok [{ f := 51, args := [.agg (api_Int.c v1.Num), .agg (api_Int.c v3.Den)], H := [.own (api_Rat.c v1), .own (api_Rat.c v3), .own [aB false, .at (.slice none 0 0), aB false, .at (.slice none 0 0)]], r := .loc (.agg (api_Int.c v5)) [] [] 0 : CE }, { f := 51, args := [.agg (api_Int.c v3.Num), .agg (api_Int.c v1.Den)], H := [.own (api_Rat.c v1), .own (api_Rat.c v3), .own [aB false, .at (.slice none 0 0), aB false, .at (.slice none 0 0)]], r := .loc (.agg (api_Int.c v7)) [] [] 0 : CE }, { f := 90, args := [.agg (api_Int.c v5), .agg (api_Int.c v7)], H := [.own (api_Rat.c v1), .own (api_Rat.c v3), .own [aB false, .at (.slice none 0 0), aB false, .at (.slice none 0 0)]], r := .loc (.agg (api_Int.c v9)) [] [] 0 : CE }, { f := 51, args := [.agg (api_Int.c v1.Den), .agg (api_Int.c v3.Den)], H := [.own (api_Rat.c v1), .own (api_Rat.c v3), .own [aB false, .at (.slice none 0 0), aB false, .at (.slice none 0 0)]], r := .loc (.agg (api_Int.c v11)) [] [] 0 : CE }, { f := 98, args := [.agg (api_Int.c v9), .agg (api_Int.c v11)], H := [.own (api_Rat.c v1), .own (api_Rat.c v3), .own [aB false, .at (.slice none 0 0), aB false, .at (.slice none 0 0)]], r := .loc (.agg (api_Rat.c v13)) [] [] 0 : CE }] (List.forall_mem_cons.2 ⟨(callOk_ref (l := []) (args' := [.agg (api_Int.c v1.Num), .agg (api_Int.c v3.Den)]) (SnL.cons (Sn.pure rfl) (SnL.cons (Sn.pure rfl) SnL.nil)) (integer_Mul_ok n v1.Num v3.Den v5 hc6)), (List.forall_mem_cons.2 ⟨(callOk_ref (l := []) (args' := [.agg (api_Int.c v3.Num), .agg (api_Int.c v1.Den)]) (SnL.cons (Sn.pure rfl) (SnL.cons (Sn.pure rfl) SnL.nil)) (integer_Mul_ok n v3.Num v1.Den v7 hc8)), (List.forall_mem_cons.2 ⟨(callOk_ref (l := []) (args' := [.agg (api_Int.c v5), .agg (api_Int.c v7)]) (SnL.cons (Sn.pure rfl) (SnL.cons (Sn.pure rfl) SnL.nil)) (integer_Add_ok n v5 v7 v9 hc10)), (List.forall_mem_cons.2 ⟨(callOk_ref (l := []) (args' := [.agg (api_Int.c v1.Den), .agg (api_Int.c v3.Den)]) (SnL.cons (Sn.pure rfl) (SnL.cons (Sn.pure rfl) SnL.nil)) (integer_Mul_ok n v1.Den v3.Den v11 hc12)), (List.forall_mem_cons.2 ⟨(callOk_ref (l := []) (args' := [.agg (api_Int.c v9), .agg (api_Int.c v11)]) (SnL.cons (Sn.pure rfl) (SnL.cons (Sn.pure rfl) SnL.nil)) (fraction_reduced_ok n v9 v11 v13 hc14)), ce0⟩)⟩)⟩)⟩)⟩)) ?_
 refine EVT.p1 (.hp 0 0) ?_
 refine EVT.p1 (.agg (api_Int.c v1.Num)) ?_
 refine EVT.p1 (.hp 1 2) ?_
 refine EVT.p1 (.agg (api_Int.c v3.Den)) ?_
 refine EVT.cal (by kernel_rfl) (by kernel_rfl) (callOf_at (by kernel_rfl)) (by kernel_rfl) ?_
 refine EVT.p1 (.hp 1 0) ?_
 refine EVT.p1 (.agg (api_Int.c v3.Num)) ?_
 refine EVT.p1 (.hp 0 2) ?_
 refine EVT.p1 (.agg (api_Int.c v1.Den)) ?_
 refine EVT.cal (by kernel_rfl) (by kernel_rfl) (callOf_skip (fun _ h => by obtain ⟨e0, e1⟩ := integer_Mul_inj h; rw [show v7 = v5 from Option.some.inj (hc8.symm.trans ((show integer_Mul n v3.Num v1.Den = integer_Mul n v1.Num v3.Den from (congr (congr rfl e0) e1)).trans hc6))]) (callOf_at (by kernel_rfl))) (by kernel_rfl) ?_
 refine EVT.cal (by kernel_rfl) (by kernel_rfl) (callOf_skip (fun h _ => absurd (show (90 : Nat) = 51 from h) (by decide)) (callOf_skip (fun h _ => absurd (show (90 : Nat) = 51 from h) (by decide)) (callOf_at (by kernel_rfl)))) (by kernel_rfl) ?_
 refine EVT.p1 (.hp 0 2) ?_
 refine EVT.p1 (.agg (api_Int.c v1.Den)) ?_
 refine EVT.p1 (.hp 1 2) ?_
 refine EVT.p1 (.agg (api_Int.c v3.Den)) ?_
 refine EVT.cal (by kernel_rfl) (by kernel_rfl) (callOf_skip (fun _ h => by obtain ⟨e0, e1⟩ := integer_Mul_inj h; rw [show v11 = v5 from Option.some.inj (hc12.symm.trans ((show integer_Mul n v1.Den v3.Den = integer_Mul n v1.Num v3.Den from (congr (congr rfl e0) e1)).trans hc6))]) (callOf_skip (fun _ h => by obtain ⟨e0, e1⟩ := integer_Mul_inj h; rw [show v11 = v7 from Option.some.inj (hc12.symm.trans ((show integer_Mul n v1.Den v3.Den = integer_Mul n v3.Num v1.Den from (congr (congr rfl e0) e1)).trans hc8))]) (callOf_skip (fun h _ => absurd (show (51 : Nat) = 90 from h) (by decide)) (callOf_at (by kernel_rfl))))) (by kernel_rfl) ?_
 refine EVT.cal (by kernel_rfl) (by kernel_rfl) (callOf_skip (fun h _ => absurd (show (98 : Nat) = 51 from h) (by decide)) (callOf_skip (fun h _ => absurd (show (98 : Nat) = 51 from h) (by decide)) (callOf_skip (fun h _ => absurd (show (98 : Nat) = 90 from h) (by decide)) (callOf_skip (fun h _ => absurd (show (98 : Nat) = 51 from h) (by decide)) (callOf_at (by kernel_rfl)))))) (by kernel_rfl) ?_
 refine EVT.e1 (.unk) [(2, .own (api_Rat.c v13))] ?_
 refine EVT.done ⟨by kernel_rfl, ?_⟩
 refine CQ.ret ?_
 obtain rfl := Option.some.inj hr
 exact FinQ.r1 [.agg (api_Rat.c v13)]

theorem predicate_Meet_1_ok (n : Nat) (p : Int) (q : Int) (p' : Bool) (p'' : List Int) (p''' : Bool) (p'''' : List Int) (r : api_Rat) (hr : predicate_Meet_1 n p q p' p'' p''' p'''' = some r) : FnOk Tryz.prog 86 [.at (.int .i64 p), .at (.int .i64 q), .pp [.at (.bool p'), slT (iC .u32) p'', .at (.bool p'''), slT (iC .u32) p''''] 0] (.agg [.at (.bool r.Num.Negative), slT (iC .u32) r.Num.Groups, .at (.bool r.Den.Negative), slT (iC .u32) r.Den.Groups]) := by
 unfold predicate_Meet_1 at hr
 refine FnOk.body fine Tryz.func86 (c := (Tryz.f86.body).getD .skip) rfl (s := mkS 15 0 [(0, aI64 p), (1, aI64 q), (2, .pp [aB p', sU32 p'', aB p''', sU32 p''''] 0)]) (by kernel_rfl) (rs := [.cell 5 39]) rfl ?_
 unfold Tryz.f86
 simp only [Option.getD_some]
 refine CQ.seq ?_
 refine CQ.r0 fine ?_
 refine EVO.e1 (.hp 0 0) [(0, .own [aB false, .at (.slice none 0 0), aB false, .at (.slice none 0 0)])] ?_
 refine EVO.done ?_
 refine CQ.seq ?_
 replace hr := bd hr; obtain ⟨v1, hc2, hr⟩ := hr
 replace hr := bd hr; obtain ⟨v3, hc4, hr⟩ := hr
 replace hr := bd hr; obtain ⟨v5, hc6, hr⟩ := hr
 replace hr := bd hr; obtain ⟨v7, hc8, hr⟩ := hr
 refine CQ.regionT fine (callOf_ok [{ f := 48, args := [aI64 p], H := [.own [aB false, .at (.slice none 0 0), aB false, .at (.slice none 0 0)]], r := .loc (.agg (api_Rat.c v1)) [] [] 0 : CE }, { f := 48, args := [aI64 (wrapF .i64 (q - p))], H := [.own [aB false, .at (.slice none 0 0), aB false, .at (.slice none 0 0)]], r := .loc (.agg (api_Rat.c v3)) [] [] 0 : CE }, { f := 88, args := [.agg [aB p', sU32 p'', aB p''', sU32 p''''], .agg (api_Rat.c v3)], H := [.own [aB false, .at (.slice none 0 0), aB false, .at (.slice none 0 0)]], r := .loc (.agg (api_Rat.c v5)) [] [] 0 : CE }, { f := 87, args := [.agg (api_Rat.c v1), .agg (api_Rat.c v5)], H := [.own [aB false, .at (.slice none 0 0), aB false, .at (.slice none 0 0)]], r := .loc (.agg (api_Rat.c v7)) [] [] 0 : CE }] (List.forall_mem_cons.2 ⟨(callOk_ref (l := []) (args' := [aI64 p]) (SnL.cons (Sn.pure rfl) SnL.nil) (fraction_Whole_ok n p v1 hc2)), (List.forall_mem_cons.2 ⟨(callOk_ref (l := []) (args' := [aI64 (wrapF .i64 (q - p))]) (SnL.cons (Sn.pure rfl) SnL.nil) (fraction_Whole_ok n (wrapF .i64 (q - p)) v3 hc4)), (List.forall_mem_cons.2 ⟨(callOk_ref (l := []) (args' := [.agg (api_Rat.c (api_Rat.mk (api_Int.mk p' p'') (api_Int.mk p''' p''''))), .agg (api_Rat.c v3)]) (SnL.cons (Sn.pure rfl) (SnL.cons (Sn.pure rfl) SnL.nil)) (fraction_Mul_ok n (api_Rat.mk (api_Int.mk p' p'') (api_Int.mk p''' p'''')) v3 v5 hc6)), (List.forall_mem_cons.2 ⟨(callOk_ref (l := []) (args' := [.agg (api_Rat.c v1), .agg (api_Rat.c v5)]) (SnL.cons (Sn.pure rfl) (SnL.cons (Sn.pure rfl) SnL.nil)) (fraction_Add_ok n v1 v5 v7 hc8)), ce0⟩)⟩)⟩)⟩)) ?_
 refine EVT.p1 (aI64 p) ?_
 refine EVT.cal (by kernel_rfl) (by kernel_rfl) (callOf_at (by kernel_rfl)) (by kernel_rfl) ?_
 refine EVT.p1 (.agg [aB p', sU32 p'', aB p''', sU32 p'''']) ?_
 refine EVT.p1 (aI64 q) ?_
 refine EVT.p1 (aI64 p) ?_
 refine EVT.p1 (aI64 (wrapF .i64 (q - p))) ?_
 refine EVT.cal (by kernel_rfl) (by kernel_rfl) (callOf_skip (fun _ h => by obtain e0 := fraction_Whole_inj h; rw [show v3 = v1 from Option.some.inj (hc4.symm.trans ((show fraction_Whole n (wrapF .i64 (q - p)) = fraction_Whole n p from (congr rfl e0)).trans hc2))]) (callOf_at (by kernel_rfl))) (by kernel_rfl) ?_
 refine EVT.cal (by kernel_rfl) (by kernel_rfl) (callOf_skip (fun h _ => absurd (show (88 : Nat) = 48 from h) (by decide)) (callOf_skip (fun h _ => absurd (show (88 : Nat) = 48 from h) (by decide)) (callOf_at (by kernel_rfl)))) (by kernel_rfl) ?_
 refine EVT.cal (by kernel_rfl) (by kernel_rfl) (callOf_skip (fun h _ => absurd (show (87 : Nat) = 48 from h) (by decide)) (callOf_skip (fun h _ => absurd (show (87 : Nat) = 48 from h) (by decide)) (callOf_skip (fun h _ => absurd (show (87 : Nat) = 88 from h) (by decide)) (callOf_at (by kernel_rfl))))) (by kernel_rfl) ?_
 refine EVT.e1 (.unk) [(0, .own (api_Rat.c v7))] ?_
 refine EVT.done ⟨by kernel_rfl, ?_⟩
 refine CQ.ret ?_
 obtain rfl := Option.some.inj hr
 exact FinQ.r1 [.agg (api_Rat.c v7)]

theorem predicate_Meet_ok (n : Nat) (a : api_Pix) (b : api_Pix) (c : api_Pix) (d : api_Pix) (r : api_Place × Int) (hr : predicate_Meet n a b c d = some r) : FnOk Tryz.prog 37 [.agg [.at (.int .i64 a.X), .at (.int .i64 a.Y)], .agg [.at (.int .i64 b.X), .at (.int .i64 b.Y)], .agg [.at (.int .i64 c.X), .at (.int .i64 c.Y)], .agg [.at (.int .i64 d.X), .at (.int .i64 d.Y)]] (.tup [.agg [.at (.bool r.1.X.Num.Negative), slT (iC .u32) r.1.X.Num.Groups, .at (.bool r.1.X.Den.Negative), slT (iC .u32) r.1.X.Den.Groups, .at (.bool r.1.Y.Num.Negative), slT (iC .u32) r.1.Y.Num.Groups, .at (.bool r.1.Y.Den.Negative), slT (iC .u32) r.1.Y.Den.Groups], .at (.int .i64 r.2)]) := by
 unfold predicate_Meet at hr
 refine FnOk.body fine Tryz.func37 (c := (Tryz.f37.body).getD .skip) rfl (s := mkS 108 0 [(0, .agg (api_Pix.c a)), (1, .agg (api_Pix.c b)), (2, .agg (api_Pix.c c)), (3, .agg (api_Pix.c d))]) (by kernel_rfl) (rs := [.cell 8 49, .tmp 9]) rfl ?_
 unfold Tryz.f37
 simp only [Option.getD_some]
 refine CQ.seq ?_
 refine CQ.r0 fine ?_
 refine EVO.e1 (.hp 0 0) [(0, .own (api_Pix.c a))] ?_
 refine EVO.e1 (.hp 1 0) [(1, .own (api_Pix.c b))] ?_
 refine EVO.e1 (.hp 2 0) [(2, .own (api_Pix.c c))] ?_
 refine EVO.e1 (.hp 3 0) [(3, .own (api_Pix.c d))] ?_
 refine EVO.e1 (.hp 4 0) [(4, .own [aB false, .at (.slice none 0 0), aB false, .at (.slice none 0 0), aB false, .at (.slice none 0 0), aB false, .at (.slice none 0 0)])] ?_
 refine EVO.p1 (aI64 0) ?_
 refine EVO.done ?_
 refine CQ.n1 [4, 5, 6, 7, 8] (mkS 108 0 [(4, .hp 0 0), (5, .hp 1 0), (6, .hp 2 0), (7, .hp 3 0), (8, .hp 4 0)]) [.own (api_Pix.c a), .own (api_Pix.c b), .own (api_Pix.c c), .own (api_Pix.c d), .own [aB false, .at (.slice none 0 0), aB false, .at (.slice none 0 0), aB false, .at (.slice none 0 0), aB false, .at (.slice none 0 0)]] ?_
 refine CQ.seq ?_
 replace hr := bd hr; obtain ⟨v1, hc2, hr⟩ := hr
 refine CQ.region fine (callOf_1 36 [.agg (api_Pix.c a), .agg (api_Pix.c b), .agg (api_Pix.c c), .agg (api_Pix.c d)] [.own (api_Pix.c a), .own (api_Pix.c b), .own (api_Pix.c c), .own (api_Pix.c d), .own [aB false, .at (.slice none 0 0), aB false, .at (.slice none 0 0), aB false, .at (.slice none 0 0), aB false, .at (.slice none 0 0)]] (.loc (.tup [aI64 v1.1, aI64 v1.2]) [] [] 0) (callOk_val (l := []) (args' := [.agg (api_Pix.c a), .agg (api_Pix.c b), .agg (api_Pix.c c), .agg (api_Pix.c d)]) rfl (SnL.cons (Sn.pure rfl) (SnL.cons (Sn.pure rfl) (SnL.cons (Sn.pure rfl) (SnL.cons (Sn.pure rfl) SnL.nil)))) (predicate_Relate_ok n a b c d v1 hc2))) ?_
 refine EVO.p1 (.agg (api_Pix.c a)) ?_
 refine EVO.p1 (.agg (api_Pix.c b)) ?_
 refine EVO.p1 (.agg (api_Pix.c c)) ?_
 refine EVO.p1 (.agg (api_Pix.c d)) ?_
 refine EVO.c0 (by kernel_rfl) (callOf_at (by kernel_rfl)) ?_
 refine EVO.p1 (.tup [aI64 v1.1, aI64 v1.2]) ?_
 refine EVO.p1 (aI64 v1.1) ?_
 refine EVO.p1 (aI64 v1.2) ?_
 refine EVO.p1 (aI64 v1.1) ?_
 refine EVO.p1 (aI64 v1.2) ?_
 refine EVO.done ?_
 refine CQ.n1 [4, 5, 6, 7, 8, 10, 11] (mkS 108 0 [(4, .hp 0 0), (5, .hp 1 0), (6, .hp 2 0), (7, .hp 3 0), (8, .hp 4 0), (10, aI64 v1.1), (11, aI64 v1.2)]) [.own (api_Pix.c a), .own (api_Pix.c b), .own (api_Pix.c c), .own (api_Pix.c d), .own [aB false, .at (.slice none 0 0), aB false, .at (.slice none 0 0), aB false, .at (.slice none 0 0), aB false, .at (.slice none 0 0)]] ?_
 refine CQ.seq ?_
 refine CQ.block ?_
 refine CQ.seq ?_
 refine CQ.r0 fine ?_
 refine EVO.p1 (aI64 v1.2) ?_
 refine EVO.p1 (aB ((v1.2 : Int) != 0)) ?_
 refine EVO.p1 (aB ((v1.2 : Int) != 0)) ?_
 refine EVO.done ?_
 refine CQ.n1 [4, 5, 6, 7, 8, 10, 11, 28] (mkS 108 0 [(4, .hp 0 0), (5, .hp 1 0), (6, .hp 2 0), (7, .hp 3 0), (8, .hp 4 0), (10, aI64 v1.1), (11, aI64 v1.2), (28, aB ((v1.2 : Int) != 0))]) [.own (api_Pix.c a), .own (api_Pix.c b), .own (api_Pix.c c), .own (api_Pix.c d), .own [aB false, .at (.slice none 0 0), aB false, .at (.slice none 0 0), aB false, .at (.slice none 0 0), aB false, .at (.slice none 0 0)]] ?_
 refine CQ.cond (t := (v1.2 : Int) != 0) (by kernel_rfl) (fun hb3 => ?_) (fun hb3 => ?_)
 ·replace hr := cd_t hb3 hr
  refine CQ.seq ?_
  refine CQ.r0 fine ?_
  refine EVO.p1 (.agg [aB false, .at (.slice none 0 0), aB false, .at (.slice none 0 0), aB false, .at (.slice none 0 0), aB false, .at (.slice none 0 0)]) ?_
  refine EVO.p1 (aI64 v1.2) ?_
  refine EVO.e1 (.unk) [(4, .own [aB false, .at (.slice none 0 0), aB false, .at (.slice none 0 0), aB false, .at (.slice none 0 0), aB false, .at (.slice none 0 0)])] ?_
  refine EVO.p1 (aI64 v1.2) ?_
  refine EVO.done ?_
  refine CQ.ret ?_
  obtain rfl := Option.some.inj hr
  exact FinQ.ret (vs := [.agg [aB false, .at (.slice none 0 0), aB false, .at (.slice none 0 0), aB false, .at (.slice none 0 0), aB false, .at (.slice none 0 0)], aI64 v1.2]) (by kernel_rfl) (Sn.tup (SnL.cons (Sn.agg (SnL.cons (Sn.pure rfl) (SnL.cons Sn.nilsl (SnL.cons (Sn.pure rfl) (SnL.cons Sn.nilsl (SnL.cons (Sn.pure rfl) (SnL.cons Sn.nilsl (SnL.cons (Sn.pure rfl) (SnL.cons Sn.nilsl SnL.nil))))))))) (SnL.cons (Sn.pure rfl) SnL.nil)))
 ·replace hr := cd_f hb3 hr
  refine CQ.seq ?_
  refine CQ.r0 fine ?_
  refine EVO.p1 (aI64 v1.1) ?_
  refine EVO.p1 (aB ((v1.1 : Int) == 0)) ?_
  refine EVO.p1 (aB ((v1.1 : Int) == 0)) ?_
  refine EVO.done ?_
  refine CQ.n1 [4, 5, 6, 7, 8, 10, 33] (mkS 108 0 [(4, .hp 0 0), (5, .hp 1 0), (6, .hp 2 0), (7, .hp 3 0), (8, .hp 4 0), (10, aI64 v1.1), (33, aB ((v1.1 : Int) == 0))]) [.own (api_Pix.c a), .own (api_Pix.c b), .own (api_Pix.c c), .own (api_Pix.c d), .own [aB false, .at (.slice none 0 0), aB false, .at (.slice none 0 0), aB false, .at (.slice none 0 0), aB false, .at (.slice none 0 0)]] ?_
  refine CQ.cond (t := (v1.1 : Int) == 0) (by kernel_rfl) (fun hb4 => ?_) (fun hb4 => ?_)
  ·replace hr := cd_t hb4 hr
   refine CQ.seq ?_
   refine CQ.r0 fine ?_
   refine EVO.p1 (.agg [aB false, .at (.slice none 0 0), aB false, .at (.slice none 0 0), aB false, .at (.slice none 0 0), aB false, .at (.slice none 0 0)]) ?_
   refine EVO.e1 (.unk) [(4, .own [aB false, .at (.slice none 0 0), aB false, .at (.slice none 0 0), aB false, .at (.slice none 0 0), aB false, .at (.slice none 0 0)])] ?_
   refine EVO.p1 (aI64 6) ?_
   refine EVO.done ?_
   refine CQ.ret ?_
   obtain rfl := Option.some.inj hr
   exact FinQ.ret (vs := [.agg [aB false, .at (.slice none 0 0), aB false, .at (.slice none 0 0), aB false, .at (.slice none 0 0), aB false, .at (.slice none 0 0)], aI64 6]) (by kernel_rfl) (Sn.tup (SnL.cons (Sn.agg (SnL.cons (Sn.pure rfl) (SnL.cons Sn.nilsl (SnL.cons (Sn.pure rfl) (SnL.cons Sn.nilsl (SnL.cons (Sn.pure rfl) (SnL.cons Sn.nilsl (SnL.cons (Sn.pure rfl) (SnL.cons Sn.nilsl SnL.nil))))))))) (SnL.cons (Sn.pure rfl) SnL.nil)))
  ·replace hr := cd_f hb4 hr
   refine CQ.seq ?_
   refine CQ.r0 fine ?_
   refine EVO.p1 (aI64 v1.1) ?_
   refine EVO.p1 (aB ((v1.1 : Int) == 3)) ?_
   refine EVO.p1 (aB ((v1.1 : Int) == 3)) ?_
   refine EVO.done ?_
   refine CQ.n1 [4, 5, 6, 7, 8, 10, 37] (mkS 108 0 [(4, .hp 0 0), (5, .hp 1 0), (6, .hp 2 0), (7, .hp 3 0), (8, .hp 4 0), (10, aI64 v1.1), (37, aB ((v1.1 : Int) == 3))]) [.own (api_Pix.c a), .own (api_Pix.c b), .own (api_Pix.c c), .own (api_Pix.c d), .own [aB false, .at (.slice none 0 0), aB false, .at (.slice none 0 0), aB false, .at (.slice none 0 0), aB false, .at (.slice none 0 0)]] ?_
   refine CQ.cond (t := (v1.1 : Int) == 3) (by kernel_rfl) (fun hb5 => ?_) (fun hb5 => ?_)
   ·replace hr := cd_t hb5 hr
    refine CQ.seq ?_
    refine CQ.r0 fine ?_
    refine EVO.p1 (.agg [aB false, .at (.slice none 0 0), aB false, .at (.slice none 0 0), aB false, .at (.slice none 0 0), aB false, .at (.slice none 0 0)]) ?_
    refine EVO.e1 (.unk) [(4, .own [aB false, .at (.slice none 0 0), aB false, .at (.slice none 0 0), aB false, .at (.slice none 0 0), aB false, .at (.slice none 0 0)])] ?_
    refine EVO.p1 (aI64 11) ?_
    refine EVO.done ?_
    refine CQ.ret ?_
    obtain rfl := Option.some.inj hr
    exact FinQ.ret (vs := [.agg [aB false, .at (.slice none 0 0), aB false, .at (.slice none 0 0), aB false, .at (.slice none 0 0), aB false, .at (.slice none 0 0)], aI64 11]) (by kernel_rfl) (Sn.tup (SnL.cons (Sn.agg (SnL.cons (Sn.pure rfl) (SnL.cons Sn.nilsl (SnL.cons (Sn.pure rfl) (SnL.cons Sn.nilsl (SnL.cons (Sn.pure rfl) (SnL.cons Sn.nilsl (SnL.cons (Sn.pure rfl) (SnL.cons Sn.nilsl SnL.nil))))))))) (SnL.cons (Sn.pure rfl) SnL.nil)))
   ·replace hr := cd_f hb5 hr
    refine CQ.seq ?_
    refine CQ.r0 fine ?_
    refine EVO.p1 (aI64 v1.1) ?_
    refine EVO.p1 (aB ((v1.1 : Int) == 1)) ?_
    refine EVO.p1 (aB ((v1.1 : Int) == 1)) ?_
    refine EVO.done ?_
    refine CQ.n1 [4, 5, 6, 7, 8, 41] (mkS 108 0 [(4, .hp 0 0), (5, .hp 1 0), (6, .hp 2 0), (7, .hp 3 0), (8, .hp 4 0), (41, aB ((v1.1 : Int) == 1))]) [.own (api_Pix.c a), .own (api_Pix.c b), .own (api_Pix.c c), .own (api_Pix.c d), .own [aB false, .at (.slice none 0 0), aB false, .at (.slice none 0 0), aB false, .at (.slice none 0 0), aB false, .at (.slice none 0 0)]] ?_
    refine CQ.cond (t := (v1.1 : Int) == 1) (by kernel_rfl) (fun hb6 => ?_) (fun hb6 => ?_)
    ·replace hr := cd_t hb6 hr
     refine CQ.seq ?_
     refine CQ.seq ?_
     refine CQ.r0 fine ?_
     refine EVO.p1 (.agg (api_Pix.c a)) ?_
     refine EVO.p1 (.agg (api_Pix.c b)) ?_
     refine EVO.e1 (.hs 5 0 2 2) [(5, .own [aI64 a.X, aI64 a.Y, aI64 b.X, aI64 b.Y])] ?_
     refine EVO.p1 (aI64 2) ?_
     refine EVO.p1 (aI64 0) ?_
     refine EVO.done ?_
     refine CQ.n1 [4, 5, 6, 7, 8, 46, 47, 48] (mkS 108 0 [(4, .hp 0 0), (5, .hp 1 0), (6, .hp 2 0), (7, .hp 3 0), (8, .hp 4 0), (46, .hs 5 0 2 2), (47, aI64 2), (48, aI64 0)]) [.own (api_Pix.c a), .own (api_Pix.c b), .own (api_Pix.c c), .own (api_Pix.c d), .own [aB false, .at (.slice none 0 0), aB false, .at (.slice none 0 0), aB false, .at (.slice none 0 0), aB false, .at (.slice none 0 0)], .own [aI64 a.X, aI64 a.Y, aI64 b.X, aI64 b.Y]] ?_
     refine CQ.block ?_
     replace hr := bd hr; obtain ⟨o27, hL28, hr⟩ := hr
     refine CQ.loopO (σ := fun z0 => match z0 with | x_7 => ⟨mkS 108 0 [(4, .hp 0 0), (5, .hp 1 0), (6, .hp 2 0), (7, .hp 3 0), (8, .hp 4 0), (46, .hs 5 0 ([a, b].length) 2), (47, aI64 2), (48, aI64 x_7)], [.own (api_Pix.c a), .own (api_Pix.c b), .own (api_Pix.c c), .own (api_Pix.c d), .own [aB false, .at (.slice none 0 0), aB false, .at (.slice none 0 0), aB false, .at (.slice none 0 0), aB false, .at (.slice none 0 0)], .own ([a, b].flatMap api_Pix.c)]⟩) (Q := fun x st' => match (generalizing := false) o27 with | .inl _ => x = .exit 1 ∧ Wk 0 st' ⟨mkS 108 0 [(4, .hp 0 0), (5, .hp 1 0), (6, .hp 2 0), (7, .hp 3 0), (8, .hp 4 0)], [.own (api_Pix.c a), .own (api_Pix.c b), .own (api_Pix.c c), .own (api_Pix.c d), .own [aB false, .at (.slice none 0 0), aB false, .at (.slice none 0 0), aB false, .at (.slice none 0 0), aB false, .at (.slice none 0 0)]]⟩ | .inr (r0) => x = .ret ∧ FinQ Tryz.prog [.cell 8 49, .tmp 9] (.tup [.agg (api_Place.c r0.1), aI64 r0.2]) .ret st') hL28 ((Wk.gc [4, 5, 6, 7, 8, 46, 47, 48] [(0, true), (1, true), (2, true), (3, true), (4, true), (5, false)] rfl (by exact ⟨rfl, trivial⟩)).to (by kernel_rfl)) ?_ ?_
     ·clear hr
      rintro m x_7 hr
      show CQ _ _ _ _ _ ⟨_, _⟩
      refine CQ.seq ?_
      refine CQ.r0 fine ?_
      refine EVO.p1 (aB (decide (x_7 < 2))) ?_
      refine EVO.done ?_
      refine CQ.seq ?_
      refine CQ.cond (t := decide (x_7 < 2)) (by kernel_rfl) (fun hb18 => ?_) (fun hb18 => ?_)
      ·replace hr := cd_t hb18 hr
       refine CQ.skip ?_
       refine CQ.seq ?_
       refine CQ.block ?_
       refine CQ.seq ?_
       replace hr := gd hr; obtain ⟨hg19, hr⟩ := hr
       refine CQ.r0 fine ?_
       refine EVO.p0 (v := .hp 5 (0 + x_7.toNat * 2)) (Eq.trans (b := ORes.ofP (guardV (inR x_7 ([a, b].length)) (.hp 5 (0 + x_7.toNat * 2)))) (by kernel_rfl) (ofP_guard hg19)) ?_
       refine EVO.p0 (v := .agg (api_Pix.c (gt [a, b] x_7))) (Eq.trans (b := ORes.ofP (guardV (decide (2 ≤ (([a, b].flatMap api_Pix.c).drop (0 + x_7.toNat * 2)).length)) (.agg ((([a, b].flatMap api_Pix.c).drop (0 + x_7.toNat * 2)).take 2)))) (by kernel_rfl) (flat_load api_Pix.len (inR_lt hg19) (by decide) (by omega : 0 + x_7.toNat * 2 = x_7.toNat * 2 + 0) (by kernel_rfl))) ?_
       refine EVO.e1 (.hp 6 0) [(6, .own [aI64 0, aI64 0])] ?_
       refine EVO.e1 (.unk) [(6, .own (api_Pix.c (gt [a, b] x_7)))] ?_
       refine EVO.done ?_
       refine CQ.n1 [4, 5, 6, 7, 8, 13, 46, 47, 48] (mkS 108 0 [(4, .hp 0 0), (5, .hp 1 0), (6, .hp 2 0), (7, .hp 3 0), (8, .hp 4 0), (13, .hp 6 0), (46, .hs 5 0 ([a, b].length) 2), (47, aI64 2), (48, aI64 x_7)]) [.own (api_Pix.c a), .own (api_Pix.c b), .own (api_Pix.c c), .own (api_Pix.c d), .own [aB false, .at (.slice none 0 0), aB false, .at (.slice none 0 0), aB false, .at (.slice none 0 0), aB false, .at (.slice none 0 0)], .own ([a, b].flatMap api_Pix.c), .own (api_Pix.c (gt [a, b] x_7))] ?_
       refine CQ.seq ?_
       replace hr := bd hr; obtain ⟨v20, hc21, hr⟩ := hr
       refine CQ.region fine (callOf_1 84 [.agg (api_Pix.c c), .agg (api_Pix.c d), .agg (api_Pix.c (gt [a, b] x_7))] [.own (api_Pix.c a), .own (api_Pix.c b), .own (api_Pix.c c), .own (api_Pix.c d), .own [aB false, .at (.slice none 0 0), aB false, .at (.slice none 0 0), aB false, .at (.slice none 0 0), aB false, .at (.slice none 0 0)], .own ([a, b].flatMap api_Pix.c), .own (api_Pix.c (gt [a, b] x_7))] (.loc (aB v20) [] [] 0) (callOk_val (l := []) (args' := [.agg (api_Pix.c c), .agg (api_Pix.c d), .agg (api_Pix.c (gt [a, b] x_7))]) rfl (SnL.cons (Sn.pure rfl) (SnL.cons (Sn.pure rfl) (SnL.cons (Sn.pure rfl) SnL.nil))) (predicate_on_ok n c d (gt [a, b] x_7) v20 hc21))) ?_
       refine EVO.p1 (.agg (api_Pix.c c)) ?_
       refine EVO.p1 (.agg (api_Pix.c d)) ?_
       refine EVO.p1 (.agg (api_Pix.c (gt [a, b] x_7))) ?_
       refine EVO.c0 (by kernel_rfl) (callOf_at (by kernel_rfl)) ?_
       refine EVO.done ?_
       refine CQ.n1 [4, 5, 6, 7, 8, 13, 46, 47, 48, 55] (mkS 108 0 [(4, .hp 0 0), (5, .hp 1 0), (6, .hp 2 0), (7, .hp 3 0), (8, .hp 4 0), (13, .hp 6 0), (46, .hs 5 0 ([a, b].length) 2), (47, aI64 2), (48, aI64 x_7), (55, aB v20)]) [.own (api_Pix.c a), .own (api_Pix.c b), .own (api_Pix.c c), .own (api_Pix.c d), .own [aB false, .at (.slice none 0 0), aB false, .at (.slice none 0 0), aB false, .at (.slice none 0 0), aB false, .at (.slice none 0 0)], .own ([a, b].flatMap api_Pix.c), .own (api_Pix.c (gt [a, b] x_7))] ?_
       refine CQ.cond (t := v20) (by kernel_rfl) (fun hb22 => ?_) (fun hb22 => ?_)
       ·replace hr := cd_t hb22 hr
        refine CQ.seq ?_
        replace hr := bd hr; obtain ⟨v23, hc24, hr⟩ := hr
        replace hr := bd hr; obtain ⟨v25, hc26, hr⟩ := hr
        refine CQ.regionT fine (callOf_ok [{ f := 48, args := [aI64 (gt [a, b] x_7).X], H := [.own (api_Pix.c a), .own (api_Pix.c b), .own (api_Pix.c c), .own (api_Pix.c d), .own [aB false, .at (.slice none 0 0), aB false, .at (.slice none 0 0), aB false, .at (.slice none 0 0), aB false, .at (.slice none 0 0)], .own ([a, b].flatMap api_Pix.c), .own (api_Pix.c (gt [a, b] x_7))], r := .loc (.agg (api_Rat.c v23)) [] [] 0 : CE }, { f := 48, args := [aI64 (gt [a, b] x_7).Y], H := [.own (api_Pix.c a), .own (api_Pix.c b), .own (api_Pix.c c), .own (api_Pix.c d), .own [aB false, .at (.slice none 0 0), aB false, .at (.slice none 0 0), aB false, .at (.slice none 0 0), aB false, .at (.slice none 0 0)], .own ([a, b].flatMap api_Pix.c), .own (api_Pix.c (gt [a, b] x_7))], r := .loc (.agg (api_Rat.c v25)) [] [] 0 : CE }] (List.forall_mem_cons.2 ⟨(callOk_ref (l := []) (args' := [aI64 (gt [a, b] x_7).X]) (SnL.cons (Sn.pure rfl) SnL.nil) (fraction_Whole_ok n (gt [a, b] x_7).X v23 hc24)), (List.forall_mem_cons.2 ⟨(callOk_ref (l := []) (args' := [aI64 (gt [a, b] x_7).Y]) (SnL.cons (Sn.pure rfl) SnL.nil) (fraction_Whole_ok n (gt [a, b] x_7).Y v25 hc26)), ce0⟩)⟩)) ?_
        refine EVT.p1 (.hp 6 0) ?_
        refine EVT.p1 (aI64 (gt [a, b] x_7).X) ?_
        refine EVT.cal (by kernel_rfl) (by kernel_rfl) (callOf_at (by kernel_rfl)) (by kernel_rfl) ?_
        refine EVT.p1 (.hp 6 1) ?_
        refine EVT.p1 (aI64 (gt [a, b] x_7).Y) ?_
        refine EVT.cal (by kernel_rfl) (by kernel_rfl) (callOf_skip (fun _ h => by obtain e0 := fraction_Whole_inj h; rw [show v25 = v23 from Option.some.inj (hc26.symm.trans ((show fraction_Whole n (gt [a, b] x_7).Y = fraction_Whole n (gt [a, b] x_7).X from (congr rfl e0)).trans hc24))]) (callOf_at (by kernel_rfl))) (by kernel_rfl) ?_
        refine EVT.p1 (.agg [aB v23.Num.Negative, sU32 v23.Num.Groups, aB v23.Den.Negative, sU32 v23.Den.Groups, aB v25.Num.Negative, sU32 v25.Num.Groups, aB v25.Den.Negative, sU32 v25.Den.Groups]) ?_
        refine EVT.e1 (.unk) [(4, .own [aB v23.Num.Negative, sU32 v23.Num.Groups, aB v23.Den.Negative, sU32 v23.Den.Groups, aB v25.Num.Negative, sU32 v25.Num.Groups, aB v25.Den.Negative, sU32 v25.Den.Groups])] ?_
        refine EVT.p1 (aI64 0) ?_
        refine EVT.done ⟨by kernel_rfl, ?_⟩
        refine CQ.ret ?_
        obtain rfl := Option.some.inj hr
        exact ⟨rfl, FinQ.ret (vs := [.agg [aB v23.Num.Negative, sU32 v23.Num.Groups, aB v23.Den.Negative, sU32 v23.Den.Groups, aB v25.Num.Negative, sU32 v25.Num.Groups, aB v25.Den.Negative, sU32 v25.Den.Groups], aI64 0]) (by kernel_rfl) (Sn.tup (SnL.cons (Sn.pure rfl) (SnL.cons (Sn.pure rfl) SnL.nil)))⟩
       ·replace hr := cd_f hb22 hr
        refine CQ.skip ?_
        refine CQ.pop ?_
        refine CQ.r0 fine ?_
        refine EVO.p1 (aI64 (wrapF .i64 (x_7 + 1))) ?_
        refine EVO.p1 (aI64 (wrapF .i64 (x_7 + 1))) ?_
        refine EVO.done ?_
        exact loopF_back (wrapF .i64 (x_7 + 1)) hr ((Wk.gc [4, 5, 6, 7, 8, 46, 47, 48] [(0, true), (1, true), (2, true), (3, true), (4, true), (5, false)] rfl (by exact ⟨ids_flat api_Pix.pure _, trivial⟩)).to (by kernel_rfl))
      ·replace hr := cd_f hb18 hr
       refine CQ.leave rfl ?_
       obtain rfl := Option.some.inj hr
       exact ⟨rfl, ((Wk.gc [4, 5, 6, 7, 8] [(0, true), (1, true), (2, true), (3, true), (4, true)] rfl trivial).to (by kernel_rfl))⟩
     ·rcases o27 with ⟨⟩ | r0
      ·rintro x st' hq29
       clear hL28
       obtain ⟨rfl, hq29⟩ := hq29
       refine CQ_exit _ rfl ?_
       refine CQ.wk hq29 ?_
       refine CQ.seq ?_
       refine CQ.r0 fine ?_
       refine EVO.p1 (.agg (api_Pix.c c)) ?_
       refine EVO.e1 (.hp 5 0) [(5, .own [aI64 0, aI64 0])] ?_
       refine EVO.e1 (.unk) [(5, .own (api_Pix.c c))] ?_
       refine EVO.done ?_
       refine CQ.n1 [4, 5, 6, 7, 8, 14] (mkS 108 0 [(4, .hp 0 0), (5, .hp 1 0), (6, .hp 2 0), (7, .hp 3 0), (8, .hp 4 0), (14, .hp 5 0)]) [.own (api_Pix.c a), .own (api_Pix.c b), .own (api_Pix.c c), .own (api_Pix.c d), .own [aB false, .at (.slice none 0 0), aB false, .at (.slice none 0 0), aB false, .at (.slice none 0 0), aB false, .at (.slice none 0 0)], .own (api_Pix.c c)] ?_
       refine CQ.seq ?_
       refine CQ.seq ?_
       replace hr := bd hr; obtain ⟨v30, hc31, hr⟩ := hr
       refine CQ.region fine (callOf_1 84 [.agg (api_Pix.c a), .agg (api_Pix.c b), .agg (api_Pix.c c)] [.own (api_Pix.c a), .own (api_Pix.c b), .own (api_Pix.c c), .own (api_Pix.c d), .own [aB false, .at (.slice none 0 0), aB false, .at (.slice none 0 0), aB false, .at (.slice none 0 0), aB false, .at (.slice none 0 0)], .own (api_Pix.c c)] (.loc (aB v30) [] [] 0) (callOk_val (l := []) (args' := [.agg (api_Pix.c a), .agg (api_Pix.c b), .agg (api_Pix.c c)]) rfl (SnL.cons (Sn.pure rfl) (SnL.cons (Sn.pure rfl) (SnL.cons (Sn.pure rfl) SnL.nil))) (predicate_on_ok n a b c v30 hc31))) ?_
       refine EVO.p1 (.agg (api_Pix.c a)) ?_
       refine EVO.p1 (.agg (api_Pix.c b)) ?_
       refine EVO.p1 (.agg (api_Pix.c c)) ?_
       refine EVO.c0 (by kernel_rfl) (callOf_at (by kernel_rfl)) ?_
       refine EVO.p1 (aB (!v30)) ?_
       refine EVO.done ?_
       refine CQ.n1 [7, 8, 14, 69] (mkS 108 0 [(7, .hp 3 0), (8, .hp 4 0), (14, .hp 5 0), (69, aB (!v30))]) [.own (api_Pix.c a), .own (api_Pix.c b), .own (api_Pix.c c), .own (api_Pix.c d), .own [aB false, .at (.slice none 0 0), aB false, .at (.slice none 0 0), aB false, .at (.slice none 0 0), aB false, .at (.slice none 0 0)], .own (api_Pix.c c)] ?_
       refine CQ.cond (t := !v30) (by kernel_rfl) (fun hb32 => ?_) (fun hb32 => ?_)
       ·replace hr := cd_t hb32 hr
        refine CQ.r0 fine ?_
        refine EVO.p1 (.agg (api_Pix.c d)) ?_
        refine EVO.e1 (.unk) [(5, .own (api_Pix.c d))] ?_
        refine EVO.done ?_
        refine CQ.n1 [8, 14] (mkS 108 0 [(8, .hp 4 0), (14, .hp 5 0)]) [.own (api_Pix.c a), .own (api_Pix.c b), .own (api_Pix.c c), .own (api_Pix.c d), .own [aB false, .at (.slice none 0 0), aB false, .at (.slice none 0 0), aB false, .at (.slice none 0 0), aB false, .at (.slice none 0 0)], .own (api_Pix.c d)] ?_
        refine CQ.seq ?_
        replace hr := bd hr; obtain ⟨v33, hc34, hr⟩ := hr
        replace hr := bd hr; obtain ⟨v35, hc36, hr⟩ := hr
        refine CQ.regionT fine (callOf_ok [{ f := 48, args := [aI64 d.X], H := [.own (api_Pix.c a), .own (api_Pix.c b), .own (api_Pix.c c), .own (api_Pix.c d), .own [aB false, .at (.slice none 0 0), aB false, .at (.slice none 0 0), aB false, .at (.slice none 0 0), aB false, .at (.slice none 0 0)], .own (api_Pix.c d)], r := .loc (.agg (api_Rat.c v33)) [] [] 0 : CE }, { f := 48, args := [aI64 d.Y], H := [.own (api_Pix.c a), .own (api_Pix.c b), .own (api_Pix.c c), .own (api_Pix.c d), .own [aB false, .at (.slice none 0 0), aB false, .at (.slice none 0 0), aB false, .at (.slice none 0 0), aB false, .at (.slice none 0 0)], .own (api_Pix.c d)], r := .loc (.agg (api_Rat.c v35)) [] [] 0 : CE }] (List.forall_mem_cons.2 ⟨(callOk_ref (l := []) (args' := [aI64 d.X]) (SnL.cons (Sn.pure rfl) SnL.nil) (fraction_Whole_ok n d.X v33 hc34)), (List.forall_mem_cons.2 ⟨(callOk_ref (l := []) (args' := [aI64 d.Y]) (SnL.cons (Sn.pure rfl) SnL.nil) (fraction_Whole_ok n d.Y v35 hc36)), ce0⟩)⟩)) ?_
        refine EVT.p1 (.hp 5 0) ?_
        refine EVT.p1 (aI64 d.X) ?_
        refine EVT.cal (by kernel_rfl) (by kernel_rfl) (callOf_at (by kernel_rfl)) (by kernel_rfl) ?_
        refine EVT.p1 (.hp 5 1) ?_
        refine EVT.p1 (aI64 d.Y) ?_
        refine EVT.cal (by kernel_rfl) (by kernel_rfl) (callOf_skip (fun _ h => by obtain e0 := fraction_Whole_inj h; rw [show v35 = v33 from Option.some.inj (hc36.symm.trans ((show fraction_Whole n d.Y = fraction_Whole n d.X from (congr rfl e0)).trans hc34))]) (callOf_at (by kernel_rfl))) (by kernel_rfl) ?_
        refine EVT.p1 (.agg [aB v33.Num.Negative, sU32 v33.Num.Groups, aB v33.Den.Negative, sU32 v33.Den.Groups, aB v35.Num.Negative, sU32 v35.Num.Groups, aB v35.Den.Negative, sU32 v35.Den.Groups]) ?_
        refine EVT.e1 (.unk) [(4, .own [aB v33.Num.Negative, sU32 v33.Num.Groups, aB v33.Den.Negative, sU32 v33.Den.Groups, aB v35.Num.Negative, sU32 v35.Num.Groups, aB v35.Den.Negative, sU32 v35.Den.Groups])] ?_
        refine EVT.p1 (aI64 0) ?_
        refine EVT.done ⟨by kernel_rfl, ?_⟩
        refine CQ.ret ?_
        obtain rfl := Option.some.inj hr
        exact FinQ.ret (vs := [.agg [aB v33.Num.Negative, sU32 v33.Num.Groups, aB v33.Den.Negative, sU32 v33.Den.Groups, aB v35.Num.Negative, sU32 v35.Num.Groups, aB v35.Den.Negative, sU32 v35.Den.Groups], aI64 0]) (by kernel_rfl) (Sn.tup (SnL.cons (Sn.pure rfl) (SnL.cons (Sn.pure rfl) SnL.nil)))
       ·replace hr := cd_f hb32 hr
        refine CQ.skip ?_
        refine CQ.seq ?_
        replace hr := bd hr; obtain ⟨v37, hc38, hr⟩ := hr
        replace hr := bd hr; obtain ⟨v39, hc40, hr⟩ := hr
        refine CQ.regionT fine (callOf_ok [{ f := 48, args := [aI64 c.X], H := [.own (api_Pix.c a), .own (api_Pix.c b), .own (api_Pix.c c), .own (api_Pix.c d), .own [aB false, .at (.slice none 0 0), aB false, .at (.slice none 0 0), aB false, .at (.slice none 0 0), aB false, .at (.slice none 0 0)], .own (api_Pix.c c)], r := .loc (.agg (api_Rat.c v37)) [] [] 0 : CE }, { f := 48, args := [aI64 c.Y], H := [.own (api_Pix.c a), .own (api_Pix.c b), .own (api_Pix.c c), .own (api_Pix.c d), .own [aB false, .at (.slice none 0 0), aB false, .at (.slice none 0 0), aB false, .at (.slice none 0 0), aB false, .at (.slice none 0 0)], .own (api_Pix.c c)], r := .loc (.agg (api_Rat.c v39)) [] [] 0 : CE }] (List.forall_mem_cons.2 ⟨(callOk_ref (l := []) (args' := [aI64 c.X]) (SnL.cons (Sn.pure rfl) SnL.nil) (fraction_Whole_ok n c.X v37 hc38)), (List.forall_mem_cons.2 ⟨(callOk_ref (l := []) (args' := [aI64 c.Y]) (SnL.cons (Sn.pure rfl) SnL.nil) (fraction_Whole_ok n c.Y v39 hc40)), ce0⟩)⟩)) ?_
        refine EVT.p1 (.hp 5 0) ?_
        refine EVT.p1 (aI64 c.X) ?_
        refine EVT.cal (by kernel_rfl) (by kernel_rfl) (callOf_at (by kernel_rfl)) (by kernel_rfl) ?_
        refine EVT.p1 (.hp 5 1) ?_
        refine EVT.p1 (aI64 c.Y) ?_
        refine EVT.cal (by kernel_rfl) (by kernel_rfl) (callOf_skip (fun _ h => by obtain e0 := fraction_Whole_inj h; rw [show v39 = v37 from Option.some.inj (hc40.symm.trans ((show fraction_Whole n c.Y = fraction_Whole n c.X from (congr rfl e0)).trans hc38))]) (callOf_at (by kernel_rfl))) (by kernel_rfl) ?_
        refine EVT.p1 (.agg [aB v37.Num.Negative, sU32 v37.Num.Groups, aB v37.Den.Negative, sU32 v37.Den.Groups, aB v39.Num.Negative, sU32 v39.Num.Groups, aB v39.Den.Negative, sU32 v39.Den.Groups]) ?_
        refine EVT.e1 (.unk) [(4, .own [aB v37.Num.Negative, sU32 v37.Num.Groups, aB v37.Den.Negative, sU32 v37.Den.Groups, aB v39.Num.Negative, sU32 v39.Num.Groups, aB v39.Den.Negative, sU32 v39.Den.Groups])] ?_
        refine EVT.p1 (aI64 0) ?_
        refine EVT.done ⟨by kernel_rfl, ?_⟩
        refine CQ.ret ?_
        obtain rfl := Option.some.inj hr
        exact FinQ.ret (vs := [.agg [aB v37.Num.Negative, sU32 v37.Num.Groups, aB v37.Den.Negative, sU32 v37.Den.Groups, aB v39.Num.Negative, sU32 v39.Num.Groups, aB v39.Den.Negative, sU32 v39.Den.Groups], aI64 0]) (by kernel_rfl) (Sn.tup (SnL.cons (Sn.pure rfl) (SnL.cons (Sn.pure rfl) SnL.nil)))
      ·rintro x st' hq29
       clear hL28
       obtain ⟨rfl, hq29⟩ := hq29
       obtain rfl := Option.some.inj hr
       exact CQ_ret _ hq29
    ·replace hr := cd_f hb6 hr
     refine CQ.skip ?_
     refine CQ.pop ?_
     refine CQ.seq ?_
     replace hr := bd hr; obtain ⟨v41, hc42, hr⟩ := hr
     replace hr := bd hr; obtain ⟨v43, hc44, hr⟩ := hr
     refine CQ.regionT fine (callOf_ok [{ f := 43, args := [.agg (api_Pix.c c), .agg (api_Pix.c d), .agg (api_Pix.c a)], H := [.own (api_Pix.c a), .own (api_Pix.c b), .own (api_Pix.c c), .own (api_Pix.c d), .own [aB false, .at (.slice none 0 0), aB false, .at (.slice none 0 0), aB false, .at (.slice none 0 0), aB false, .at (.slice none 0 0)]], r := .loc (aI64 v41) [] [] 0 : CE }, { f := 43, args := [.agg (api_Pix.c c), .agg (api_Pix.c d), .agg (api_Pix.c b)], H := [.own (api_Pix.c a), .own (api_Pix.c b), .own (api_Pix.c c), .own (api_Pix.c d), .own [aB false, .at (.slice none 0 0), aB false, .at (.slice none 0 0), aB false, .at (.slice none 0 0), aB false, .at (.slice none 0 0)]], r := .loc (aI64 v43) [] [] 0 : CE }] (List.forall_mem_cons.2 ⟨(callOk_val (l := []) (args' := [.agg (api_Pix.c c), .agg (api_Pix.c d), .agg (api_Pix.c a)]) rfl (SnL.cons (Sn.pure rfl) (SnL.cons (Sn.pure rfl) (SnL.cons (Sn.pure rfl) SnL.nil))) (predicate_cross_ok n c d a v41 hc42)), (List.forall_mem_cons.2 ⟨(callOk_val (l := []) (args' := [.agg (api_Pix.c c), .agg (api_Pix.c d), .agg (api_Pix.c b)]) rfl (SnL.cons (Sn.pure rfl) (SnL.cons (Sn.pure rfl) (SnL.cons (Sn.pure rfl) SnL.nil))) (predicate_cross_ok n c d b v43 hc44)), ce0⟩)⟩)) ?_
     refine EVT.p1 (.agg (api_Pix.c c)) ?_
     refine EVT.p1 (.agg (api_Pix.c d)) ?_
     refine EVT.p1 (.agg (api_Pix.c a)) ?_
     refine EVT.cal (by kernel_rfl) (by kernel_rfl) (callOf_at (by kernel_rfl)) (by kernel_rfl) ?_
     refine EVT.p1 (.agg (api_Pix.c c)) ?_
     refine EVT.p1 (.agg (api_Pix.c d)) ?_
     refine EVT.p1 (.agg (api_Pix.c b)) ?_
     refine EVT.cal (by kernel_rfl) (by kernel_rfl) (callOf_skip (fun _ h => by obtain ⟨e0, e1, e2⟩ := predicate_cross_inj h; rw [show v43 = v41 from Option.some.inj (hc44.symm.trans ((show predicate_cross n c d b = predicate_cross n c d a from (congr (congr (congr rfl e0) e1) e2)).trans hc42))]) (callOf_at (by kernel_rfl))) (by kernel_rfl) ?_
     refine EVT.p1 (aI64 v41) ?_
     refine EVT.p1 (aI64 v43) ?_
     refine EVT.done ⟨by kernel_rfl, ?_⟩
     refine CQ.n1 [4, 5, 8, 15, 16] (mkS 108 0 [(4, .hp 0 0), (5, .hp 1 0), (8, .hp 4 0), (15, aI64 v41), (16, aI64 v43)]) [.own (api_Pix.c a), .own (api_Pix.c b), .own (api_Pix.c c), .own (api_Pix.c d), .own [aB false, .at (.slice none 0 0), aB false, .at (.slice none 0 0), aB false, .at (.slice none 0 0), aB false, .at (.slice none 0 0)]] ?_
     refine CQ.seq ?_
     replace hr := bd hr; obtain ⟨v45, hc46, hr⟩ := hr
     refine CQ.region fine (callOf_1 85 [aI64 v41, aI64 (wrapF .i64 (v41 - v43))] [.own (api_Pix.c a), .own (api_Pix.c b), .own (api_Pix.c c), .own (api_Pix.c d), .own [aB false, .at (.slice none 0 0), aB false, .at (.slice none 0 0), aB false, .at (.slice none 0 0), aB false, .at (.slice none 0 0)]] (.loc (.tup [.agg (api_Rat.c v45.1), aI64 v45.2]) [] [] 0) (callOk_ref (l := []) (args' := [aI64 v41, aI64 (wrapF .i64 (v41 - v43))]) (SnL.cons (Sn.pure rfl) (SnL.cons (Sn.pure rfl) SnL.nil)) (fraction_Of_ok n v41 (wrapF .i64 (v41 - v43)) v45 hc46))) ?_
     refine EVO.p1 (aI64 v41) ?_
     refine EVO.p1 (aI64 v41) ?_
     refine EVO.p1 (aI64 v43) ?_
     refine EVO.p1 (aI64 (wrapF .i64 (v41 - v43))) ?_
     refine EVO.c0 (by kernel_rfl) (callOf_at (by kernel_rfl)) ?_
     refine EVO.p1 (.tup [.agg (api_Rat.c v45.1), aI64 v45.2]) ?_
     refine EVO.p1 (.agg (api_Rat.c v45.1)) ?_
     refine EVO.p1 (aI64 v45.2) ?_
     refine EVO.e1 (.hp 5 0) [(5, .own [aB false, .at (.slice none 0 0), aB false, .at (.slice none 0 0)])] ?_
     refine EVO.e1 (.unk) [(5, .own (api_Rat.c v45.1))] ?_
     refine EVO.p1 (aI64 v45.2) ?_
     refine EVO.done ?_
     refine CQ.n1 [4, 5, 8, 17] (mkS 108 0 [(4, .hp 0 0), (5, .hp 1 0), (8, .hp 4 0), (17, .hp 5 0)]) [.own (api_Pix.c a), .own (api_Pix.c b), .own (api_Pix.c c), .own (api_Pix.c d), .own [aB false, .at (.slice none 0 0), aB false, .at (.slice none 0 0), aB false, .at (.slice none 0 0), aB false, .at (.slice none 0 0)], .own (api_Rat.c v45.1)] ?_
     refine CQ.seq ?_
     refine CQ.r0 fine ?_
     refine EVO.p1 (.fn 86 [] [.hp 5 0]) ?_
     refine EVO.p1 (.fn 86 [] [.hp 5 0]) ?_
     refine EVO.done ?_
     refine CQ.n1 [4, 5, 8, 19] (mkS 108 0 [(4, .hp 0 0), (5, .hp 1 0), (8, .hp 4 0), (19, .fn 86 [] [.hp 5 0])]) [.own (api_Pix.c a), .own (api_Pix.c b), .own (api_Pix.c c), .own (api_Pix.c d), .own [aB false, .at (.slice none 0 0), aB false, .at (.slice none 0 0), aB false, .at (.slice none 0 0), aB false, .at (.slice none 0 0)], .own (api_Rat.c v45.1)] ?_
     refine CQ.seq ?_
     replace hr := bd hr; obtain ⟨v47, hc48, hr⟩ := hr
     replace hr := bd hr; obtain ⟨v49, hc50, hr⟩ := hr
     refine CQ.regionT fine (callOf_ok [{ f := 86, args := [aI64 a.X, aI64 b.X, .hp 5 0], H := [.own (api_Pix.c a), .own (api_Pix.c b), .own (api_Pix.c c), .own (api_Pix.c d), .own [aB false, .at (.slice none 0 0), aB false, .at (.slice none 0 0), aB false, .at (.slice none 0 0), aB false, .at (.slice none 0 0)], .own (api_Rat.c v45.1)], r := .loc (.agg (api_Rat.c v47)) [(5, .fix (api_Rat.c v45.1))] [5] 0 : CE }, { f := 86, args := [aI64 a.Y, aI64 b.Y, .hp 5 0], H := [.own (api_Pix.c a), .own (api_Pix.c b), .own (api_Pix.c c), .own (api_Pix.c d), .own [aB false, .at (.slice none 0 0), aB false, .at (.slice none 0 0), aB false, .at (.slice none 0 0), aB false, .at (.slice none 0 0)], .fix (api_Rat.c v45.1)], r := .loc (.agg (api_Rat.c v49)) [] [5] 0 : CE }] (List.forall_mem_cons.2 ⟨(callOk_ref (l := [5]) (args' := [aI64 a.X, aI64 b.X, .pp (api_Rat.c v45.1) 0]) (SnL.cons (Sn.pure rfl) (SnL.cons (Sn.pure rfl) (SnL.cons (Sn.hp rfl (.inl rfl) (SnC.cons (Sn.pure rfl) (SnC.cons (Sn.pure rfl) (SnC.cons (Sn.pure rfl) (SnC.cons (Sn.pure rfl) SnC.nil))))) SnL.nil))) (predicate_Meet_1_ok n a.X b.X v45.1.Num.Negative v45.1.Num.Groups v45.1.Den.Negative v45.1.Den.Groups v47 hc48)), (List.forall_mem_cons.2 ⟨(callOk_ref (l := [5]) (args' := [aI64 a.Y, aI64 b.Y, .pp (api_Rat.c v45.1) 0]) (SnL.cons (Sn.pure rfl) (SnL.cons (Sn.pure rfl) (SnL.cons (Sn.hp rfl (.inr rfl) (SnC.cons (Sn.pure rfl) (SnC.cons (Sn.pure rfl) (SnC.cons (Sn.pure rfl) (SnC.cons (Sn.pure rfl) SnC.nil))))) SnL.nil))) (predicate_Meet_1_ok n a.Y b.Y v45.1.Num.Negative v45.1.Num.Groups v45.1.Den.Negative v45.1.Den.Groups v49 hc50)), ce0⟩)⟩)) ?_
     refine EVT.p1 (.fn 86 [] [.hp 5 0]) ?_
     refine EVT.p1 (.hp 0 0) ?_
     refine EVT.p1 (aI64 a.X) ?_
     refine EVT.p1 (.hp 1 0) ?_
     refine EVT.p1 (aI64 b.X) ?_
     refine EVT.cal (by kernel_rfl) (by kernel_rfl) (callOf_at (by kernel_rfl)) (by kernel_rfl) ?_
     refine EVT.p1 (.fn 86 [] [.hp 5 0]) ?_
     refine EVT.p1 (.hp 0 1) ?_
     refine EVT.p1 (aI64 a.Y) ?_
     refine EVT.p1 (.hp 1 1) ?_
     refine EVT.p1 (aI64 b.Y) ?_
     refine EVT.cal (by kernel_rfl) (by kernel_rfl) (callOf_skipH 5 2 1 (by kernel_rfl) (by kernel_rfl) (by decide) (callOf_at (by kernel_rfl))) (by kernel_rfl) ?_
     refine EVT.p1 (.agg [aB v47.Num.Negative, sU32 v47.Num.Groups, aB v47.Den.Negative, sU32 v47.Den.Groups, aB v49.Num.Negative, sU32 v49.Num.Groups, aB v49.Den.Negative, sU32 v49.Den.Groups]) ?_
     refine EVT.e1 (.unk) [(4, .own [aB v47.Num.Negative, sU32 v47.Num.Groups, aB v47.Den.Negative, sU32 v47.Den.Groups, aB v49.Num.Negative, sU32 v49.Num.Groups, aB v49.Den.Negative, sU32 v49.Den.Groups])] ?_
     refine EVT.p1 (aI64 0) ?_
     refine EVT.done ⟨by kernel_rfl, ?_⟩
     refine CQ.ret ?_
     obtain rfl := Option.some.inj hr
     exact FinQ.ret (vs := [.agg [aB v47.Num.Negative, sU32 v47.Num.Groups, aB v47.Den.Negative, sU32 v47.Den.Groups, aB v49.Num.Negative, sU32 v49.Num.Groups, aB v49.Den.Negative, sU32 v49.Den.Groups], aI64 0]) (by kernel_rfl) (Sn.tup (SnL.cons (Sn.pure rfl) (SnL.cons (Sn.pure rfl) SnL.nil)))

theorem predicate_Orient_ok (n : Nat) (a : api_Pix) (b : api_Pix) (c : api_Pix) (r : Int) (hr : predicate_Orient n a b c = some r) : FnOk Tryz.prog 38 [.agg [.at (.int .i64 a.X), .at (.int .i64 a.Y)], .agg [.at (.int .i64 b.X), .at (.int .i64 b.Y)], .agg [.at (.int .i64 c.X), .at (.int .i64 c.Y)]] (.at (.int .i64 r)) := by
 unfold predicate_Orient at hr
 refine FnOk.body fine Tryz.func38 (c := (Tryz.f38.body).getD .skip) rfl (s := mkS 18 0 [(0, .agg (api_Pix.c a)), (1, .agg (api_Pix.c b)), (2, .agg (api_Pix.c c))]) (by kernel_rfl) (rs := [.tmp 6]) rfl ?_
 unfold Tryz.f38
 simp only [Option.getD_some]
 refine CQ.seq ?_
 refine CQ.r0 fine ?_
 refine EVO.e1 (.hp 0 0) [(0, .own (api_Pix.c a))] ?_
 refine EVO.e1 (.hp 1 0) [(1, .own (api_Pix.c b))] ?_
 refine EVO.e1 (.hp 2 0) [(2, .own (api_Pix.c c))] ?_
 refine EVO.p1 (aI64 0) ?_
 refine EVO.done ?_
 refine CQ.n1 [3, 4, 5] (mkS 18 0 [(3, .hp 0 0), (4, .hp 1 0), (5, .hp 2 0)]) [.own (api_Pix.c a), .own (api_Pix.c b), .own (api_Pix.c c)] ?_
 refine CQ.seq ?_
 refine CQ.seq ?_
 replace hr := bd hr; obtain ⟨v1, hc2, hr⟩ := hr
 refine CQ.region fine (callOf_1 41 [.hs 3 0 3 2] [.own (api_Pix.c a), .own (api_Pix.c b), .own (api_Pix.c c), .own [aI64 a.X, aI64 a.Y, aI64 b.X, aI64 b.Y, aI64 c.X, aI64 c.Y]] (.loc (aI64 v1) [] [3] 0) (callOk_val (l := [3]) (args' := [slT api_Pix.c [a, b, c]]) rfl (SnL.cons (Sn.hs rfl (.inl rfl) (SnC.cons (Sn.pure rfl) (SnC.cons (Sn.pure rfl) (SnC.cons (Sn.pure rfl) (SnC.cons (Sn.pure rfl) (SnC.cons (Sn.pure rfl) (SnC.cons (Sn.pure rfl) SnC.nil)))))) (fun h => nomatch h)) SnL.nil) (predicate_Check_ok n [a, b, c] v1 hc2))) ?_
 refine EVO.p1 (.agg (api_Pix.c a)) ?_
 refine EVO.p1 (.agg (api_Pix.c b)) ?_
 refine EVO.p1 (.agg (api_Pix.c c)) ?_
 refine EVO.e1 (.hs 3 0 3 2) [(3, .own [aI64 a.X, aI64 a.Y, aI64 b.X, aI64 b.Y, aI64 c.X, aI64 c.Y])] ?_
 refine EVO.c0 (by kernel_rfl) (callOf_at (by kernel_rfl)) ?_
 refine EVO.p1 (aB ((v1 : Int) != 0)) ?_
 refine EVO.done ?_
 refine CQ.n1 [3, 4, 5, 12] (mkS 18 0 [(3, .hp 0 0), (4, .hp 1 0), (5, .hp 2 0), (12, aB ((v1 : Int) != 0))]) [.own (api_Pix.c a), .own (api_Pix.c b), .own (api_Pix.c c), .own [aI64 a.X, aI64 a.Y, aI64 b.X, aI64 b.Y, aI64 c.X, aI64 c.Y]] ?_
 refine CQ.cond (t := (v1 : Int) != 0) (by kernel_rfl) (fun hb3 => ?_) (fun hb3 => ?_)
 ·replace hr := cd_t hb3 hr
  refine CQ.seq ?_
  refine CQ.r0 fine ?_
  refine EVO.p1 (aI64 0) ?_
  refine EVO.done ?_
  refine CQ.ret ?_
  obtain rfl := Option.some.inj hr
  exact FinQ.r1 [aI64 0]
 ·replace hr := cd_f hb3 hr
  refine CQ.skip ?_
  refine CQ.seq ?_
  replace hr := bd hr; obtain ⟨v4, hc5, hr⟩ := hr
  replace hr := bd hr; obtain ⟨v6, hc7, hr⟩ := hr
  refine CQ.region fine (callOf_ok [{ f := 43, args := [.agg (api_Pix.c a), .agg (api_Pix.c b), .agg (api_Pix.c c)], H := [.own (api_Pix.c a), .own (api_Pix.c b), .own (api_Pix.c c), .own [aI64 a.X, aI64 a.Y, aI64 b.X, aI64 b.Y, aI64 c.X, aI64 c.Y]], r := .loc (aI64 v4) [] [] 0 : CE }, { f := 42, args := [aI64 v4], H := [.own (api_Pix.c a), .own (api_Pix.c b), .own (api_Pix.c c), .own [aI64 a.X, aI64 a.Y, aI64 b.X, aI64 b.Y, aI64 c.X, aI64 c.Y]], r := .loc (aI64 v6) [] [] 0 : CE }] (List.forall_mem_cons.2 ⟨(callOk_val (l := []) (args' := [.agg (api_Pix.c a), .agg (api_Pix.c b), .agg (api_Pix.c c)]) rfl (SnL.cons (Sn.pure rfl) (SnL.cons (Sn.pure rfl) (SnL.cons (Sn.pure rfl) SnL.nil))) (predicate_cross_ok n a b c v4 hc5)), (List.forall_mem_cons.2 ⟨(callOk_val (l := []) (args' := [aI64 v4]) rfl (SnL.cons (Sn.pure rfl) SnL.nil) (predicate_sign_ok n v4 v6 hc7)), ce0⟩)⟩)) ?_
  refine EVO.p1 (.agg (api_Pix.c a)) ?_
  refine EVO.p1 (.agg (api_Pix.c b)) ?_
  refine EVO.p1 (.agg (api_Pix.c c)) ?_
  refine EVO.c0 (by kernel_rfl) (callOf_at (by kernel_rfl)) ?_
  refine EVO.c0 (by kernel_rfl) (callOf_skip (fun h _ => absurd (show (42 : Nat) = 43 from h) (by decide)) (callOf_at (by kernel_rfl))) ?_
  refine EVO.p1 (aI64 v6) ?_
  refine EVO.done ?_
  refine CQ.ret ?_
  obtain rfl := Option.some.inj hr
  exact FinQ.r1 [aI64 v6]

theorem predicate_Circle_1_w_ok (n : Nat) (p : api_Pix) (q : api_Pix) (r' : api_Pix) (p' : Bool) (p'' : List Int) (p''' : Int) (p'''' : Int) (r : Bool × List Int) (hr : predicate_Circle_1_w n p q r' p' p'' p''' p'''' = some r) : FnMut 2 Tryz.prog 89 [.agg [.at (.int .i64 p.X), .at (.int .i64 p.Y)], .agg [.at (.int .i64 q.X), .at (.int .i64 q.Y)], .agg [.at (.int .i64 r'.X), .at (.int .i64 r'.Y)], .hp 0 0, .hp 1 0] [.own [.at (.bool p'), slT (iC .u32) p''], .own [.at (.int .i64 p'''), .at (.int .i64 p'''')]] (.tup []) [.own [.at (.bool r.1), slT (iC .u32) r.2], .own [.at (.int .i64 p'''), .at (.int .i64 p'''')]] := by
 unfold predicate_Circle_1_w at hr
 refine FnMut.body fine Tryz.func89 (c := (Tryz.f89.body).getD .skip) rfl (us := []) (s := mkS 21 0 [(0, .agg (api_Pix.c p)), (1, .agg (api_Pix.c q)), (2, .agg (api_Pix.c r')), (3, .hp 0 0), (4, .hp 1 0)]) (by kernel_rfl) (rs := []) rfl ?_
 unfold Tryz.f89
 simp only [Option.getD_some]
 refine CQ.seq ?_
 refine CQ.r0 fine ?_
 refine EVO.e1 (.hp 2 0) [(2, .own (api_Pix.c p))] ?_
 refine EVO.e1 (.hp 3 0) [(3, .own (api_Pix.c q))] ?_
 refine EVO.e1 (.hp 4 0) [(4, .own (api_Pix.c r'))] ?_
 refine EVO.done ?_
 refine CQ.n1 [3, 4, 5, 6, 7] (mkS 21 0 [(3, .hp 0 0), (4, .hp 1 0), (5, .hp 2 0), (6, .hp 3 0), (7, .hp 4 0)]) [.own [aB p', sU32 p''], .own [aI64 p''', aI64 p''''], .own (api_Pix.c p), .own (api_Pix.c q), .own (api_Pix.c r')] ?_
 replace hr := bd hr; obtain ⟨v15, hc16, hr⟩ := hr
 replace hr := bd hr; obtain ⟨v17, hc18, hr⟩ := hr
 replace hr := bd hr; obtain ⟨v19, hc20, hr⟩ := hr
 replace hr := bd hr; obtain ⟨v21, hc22, hr⟩ := hr
 replace hr := bd hr; obtain ⟨v23, hc24, hr⟩ := hr
 replace hr := bd hr; obtain ⟨v25, hc26, hr⟩ := hr
 refine CQ.regionT fine (callOf_ok [{ f := 47, args := [.agg [aI64 p''', aI64 p''''], .agg (api_Pix.c p), .agg (api_Pix.c p)], H := [.own [aB p', sU32 p''], .own [aI64 p''', aI64 p''''], .own (api_Pix.c p), .own (api_Pix.c q), .own (api_Pix.c r')], r := .loc (aI64 v15) [] [] 0 : CE }, { f := 49, args := [aI64 v15], H := [.own [aB p', sU32 p''], .own [aI64 p''', aI64 p''''], .own (api_Pix.c p), .own (api_Pix.c q), .own (api_Pix.c r')], r := .loc (.agg (api_Int.c v17)) [] [] 0 : CE }, { f := 43, args := [.agg [aI64 p''', aI64 p''''], .agg (api_Pix.c q), .agg (api_Pix.c r')], H := [.own [aB p', sU32 p''], .own [aI64 p''', aI64 p''''], .own (api_Pix.c p), .own (api_Pix.c q), .own (api_Pix.c r')], r := .loc (aI64 v19) [] [] 0 : CE }, { f := 49, args := [aI64 v19], H := [.own [aB p', sU32 p''], .own [aI64 p''', aI64 p''''], .own (api_Pix.c p), .own (api_Pix.c q), .own (api_Pix.c r')], r := .loc (.agg (api_Int.c v21)) [] [] 0 : CE }, { f := 51, args := [.agg (api_Int.c v17), .agg (api_Int.c v21)], H := [.own [aB p', sU32 p''], .own [aI64 p''', aI64 p''''], .own (api_Pix.c p), .own (api_Pix.c q), .own (api_Pix.c r')], r := .loc (.agg (api_Int.c v23)) [] [] 0 : CE }, { f := 90, args := [.agg [aB p', sU32 p''], .agg (api_Int.c v23)], H := [.own [aB p', sU32 p''], .own [aI64 p''', aI64 p''''], .own (api_Pix.c p), .own (api_Pix.c q), .own (api_Pix.c r')], r := .loc (.agg (api_Int.c v25)) [] [] 0 : CE }] (List.forall_mem_cons.2 ⟨(callOk_val (l := []) (args' := [.agg (api_Pix.c (api_Pix.mk p''' p'''')), .agg (api_Pix.c p), .agg (api_Pix.c p)]) rfl (SnL.cons (Sn.pure rfl) (SnL.cons (Sn.pure rfl) (SnL.cons (Sn.pure rfl) SnL.nil))) (predicate_dot_ok n (api_Pix.mk p''' p'''') p p v15 hc16)), (List.forall_mem_cons.2 ⟨(callOk_ref (l := []) (args' := [aI64 v15]) (SnL.cons (Sn.pure rfl) SnL.nil) (integer_Of_ok n v15 v17 hc18)), (List.forall_mem_cons.2 ⟨(callOk_val (l := []) (args' := [.agg (api_Pix.c (api_Pix.mk p''' p'''')), .agg (api_Pix.c q), .agg (api_Pix.c r')]) rfl (SnL.cons (Sn.pure rfl) (SnL.cons (Sn.pure rfl) (SnL.cons (Sn.pure rfl) SnL.nil))) (predicate_cross_ok n (api_Pix.mk p''' p'''') q r' v19 hc20)), (List.forall_mem_cons.2 ⟨(callOk_ref (l := []) (args' := [aI64 v19]) (SnL.cons (Sn.pure rfl) SnL.nil) (integer_Of_ok n v19 v21 hc22)), (List.forall_mem_cons.2 ⟨(callOk_ref (l := []) (args' := [.agg (api_Int.c v17), .agg (api_Int.c v21)]) (SnL.cons (Sn.pure rfl) (SnL.cons (Sn.pure rfl) SnL.nil)) (integer_Mul_ok n v17 v21 v23 hc24)), (List.forall_mem_cons.2 ⟨(callOk_ref (l := []) (args' := [.agg (api_Int.c (api_Int.mk p' p'')), .agg (api_Int.c v23)]) (SnL.cons (Sn.pure rfl) (SnL.cons (Sn.pure rfl) SnL.nil)) (integer_Add_ok n (api_Int.mk p' p'') v23 v25 hc26)), ce0⟩)⟩)⟩)⟩)⟩)⟩)) ?_
 refine EVT.p1 (.agg [aB p', sU32 p'']) ?_
 refine EVT.p1 (.agg [aI64 p''', aI64 p'''']) ?_
 refine EVT.p1 (.agg (api_Pix.c p)) ?_
 refine EVT.p1 (.agg (api_Pix.c p)) ?_
 refine EVT.cal (by kernel_rfl) (by kernel_rfl) (callOf_at (by kernel_rfl)) (by kernel_rfl) ?_
 refine EVT.cal (by kernel_rfl) (by kernel_rfl) (callOf_skip (fun h _ => absurd (show (49 : Nat) = 47 from h) (by decide)) (callOf_at (by kernel_rfl))) (by kernel_rfl) ?_
 refine EVT.p1 (.agg [aI64 p''', aI64 p'''']) ?_
 refine EVT.p1 (.agg (api_Pix.c q)) ?_
 refine EVT.p1 (.agg (api_Pix.c r')) ?_
 refine EVT.cal (by kernel_rfl) (by kernel_rfl) (callOf_skip (fun h _ => absurd (show (43 : Nat) = 47 from h) (by decide)) (callOf_skip (fun h _ => absurd (show (43 : Nat) = 49 from h) (by decide)) (callOf_at (by kernel_rfl)))) (by kernel_rfl) ?_
 refine EVT.cal (by kernel_rfl) (by kernel_rfl) (callOf_skip (fun h _ => absurd (show (49 : Nat) = 47 from h) (by decide)) (callOf_skip (fun _ h => by obtain e0 := integer_Of_inj h; rw [show v21 = v17 from Option.some.inj (hc22.symm.trans ((show integer_Of n v19 = integer_Of n v15 from (congr rfl e0)).trans hc18))]) (callOf_skip (fun h _ => absurd (show (49 : Nat) = 43 from h) (by decide)) (callOf_at (by kernel_rfl))))) (by kernel_rfl) ?_
 refine EVT.cal (by kernel_rfl) (by kernel_rfl) (callOf_skip (fun h _ => absurd (show (51 : Nat) = 47 from h) (by decide)) (callOf_skip (fun h _ => absurd (show (51 : Nat) = 49 from h) (by decide)) (callOf_skip (fun h _ => absurd (show (51 : Nat) = 43 from h) (by decide)) (callOf_skip (fun h _ => absurd (show (51 : Nat) = 49 from h) (by decide)) (callOf_at (by kernel_rfl)))))) (by kernel_rfl) ?_
 refine EVT.cal (by kernel_rfl) (by kernel_rfl) (callOf_skip (fun h _ => absurd (show (90 : Nat) = 47 from h) (by decide)) (callOf_skip (fun h _ => absurd (show (90 : Nat) = 49 from h) (by decide)) (callOf_skip (fun h _ => absurd (show (90 : Nat) = 43 from h) (by decide)) (callOf_skip (fun h _ => absurd (show (90 : Nat) = 49 from h) (by decide)) (callOf_skip (fun h _ => absurd (show (90 : Nat) = 51 from h) (by decide)) (callOf_at (by kernel_rfl))))))) (by kernel_rfl) ?_
 refine EVT.e1 (.unk) [(0, .own (api_Int.c v25))] ?_
 refine EVT.done ⟨by kernel_rfl, ?_⟩
 obtain rfl := Option.some.inj hr
 exact FinM.normal [] ((Wk.gc [] [(0, true), (1, true)] rfl trivial).to (by kernel_rfl))

theorem predicate_Circle_ok (n : Nat) (a : api_Pix) (b : api_Pix) (c : api_Pix) (d : api_Pix) (r : Int) (hr : predicate_Circle n a b c d = some r) : FnOk Tryz.prog 39 [.agg [.at (.int .i64 a.X), .at (.int .i64 a.Y)], .agg [.at (.int .i64 b.X), .at (.int .i64 b.Y)], .agg [.at (.int .i64 c.X), .at (.int .i64 c.Y)], .agg [.at (.int .i64 d.X), .at (.int .i64 d.Y)]] (.at (.int .i64 r)) := by
 unfold predicate_Circle at hr
 refine FnOk.body fine Tryz.func39 (c := (Tryz.f39.body).getD .skip) rfl (s := mkS 45 0 [(0, .agg (api_Pix.c a)), (1, .agg (api_Pix.c b)), (2, .agg (api_Pix.c c)), (3, .agg (api_Pix.c d))]) (by kernel_rfl) (rs := [.tmp 8]) rfl ?_
 unfold Tryz.f39
 simp only [Option.getD_some]
 refine CQ.seq ?_
 refine CQ.r0 fine ?_
 refine EVO.e1 (.hp 0 0) [(0, .own (api_Pix.c a))] ?_
 refine EVO.e1 (.hp 1 0) [(1, .own (api_Pix.c b))] ?_
 refine EVO.e1 (.hp 2 0) [(2, .own (api_Pix.c c))] ?_
 refine EVO.e1 (.hp 3 0) [(3, .own (api_Pix.c d))] ?_
 refine EVO.p1 (aI64 0) ?_
 refine EVO.done ?_
 refine CQ.n1 [4, 5, 6, 7] (mkS 45 0 [(4, .hp 0 0), (5, .hp 1 0), (6, .hp 2 0), (7, .hp 3 0)]) [.own (api_Pix.c a), .own (api_Pix.c b), .own (api_Pix.c c), .own (api_Pix.c d)] ?_
 refine CQ.seq ?_
 replace hr := bd hr; obtain ⟨v1, hc2, hr⟩ := hr
 refine CQ.region fine (callOf_1 38 [.agg (api_Pix.c a), .agg (api_Pix.c b), .agg (api_Pix.c c)] [.own (api_Pix.c a), .own (api_Pix.c b), .own (api_Pix.c c), .own (api_Pix.c d)] (.loc (aI64 v1) [] [] 0) (callOk_val (l := []) (args' := [.agg (api_Pix.c a), .agg (api_Pix.c b), .agg (api_Pix.c c)]) rfl (SnL.cons (Sn.pure rfl) (SnL.cons (Sn.pure rfl) (SnL.cons (Sn.pure rfl) SnL.nil))) (predicate_Orient_ok n a b c v1 hc2))) ?_
 refine EVO.p1 (.agg (api_Pix.c a)) ?_
 refine EVO.p1 (.agg (api_Pix.c b)) ?_
 refine EVO.p1 (.agg (api_Pix.c c)) ?_
 refine EVO.c0 (by kernel_rfl) (callOf_at (by kernel_rfl)) ?_
 refine EVO.p1 (aI64 v1) ?_
 refine EVO.done ?_
 refine CQ.n1 [4, 5, 6, 7, 9] (mkS 45 0 [(4, .hp 0 0), (5, .hp 1 0), (6, .hp 2 0), (7, .hp 3 0), (9, aI64 v1)]) [.own (api_Pix.c a), .own (api_Pix.c b), .own (api_Pix.c c), .own (api_Pix.c d)] ?_
 refine CQ.seq ?_
 refine CQ.seq ?_
 rcases Bool.eq_false_or_eq_true ((v1 : Int) == 0) with hb3 | hb3
 ·replace hr := cd_t hb3 hr
  refine CQ.r0 fine ?_
  refine EVO.p1 (aI64 v1) ?_
  refine EVO.p0 (v := aB true) (Eq.trans (b := some (.pure (aB ((v1 : Int) == 0)))) (by kernel_rfl) (by rw [hb3])) ?_
  refine EVO.p1 (aB true) ?_
  refine EVO.s1 ?_
  refine EVO.s1 ?_
  refine EVO.s1 ?_
  refine EVO.s1 ?_
  refine EVO.p1 (aB true) ?_
  refine EVO.done ?_
  refine CQ.n1 [4, 5, 6, 7, 9, 23] (mkS 45 0 [(4, .hp 0 0), (5, .hp 1 0), (6, .hp 2 0), (7, .hp 3 0), (9, aI64 v1), (23, aB true)]) [.own (api_Pix.c a), .own (api_Pix.c b), .own (api_Pix.c c), .own (api_Pix.c d)] ?_
  refine CQ.cT (by kernel_rfl) ?_
  refine CQ.seq ?_
  refine CQ.r0 fine ?_
  refine EVO.p1 (aI64 0) ?_
  refine EVO.done ?_
  refine CQ.ret ?_
  obtain rfl := Option.some.inj hr
  exact FinQ.r1 [aI64 0]
 ·replace hr := cd_f hb3 hr
  replace hr := bd hr; obtain ⟨v4, hc5, hr⟩ := hr
  refine CQ.region fine (callOf_1 41 [.hs 4 0 1 2] [.own (api_Pix.c a), .own (api_Pix.c b), .own (api_Pix.c c), .own (api_Pix.c d), .own (api_Pix.c d)] (.loc (aI64 v4) [] [4] 0) (callOk_val (l := [4]) (args' := [slT api_Pix.c [d]]) rfl (SnL.cons (Sn.hs rfl (.inl rfl) (SnC.cons (Sn.pure rfl) (SnC.cons (Sn.pure rfl) SnC.nil)) (fun h => nomatch h)) SnL.nil) (predicate_Check_ok n [d] v4 hc5))) ?_
  refine EVO.p1 (aI64 v1) ?_
  refine EVO.p0 (v := aB false) (Eq.trans (b := some (.pure (aB ((v1 : Int) == 0)))) (by kernel_rfl) (by rw [hb3])) ?_
  refine EVO.p1 (aB false) ?_
  refine EVO.q1 (.agg (api_Pix.c d)) ?_
  refine EVO.eff (v := .hs 4 0 1 2) (ws := [(4, .own (api_Pix.c d))]) (by kernel_rfl) (by kernel_rfl) ?_
  refine EVO.cal (by kernel_rfl) (by kernel_rfl) (callOf_at (by kernel_rfl)) ?_
  refine EVO.q1 (aB ((v4 : Int) != 0)) ?_
  refine EVO.p1 (aB ((v4 : Int) != 0)) ?_
  refine EVO.done ?_
  refine CQ.n1 [4, 5, 6, 7, 9, 23] (mkS 45 0 [(4, .hp 0 0), (5, .hp 1 0), (6, .hp 2 0), (7, .hp 3 0), (9, aI64 v1), (23, aB ((v4 : Int) != 0))]) [.own (api_Pix.c a), .own (api_Pix.c b), .own (api_Pix.c c), .own (api_Pix.c d), .own (api_Pix.c d)] ?_
  refine CQ.cond (t := (v4 : Int) != 0) (by kernel_rfl) (fun hb6 => ?_) (fun hb6 => ?_)
  ·replace hr := cd_t hb6 hr
   refine CQ.seq ?_
   refine CQ.r0 fine ?_
   refine EVO.p1 (aI64 0) ?_
   refine EVO.done ?_
   refine CQ.ret ?_
   obtain rfl := Option.some.inj hr
   exact FinQ.r1 [aI64 0]
  ·replace hr := cd_f hb6 hr
   refine CQ.skip ?_
   refine CQ.seq ?_
   replace hr := bd hr; obtain ⟨v7, hc8, hr⟩ := hr
   refine CQ.region fine (callOf_1 49 [aI64 0] [.own (api_Pix.c a), .own (api_Pix.c b), .own (api_Pix.c c), .own (api_Pix.c d), .own (api_Pix.c d)] (.loc (.agg (api_Int.c v7)) [] [] 0) (callOk_ref (l := []) (args' := [aI64 0]) (SnL.cons (Sn.pure rfl) SnL.nil) (integer_Of_ok n 0 v7 hc8))) ?_
   refine EVO.c0 (by kernel_rfl) (callOf_at (by kernel_rfl)) ?_
   refine EVO.e1 (.hp 5 0) [(5, .own [aB false, .at (.slice none 0 0)])] ?_
   refine EVO.e1 (.unk) [(5, .own (api_Int.c v7))] ?_
   refine EVO.done ?_
   refine CQ.n1 [4, 5, 6, 7, 9, 10] (mkS 45 0 [(4, .hp 0 0), (5, .hp 1 0), (6, .hp 2 0), (7, .hp 3 0), (9, aI64 v1), (10, .hp 5 0)]) [.own (api_Pix.c a), .own (api_Pix.c b), .own (api_Pix.c c), .own (api_Pix.c d), .own (api_Pix.c d), .own (api_Int.c v7)] ?_
   refine CQ.seq ?_
   refine CQ.r0 fine ?_
   refine EVO.p1 (.fn 89 [] [.hp 5 0, .hp 3 0]) ?_
   refine EVO.p1 (.fn 89 [] [.hp 5 0, .hp 3 0]) ?_
   refine EVO.done ?_
   refine CQ.n1 [4, 5, 6, 9, 10, 11] (mkS 45 0 [(4, .hp 0 0), (5, .hp 1 0), (6, .hp 2 0), (9, aI64 v1), (10, .hp 5 0), (11, .fn 89 [] [.hp 5 0, .hp 3 0])]) [.own (api_Pix.c a), .own (api_Pix.c b), .own (api_Pix.c c), .own (api_Pix.c d), .own (api_Pix.c d), .own (api_Int.c v7)] ?_
   refine CQ.seq ?_
   replace hr := bd hr; obtain ⟨v9, hc10, hr⟩ := hr
   refine CQ.region fine (callOf_1 89 [.agg (api_Pix.c a), .agg (api_Pix.c b), .agg (api_Pix.c c), .hp 5 0, .hp 3 0] [.own (api_Pix.c a), .own (api_Pix.c b), .own (api_Pix.c c), .own (api_Pix.c d), .own (api_Pix.c d), .own (api_Int.c v7)] (.loc (.tup []) [(5, .own [aB v9.1, sU32 v9.2]), (3, .own (api_Pix.c d))] [5, 3] 0) (callOk_mut 2 [(5, true), (3, true)] [true, true] (predicate_Circle_1_w_ok n a b c v7.Negative v7.Groups d.X d.Y v9 hc10) trivial trivial rfl rfl)) ?_
   refine EVO.p1 (.fn 89 [] [.hp 5 0, .hp 3 0]) ?_
   refine EVO.p1 (.agg (api_Pix.c a)) ?_
   refine EVO.p1 (.agg (api_Pix.c b)) ?_
   refine EVO.p1 (.agg (api_Pix.c c)) ?_
   refine EVO.c0 (by kernel_rfl) (callOf_at (by kernel_rfl)) ?_
   refine EVO.done ?_
   refine CQ.n1 [4, 5, 6, 9, 10, 11] (mkS 45 0 [(4, .hp 0 0), (5, .hp 1 0), (6, .hp 2 0), (9, aI64 v1), (10, .hp 5 0), (11, .fn 89 [] [.hp 5 0, .hp 3 0])]) [.own (api_Pix.c a), .own (api_Pix.c b), .own (api_Pix.c c), .own (api_Pix.c d), .own (api_Pix.c d), .own [aB v9.1, sU32 v9.2]] ?_
   refine CQ.seq ?_
   replace hr := bd hr; obtain ⟨v11, hc12, hr⟩ := hr
   refine CQ.region fine (callOf_1 89 [.agg (api_Pix.c b), .agg (api_Pix.c c), .agg (api_Pix.c a), .hp 5 0, .hp 3 0] [.own (api_Pix.c a), .own (api_Pix.c b), .own (api_Pix.c c), .own (api_Pix.c d), .own (api_Pix.c d), .own [aB v9.1, sU32 v9.2]] (.loc (.tup []) [(5, .own [aB v11.1, sU32 v11.2]), (3, .own (api_Pix.c d))] [5, 3] 0) (callOk_mut 2 [(5, true), (3, true)] [true, true] (predicate_Circle_1_w_ok n b c a v9.1 v9.2 d.X d.Y v11 hc12) trivial trivial rfl rfl)) ?_
   refine EVO.p1 (.fn 89 [] [.hp 5 0, .hp 3 0]) ?_
   refine EVO.p1 (.agg (api_Pix.c b)) ?_
   refine EVO.p1 (.agg (api_Pix.c c)) ?_
   refine EVO.p1 (.agg (api_Pix.c a)) ?_
   refine EVO.c0 (by kernel_rfl) (callOf_at (by kernel_rfl)) ?_
   refine EVO.done ?_
   refine CQ.n1 [4, 5, 6, 9, 10, 11] (mkS 45 0 [(4, .hp 0 0), (5, .hp 1 0), (6, .hp 2 0), (9, aI64 v1), (10, .hp 5 0), (11, .fn 89 [] [.hp 5 0, .hp 3 0])]) [.own (api_Pix.c a), .own (api_Pix.c b), .own (api_Pix.c c), .own (api_Pix.c d), .own (api_Pix.c d), .own [aB v11.1, sU32 v11.2]] ?_
   refine CQ.seq ?_
   replace hr := bd hr; obtain ⟨v13, hc14, hr⟩ := hr
   refine CQ.region fine (callOf_1 89 [.agg (api_Pix.c c), .agg (api_Pix.c a), .agg (api_Pix.c b), .hp 5 0, .hp 3 0] [.own (api_Pix.c a), .own (api_Pix.c b), .own (api_Pix.c c), .own (api_Pix.c d), .own (api_Pix.c d), .own [aB v11.1, sU32 v11.2]] (.loc (.tup []) [(5, .own [aB v13.1, sU32 v13.2]), (3, .own (api_Pix.c d))] [5, 3] 0) (callOk_mut 2 [(5, true), (3, true)] [true, true] (predicate_Circle_1_w_ok n c a b v11.1 v11.2 d.X d.Y v13 hc14) trivial trivial rfl rfl)) ?_
   refine EVO.p1 (.fn 89 [] [.hp 5 0, .hp 3 0]) ?_
   refine EVO.p1 (.agg (api_Pix.c c)) ?_
   refine EVO.p1 (.agg (api_Pix.c a)) ?_
   refine EVO.p1 (.agg (api_Pix.c b)) ?_
   refine EVO.c0 (by kernel_rfl) (callOf_at (by kernel_rfl)) ?_
   refine EVO.done ?_
   refine CQ.n1 [9, 10] (mkS 45 0 [(9, aI64 v1), (10, .hp 5 0)]) [.own (api_Pix.c a), .own (api_Pix.c b), .own (api_Pix.c c), .own (api_Pix.c d), .own (api_Pix.c d), .own [aB v13.1, sU32 v13.2]] ?_
   refine CQ.seq ?_
   replace hr := bd hr; obtain ⟨v15, hc16, hr⟩ := hr
   refine CQ.region fine (callOf_1 91 [.agg [aB v13.1, sU32 v13.2]] [.own (api_Pix.c a), .own (api_Pix.c b), .own (api_Pix.c c), .own (api_Pix.c d), .own (api_Pix.c d), .own [aB v13.1, sU32 v13.2]] (.loc (aI64 v15) [] [] 0) (callOk_val (l := []) (args' := [.agg (api_Int.c (api_Int.mk v13.1 v13.2))]) rfl (SnL.cons (Sn.pure rfl) SnL.nil) (integer_Sign_ok n (api_Int.mk v13.1 v13.2) v15 hc16))) ?_
   refine EVO.p1 (aI64 v1) ?_
   refine EVO.p1 (.agg [aB v13.1, sU32 v13.2]) ?_
   refine EVO.c0 (by kernel_rfl) (callOf_at (by kernel_rfl)) ?_
   refine EVO.p1 (aI64 (wrapF .i64 (v1 * v15))) ?_
   refine EVO.p1 (aI64 (wrapF .i64 (v1 * v15))) ?_
   refine EVO.done ?_
   refine CQ.ret ?_
   obtain rfl := Option.some.inj hr
   exact FinQ.r1 [aI64 (wrapF .i64 (v1 * v15))]

theorem fiducialref01_made_ok (n : Nat) (negative : Bool) (l : List Int) (r : api_Int) (hr : fiducialref01_made n negative l = some r) : FnOk Tryz.prog 139 [.at (.bool negative), slT (iC .u32) l] (.agg [.at (.bool r.Negative), slT (iC .u32) r.Groups]) := by
 unfold fiducialref01_made at hr
 refine FnOk.body fine Tryz.func139 (c := (Tryz.f139.body).getD .skip) rfl (s := mkS 31 0 [(0, aB negative), (1, sU32 l)]) (by kernel_rfl) (rs := [.cell 4 37]) rfl ?_
 unfold Tryz.f139
 simp only [Option.getD_some]
 refine CQ.seq ?_
 refine CQ.r0 fine ?_
 refine EVO.e1 (.hp 0 0) [(0, .own [aB false, .at (.slice none 0 0)])] ?_
 refine EVO.done ?_
 refine CQ.seq ?_
 refine CQ.r0 fine ?_
 refine EVO.p1 (sU32 l) ?_
 refine EVO.p1 (aI64 (l.length : Int)) ?_
 refine EVO.p1 (aI64 (l.length : Int)) ?_
 refine EVO.done ?_
 refine CQ.n1 [0, 1, 4, 5] (mkS 31 0 [(0, aB negative), (1, sU32 l), (4, .hp 0 0), (5, aI64 (l.length : Int))]) [.own [aB false, .at (.slice none 0 0)]] ?_
 refine CQ.seq ?_
 refine CQ.block ?_
 replace hr := bd hr; obtain ⟨n_5, hL11, hr⟩ := hr
 refine CQ.loopO (σ := fun z0 => match z0 with | n_1 => ⟨mkS 31 0 [(0, aB negative), (1, sU32 l), (4, .hp 0 0), (5, aI64 n_1)], [.own [aB false, .at (.slice none 0 0)]]⟩) (Q := fun x st' => x = .exit 0 ∧ Wk 0 st' ⟨mkS 31 0 [(0, aB negative), (1, sU32 l), (4, .hp 0 0), (5, aI64 n_5)], [.own [aB false, .at (.slice none 0 0)]]⟩) hL11 ((Wk.gc [0, 1, 4, 5] [(0, true)] rfl trivial).to (by kernel_rfl)) ?_ ?_
 ·clear hr
  rintro m n_1 hr
  show CQ _ _ _ _ _ ⟨_, _⟩
  refine CQ.seq ?_
  refine CQ.seq ?_
  rcases Bool.eq_false_or_eq_true (decide (n_1 > 0)) with hb7 | hb7
  ·replace hr := cd_t hb7 hr
   replace hr := gd hr; obtain ⟨hg8, hr⟩ := hr
   refine CQ.r0 fine ?_
   refine EVO.p1 (aI64 n_1) ?_
   refine EVO.p0 (v := aB true) (Eq.trans (b := some (.pure (aB (decide (n_1 > 0))))) (by kernel_rfl) (by rw [hb7])) ?_
   refine EVO.p1 (aB true) ?_
   refine EVO.q1 (sU32 l) ?_
   refine EVO.q1 (aI64 n_1) ?_
   refine EVO.q1 (aI64 (wrapF .i64 (n_1 - 1))) ?_
   refine EVO.pure (v := .pp (l.flatMap (iC .u32)) ((wrapF .i64 (n_1 - 1)).toNat * 1)) (by kernel_rfl) (Eq.trans (b := ORes.ofP (guardV (inR (wrapF .i64 (n_1 - 1)) l.length) (.pp (l.flatMap (iC .u32)) ((wrapF .i64 (n_1 - 1)).toNat * 1)))) (by kernel_rfl) (ofP_guard hg8)) ?_
   refine EVO.pure (v := aU32 (gt l (wrapF .i64 (n_1 - 1)))) (by kernel_rfl) (Eq.trans (b := ORes.ofP ((l.flatMap (iC .u32))[(wrapF .i64 (n_1 - 1)).toNat * 1]?)) (by kernel_rfl) (ofP_some (flat_get (iC_len _) (inR_lt hg8) (by decide : 0 < 1) (by omega : (wrapF .i64 (n_1 - 1)).toNat * 1 = (wrapF .i64 (n_1 - 1)).toNat * 1 + 0) (by kernel_rfl)))) ?_
   refine EVO.q1 (aB (((gt l (wrapF .i64 (n_1 - 1))) : Int) == 0)) ?_
   refine EVO.p1 (aB (((gt l (wrapF .i64 (n_1 - 1))) : Int) == 0)) ?_
   refine EVO.done ?_
   refine CQ.n1 [0, 1, 4, 5, 17] (mkS 31 0 [(0, aB negative), (1, sU32 l), (4, .hp 0 0), (5, aI64 n_1), (17, aB (((gt l (wrapF .i64 (n_1 - 1))) : Int) == 0))]) [.own [aB false, .at (.slice none 0 0)]] ?_
   refine CQ.cond (t := ((gt l (wrapF .i64 (n_1 - 1))) : Int) == 0) (by kernel_rfl) (fun hb9 => ?_) (fun hb9 => ?_)
   ·replace hr := cd_t hb9 hr
    refine CQ.skip ?_
    refine CQ.block ?_
    refine CQ.r0 fine ?_
    refine EVO.p1 (aI64 n_1) ?_
    refine EVO.p1 (aI64 (wrapF .i64 (n_1 - 1))) ?_
    refine EVO.p1 (aI64 (wrapF .i64 (n_1 - 1))) ?_
    refine EVO.done ?_
    refine CQ.pop ?_
    exact loopF_back (wrapF .i64 (n_1 - 1)) hr ((Wk.gc [0, 1, 4, 5] [(0, true)] rfl trivial).to (by kernel_rfl))
   ·replace hr := cd_f hb9 hr
    refine CQ.leave rfl ?_
    obtain rfl := Option.some.inj hr
    exact ⟨rfl, ((Wk.gc [0, 1, 4, 5] [(0, true)] rfl trivial).to (by kernel_rfl))⟩
  ·replace hr := cd_f hb7 hr
   refine CQ.r0 fine ?_
   refine EVO.p1 (aI64 n_1) ?_
   refine EVO.p0 (v := aB false) (Eq.trans (b := some (.pure (aB (decide (n_1 > 0))))) (by kernel_rfl) (by rw [hb7])) ?_
   refine EVO.p1 (aB false) ?_
   refine EVO.s1 ?_
   refine EVO.s1 ?_
   refine EVO.s1 ?_
   refine EVO.s1 ?_
   refine EVO.s1 ?_
   refine EVO.s1 ?_
   refine EVO.p1 (aB false) ?_
   refine EVO.done ?_
   refine CQ.n1 [0, 1, 4, 5, 17] (mkS 31 0 [(0, aB negative), (1, sU32 l), (4, .hp 0 0), (5, aI64 n_1), (17, aB false)]) [.own [aB false, .at (.slice none 0 0)]] ?_
   refine CQ.cF (by kernel_rfl) ?_
   refine CQ.leave rfl ?_
   obtain rfl := Option.some.inj hr
   exact ⟨rfl, ((Wk.gc [0, 1, 4, 5] [(0, true)] rfl trivial).to (by kernel_rfl))⟩
 ·rintro x st' hq12
  clear hL11
  obtain ⟨rfl, hq12⟩ := hq12
  refine CQ_exit _ rfl ?_
  refine CQ.wk hq12 ?_
  refine CQ.seq ?_
  rcases Bool.eq_false_or_eq_true negative with hb13 | hb13
  ·replace hr := cd_t hb13 hr
   replace hr := gd hr; obtain ⟨hg14, hr⟩ := hr
   replace hr := gd hr; obtain ⟨hg15, hr⟩ := hr
   replace hr := gd hr; obtain ⟨hg16, hr⟩ := hr
   refine CQ.r0 fine ?_
   refine EVO.p0 (v := aB true) (Eq.trans (b := some (.pure (aB negative))) (by kernel_rfl) (by rw [hb13])) ?_
   refine EVO.p1 (aB true) ?_
   refine EVO.q1 (aI64 n_5) ?_
   refine EVO.q1 (aB (decide (n_5 > 0))) ?_
   refine EVO.p1 (aB (decide (n_5 > 0))) ?_
   refine EVO.e1 (.hs 1 0 0 1) [(1, .own [])] ?_
   refine EVO.p1 (sU32 l) ?_
   refine EVO.p1 (aI64 n_5) ?_
   refine EVO.p0 (v := sU32 ((l.drop (0 : Int).toNat).take (n_5.toNat - (0 : Int).toNat))) (Eq.trans (b := slO (inS 0 n_5 l.length) (0 : Int).toNat n_5.toNat (fun z1 z2 => .sl true (((l.flatMap (iC .u32)).drop (z1 * 1)).take ((z2 - z1) * 1)) (z2 - z1))) (by kernel_rfl) (slO_t hg14 (sub_sl (iC_len _) (inS_le hg14)))) ?_
   refine EVO.e0 (v := .hs 2 0 ((l.drop (0 : Int).toNat).take (n_5.toNat - (0 : Int).toNat)).length 1) (ws := [(1, .dead), (2, .own (((l.drop (0 : Int).toNat).take (n_5.toNat - (0 : Int).toNat)).flatMap (iC .u32)))]) (Eq.trans (b := appS (decide (((((l.drop (0 : Int).toNat).take (n_5.toNat - (0 : Int).toNat)).flatMap (iC .u32))).length = ((l.drop (0 : Int).toNat).take (n_5.toNat - (0 : Int).toNat)).length * 1)) (((l.drop (0 : Int).toNat).take (n_5.toNat - (0 : Int).toNat)).flatMap (iC .u32)) ((l.drop (0 : Int).toNat).take (n_5.toNat - (0 : Int).toNat)).length (fun z1 z2 => guardO (decide (0 + 0 * 1 ≤ (([] : List Int).flatMap (iC .u32)).length) && decide ((0 + z2) * 4 ≤ 140737488355328) && decide (0 + z2 ≤ 4611686018427387904)) (some (.eff (.hs 2 0 (0 + z2) 1) [(1, .dead), (2, .own (((([] : List Int).flatMap (iC .u32)).drop 0).take (0 * 1) ++ z1))])))) (by kernel_rfl) (appS_t (flat_lenB (iC_len _)) rfl (app_own (l := ([] : List Int)) (xs := (l.drop (0 : Int).toNat).take (n_5.toNat - (0 : Int).toNat)) (iC_len _) rfl rfl rfl hg15 hg16))) ?_
   refine EVO.p1 (.agg [aB (decide (n_5 > 0)), .hs 2 0 ((l.drop (0 : Int).toNat).take (n_5.toNat - (0 : Int).toNat)).length 1]) ?_
   refine EVO.e1 (.unk) [(0, .own [aB (decide (n_5 > 0)), .hs 2 0 ((l.drop (0 : Int).toNat).take (n_5.toNat - (0 : Int).toNat)).length 1])] ?_
   refine EVO.done ?_
   refine CQ.ret ?_
   obtain rfl := Option.some.inj hr
   exact FinQ.ret (vs := [.agg [aB (decide (n_5 > 0)), .hs 2 0 ((l.drop (0 : Int).toNat).take (n_5.toNat - (0 : Int).toNat)).length 1]]) (by kernel_rfl) (Sn.agg (SnL.cons (Sn.pure rfl) (SnL.cons (Sn.hs rfl (.inl rfl) (SnC.pure (ids_flat (iC_pure _) _)) (fun h => flat_nil0 h)) SnL.nil)))
  ·replace hr := cd_f hb13 hr
   replace hr := gd hr; obtain ⟨hg17, hr⟩ := hr
   replace hr := gd hr; obtain ⟨hg18, hr⟩ := hr
   replace hr := gd hr; obtain ⟨hg19, hr⟩ := hr
   refine CQ.r0 fine ?_
   refine EVO.p0 (v := aB false) (Eq.trans (b := some (.pure (aB negative))) (by kernel_rfl) (by rw [hb13])) ?_
   refine EVO.p1 (aB false) ?_
   refine EVO.s1 ?_
   refine EVO.s1 ?_
   refine EVO.p1 (aB false) ?_
   refine EVO.e1 (.hs 1 0 0 1) [(1, .own [])] ?_
   refine EVO.p1 (sU32 l) ?_
   refine EVO.p1 (aI64 n_5) ?_
   refine EVO.p0 (v := sU32 ((l.drop (0 : Int).toNat).take (n_5.toNat - (0 : Int).toNat))) (Eq.trans (b := slO (inS 0 n_5 l.length) (0 : Int).toNat n_5.toNat (fun z1 z2 => .sl true (((l.flatMap (iC .u32)).drop (z1 * 1)).take ((z2 - z1) * 1)) (z2 - z1))) (by kernel_rfl) (slO_t hg17 (sub_sl (iC_len _) (inS_le hg17)))) ?_
   refine EVO.e0 (v := .hs 2 0 ((l.drop (0 : Int).toNat).take (n_5.toNat - (0 : Int).toNat)).length 1) (ws := [(1, .dead), (2, .own (((l.drop (0 : Int).toNat).take (n_5.toNat - (0 : Int).toNat)).flatMap (iC .u32)))]) (Eq.trans (b := appS (decide (((((l.drop (0 : Int).toNat).take (n_5.toNat - (0 : Int).toNat)).flatMap (iC .u32))).length = ((l.drop (0 : Int).toNat).take (n_5.toNat - (0 : Int).toNat)).length * 1)) (((l.drop (0 : Int).toNat).take (n_5.toNat - (0 : Int).toNat)).flatMap (iC .u32)) ((l.drop (0 : Int).toNat).take (n_5.toNat - (0 : Int).toNat)).length (fun z1 z2 => guardO (decide (0 + 0 * 1 ≤ (([] : List Int).flatMap (iC .u32)).length) && decide ((0 + z2) * 4 ≤ 140737488355328) && decide (0 + z2 ≤ 4611686018427387904)) (some (.eff (.hs 2 0 (0 + z2) 1) [(1, .dead), (2, .own (((([] : List Int).flatMap (iC .u32)).drop 0).take (0 * 1) ++ z1))])))) (by kernel_rfl) (appS_t (flat_lenB (iC_len _)) rfl (app_own (l := ([] : List Int)) (xs := (l.drop (0 : Int).toNat).take (n_5.toNat - (0 : Int).toNat)) (iC_len _) rfl rfl rfl hg18 hg19))) ?_
   refine EVO.p1 (.agg [aB false, .hs 2 0 ((l.drop (0 : Int).toNat).take (n_5.toNat - (0 : Int).toNat)).length 1]) ?_
   refine EVO.e1 (.unk) [(0, .own [aB false, .hs 2 0 ((l.drop (0 : Int).toNat).take (n_5.toNat - (0 : Int).toNat)).length 1])] ?_
   refine EVO.done ?_
   refine CQ.ret ?_
   obtain rfl := Option.some.inj hr
   exact FinQ.ret (vs := [.agg [aB false, .hs 2 0 ((l.drop (0 : Int).toNat).take (n_5.toNat - (0 : Int).toNat)).length 1]]) (by kernel_rfl) (Sn.agg (SnL.cons (Sn.pure rfl) (SnL.cons (Sn.hs rfl (.inl rfl) (SnC.pure (ids_flat (iC_pure _) _)) (fun h => flat_nil0 h)) SnL.nil)))

theorem fiducialref01_Of_ok (n : Nat) (n' : Int) (r : api_Int) (hr : fiducialref01_Of n n' = some r) : FnOk Tryz.prog 103 [.at (.int .i64 n')] (.agg [.at (.bool r.Negative), slT (iC .u32) r.Groups]) := by
 unfold fiducialref01_Of at hr
 refine FnOk.body fine Tryz.func103 (c := (Tryz.f103.body).getD .skip) rfl (s := mkS 29 0 [(0, aI64 n')]) (by kernel_rfl) (rs := [.cell 2 37]) rfl ?_
 unfold Tryz.f103
 simp only [Option.getD_some]
 refine CQ.seq ?_
 refine CQ.r0 fine ?_
 refine EVO.e1 (.hp 0 0) [(0, .own [aB false, .at (.slice none 0 0)])] ?_
 refine EVO.done ?_
 refine CQ.seq ?_
 refine CQ.r0 fine ?_
 refine EVO.p1 (aI64 n') ?_
 refine EVO.p1 (aU64 (wrapF .u64 n')) ?_
 refine EVO.p1 (aU64 (wrapF .u64 n')) ?_
 refine EVO.done ?_
 refine CQ.n1 [0, 2, 3] (mkS 29 0 [(0, aI64 n'), (2, .hp 0 0), (3, aU64 (wrapF .u64 n'))]) [.own [aB false, .at (.slice none 0 0)]] ?_
 refine CQ.seq ?_
 refine CQ.seq ?_
 refine CQ.r0 fine ?_
 refine EVO.p1 (aI64 n') ?_
 refine EVO.p1 (aB (decide (n' < 0))) ?_
 refine EVO.done ?_
 refine CQ.n1 [0, 2, 3, 8] (mkS 29 0 [(0, aI64 n'), (2, .hp 0 0), (3, aU64 (wrapF .u64 n')), (8, aB (decide (n' < 0)))]) [.own [aB false, .at (.slice none 0 0)]] ?_
 refine CQ.cond (t := decide (n' < 0)) (by kernel_rfl) (fun hb1 => ?_) (fun hb1 => ?_)
 ·replace hr := cd_t hb1 hr
  refine CQ.r0 fine ?_
  refine EVO.p1 (aI64 n') ?_
  refine EVO.p1 (aI64 (wrapF .i64 (n' + 1))) ?_
  refine EVO.p0 (v := aI64 (wrapF .i64 (0 - (wrapF .i64 (n' + 1))))) (Eq.trans (b := some (.pure (aI64 (IntKind.wrap .i64 (0 - (wrapF .i64 (n' + 1))))))) (by kernel_rfl) wrap_at) ?_
  refine EVO.p1 (aU64 (wrapF .u64 (wrapF .i64 (0 - (wrapF .i64 (n' + 1)))))) ?_
  refine EVO.p1 (aU64 (wrapF .u64 ((wrapF .u64 (wrapF .i64 (0 - (wrapF .i64 (n' + 1))))) + 1))) ?_
  refine EVO.p1 (aU64 (wrapF .u64 ((wrapF .u64 (wrapF .i64 (0 - (wrapF .i64 (n' + 1))))) + 1))) ?_
  refine EVO.done ?_
  refine CQ.n1 [0, 2, 3] (mkS 29 0 [(0, aI64 n'), (2, .hp 0 0), (3, aU64 (wrapF .u64 ((wrapF .u64 (wrapF .i64 (0 - (wrapF .i64 (n' + 1))))) + 1)))]) [.own [aB false, .at (.slice none 0 0)]] ?_
  refine CQ.seq ?_
  refine CQ.r0 fine ?_
  refine EVO.e1 (.hs 1 0 0 1) [(1, .own [])] ?_
  refine EVO.p1 (.hs 1 0 0 1) ?_
  refine EVO.done ?_
  refine CQ.n1 [0, 2, 3, 4] (mkS 29 0 [(0, aI64 n'), (2, .hp 0 0), (3, aU64 (wrapF .u64 ((wrapF .u64 (wrapF .i64 (0 - (wrapF .i64 (n' + 1))))) + 1))), (4, .hs 1 0 0 1)]) [.own [aB false, .at (.slice none 0 0)], .own []] ?_
  refine CQ.seq ?_
  refine CQ.block ?_
  replace hr := bd hr; obtain ⟨l_7, hL13, hr⟩ := hr
  refine CQ.loopO (σ := fun z0 => match z0 with | (u_2, l_3) => ⟨mkS 29 0 [(0, aI64 n'), (2, .hp 0 0), (3, aU64 u_2), (4, .hs 1 0 l_3.length 1)], [.own [aB false, .at (.slice none 0 0)], .own (l_3.flatMap (iC .u32))]⟩) (Q := fun x st' => x = .exit 0 ∧ Wk 0 st' ⟨mkS 29 0 [(0, aI64 n'), (2, .hp 0 0), (4, .hs 1 0 l_7.length 1)], [.own [aB false, .at (.slice none 0 0)], .own (l_7.flatMap (iC .u32))]⟩) hL13 ((Wk.gc [0, 2, 3, 4] [(0, true), (1, false)] rfl (by exact ⟨rfl, trivial⟩)).to (by kernel_rfl)) ?_ ?_
  ·clear hr
   rintro m ⟨u_2, l_3⟩ hr
   show CQ _ _ _ _ _ ⟨_, _⟩
   refine CQ.seq ?_
   refine CQ.seq ?_
   refine CQ.r0 fine ?_
   refine EVO.p1 (aU64 u_2) ?_
   refine EVO.p1 (aB (decide (u_2 > 0))) ?_
   refine EVO.done ?_
   refine CQ.n1 [0, 2, 3, 4, 16] (mkS 29 0 [(0, aI64 n'), (2, .hp 0 0), (3, aU64 u_2), (4, .hs 1 0 l_3.length 1), (16, aB (decide (u_2 > 0)))]) [.own [aB false, .at (.slice none 0 0)], .own (l_3.flatMap (iC .u32))] ?_
   refine CQ.cond (t := decide (u_2 > 0)) (by kernel_rfl) (fun hb9 => ?_) (fun hb9 => ?_)
   ·replace hr := cd_t hb9 hr
    refine CQ.skip ?_
    refine CQ.block ?_
    refine CQ.seq ?_
    replace hr := gd hr; obtain ⟨hg10, hr⟩ := hr
    replace hr := gd hr; obtain ⟨hg11, hr⟩ := hr
    refine CQ.r0 fine ?_
    refine EVO.p1 (.hs 1 0 l_3.length 1) ?_
    refine EVO.p1 (aU64 u_2) ?_
    refine EVO.p1 (aU64 (u_2.tmod 1000000000)) ?_
    refine EVO.p1 (aU32 (wrapF .u32 (u_2.tmod 1000000000))) ?_
    refine EVO.e1 (.hs 2 0 1 1) [(2, .own [aU32 (wrapF .u32 (u_2.tmod 1000000000))])] ?_
    refine EVO.e0 (v := .hs 3 0 (l_3 ++ [wrapF .u32 (u_2.tmod 1000000000)]).length 1) (ws := [(1, .dead), (3, .own ((l_3 ++ [wrapF .u32 (u_2.tmod 1000000000)]).flatMap (iC .u32)))]) (Eq.trans (b := guardO (decide (0 + l_3.length * 1 ≤ (l_3.flatMap (iC .u32)).length) && decide ((l_3.length + 1) * 4 ≤ 140737488355328) && decide (l_3.length + 1 ≤ 4611686018427387904)) (some (.eff (.hs 3 0 (l_3.length + 1) 1) [(1, .dead), (3, .own (((l_3.flatMap (iC .u32)).drop 0).take (l_3.length * 1) ++ [aU32 (wrapF .u32 (u_2.tmod 1000000000))]))]))) (by kernel_rfl) (app_own (l := l_3) (xs := [wrapF .u32 (u_2.tmod 1000000000)]) (iC_len _) rfl rfl (by kernel_rfl) hg10 hg11)) ?_
    refine EVO.p1 (.hs 3 0 (l_3 ++ [wrapF .u32 (u_2.tmod 1000000000)]).length 1) ?_
    refine EVO.done ?_
    refine CQ.n1 [0, 2, 3, 4] (mkS 29 0 [(0, aI64 n'), (2, .hp 0 0), (3, aU64 u_2), (4, .hs 3 0 (l_3 ++ [wrapF .u32 (u_2.tmod 1000000000)]).length 1)]) [.own [aB false, .at (.slice none 0 0)], .dead, .own [aU32 (wrapF .u32 (u_2.tmod 1000000000))], .own ((l_3 ++ [wrapF .u32 (u_2.tmod 1000000000)]).flatMap (iC .u32))] ?_
    refine CQ.r0 fine ?_
    refine EVO.p1 (aU64 u_2) ?_
    refine EVO.p1 (aU64 (wrapF .u64 (u_2.tdiv 1000000000))) ?_
    refine EVO.p1 (aU64 (wrapF .u64 (u_2.tdiv 1000000000))) ?_
    refine EVO.done ?_
    refine CQ.pop ?_
    exact loopF_back (wrapF .u64 (u_2.tdiv 1000000000), l_3 ++ [wrapF .u32 (u_2.tmod 1000000000)]) hr ((Wk.gc [0, 2, 3, 4] [(0, true), (3, false)] rfl (by exact ⟨ids_flat (iC_pure _) _, trivial⟩)).to (by kernel_rfl))
   ·replace hr := cd_f hb9 hr
    refine CQ.leave rfl ?_
    obtain rfl := Option.some.inj hr
    exact ⟨rfl, ((Wk.gc [0, 2, 4] [(0, true), (1, false)] rfl (by exact ⟨ids_flat (iC_pure _) _, trivial⟩)).to (by kernel_rfl))⟩
  ·rintro x st' hq14
   clear hL13
   obtain ⟨rfl, hq14⟩ := hq14
   refine CQ_exit _ rfl ?_
   refine CQ.wk hq14 ?_
   refine CQ.seq ?_
   replace hr := bd hr; obtain ⟨v15, hc16, hr⟩ := hr
   refine CQ.region fine (callOf_1 139 [aB true, .hs 1 0 l_7.length 1] [.own [aB false, .at (.slice none 0 0)], .own (l_7.flatMap (iC .u32))] (.loc (.agg (api_Int.c v15)) [(1, .fix (l_7.flatMap (iC .u32)))] [1] 0) (callOk_ref (l := [1]) (args' := [aB true, sU32 l_7]) (SnL.cons (Sn.pure rfl) (SnL.cons (Sn.hs rfl (.inl rfl) (SnC.pure (ids_flat (iC_pure _) _)) (fun h => flat_nil0 h)) SnL.nil)) (fiducialref01_made_ok n true l_7 v15 hc16))) ?_
   refine EVO.p1 (aI64 n') ?_
   refine EVO.p0 (v := aB true) (Eq.trans (b := some (.pure (aB (decide (n' < 0))))) (by kernel_rfl) (by rw [hb1])) ?_
   refine EVO.p1 (.hs 1 0 l_7.length 1) ?_
   refine EVO.c0 (by kernel_rfl) (callOf_at (by kernel_rfl)) ?_
   refine EVO.e1 (.unk) [(0, .own (api_Int.c v15))] ?_
   refine EVO.done ?_
   refine CQ.ret ?_
   obtain rfl := Option.some.inj hr
   exact FinQ.r1 [.agg (api_Int.c v15)]
 ·replace hr := cd_f hb1 hr
  refine CQ.skip ?_
  refine CQ.seq ?_
  refine CQ.r0 fine ?_
  refine EVO.e1 (.hs 1 0 0 1) [(1, .own [])] ?_
  refine EVO.p1 (.hs 1 0 0 1) ?_
  refine EVO.done ?_
  refine CQ.n1 [0, 2, 3, 4] (mkS 29 0 [(0, aI64 n'), (2, .hp 0 0), (3, aU64 (wrapF .u64 n')), (4, .hs 1 0 0 1)]) [.own [aB false, .at (.slice none 0 0)], .own []] ?_
  refine CQ.seq ?_
  refine CQ.block ?_
  replace hr := bd hr; obtain ⟨l_22, hL28, hr⟩ := hr
  refine CQ.loopO (σ := fun z0 => match z0 with | (u_17, l_18) => ⟨mkS 29 0 [(0, aI64 n'), (2, .hp 0 0), (3, aU64 u_17), (4, .hs 1 0 l_18.length 1)], [.own [aB false, .at (.slice none 0 0)], .own (l_18.flatMap (iC .u32))]⟩) (Q := fun x st' => x = .exit 0 ∧ Wk 0 st' ⟨mkS 29 0 [(0, aI64 n'), (2, .hp 0 0), (4, .hs 1 0 l_22.length 1)], [.own [aB false, .at (.slice none 0 0)], .own (l_22.flatMap (iC .u32))]⟩) hL28 ((Wk.gc [0, 2, 3, 4] [(0, true), (1, false)] rfl (by exact ⟨rfl, trivial⟩)).to (by kernel_rfl)) ?_ ?_
  ·clear hr
   rintro m ⟨u_17, l_18⟩ hr
   show CQ _ _ _ _ _ ⟨_, _⟩
   refine CQ.seq ?_
   refine CQ.seq ?_
   refine CQ.r0 fine ?_
   refine EVO.p1 (aU64 u_17) ?_
   refine EVO.p1 (aB (decide (u_17 > 0))) ?_
   refine EVO.done ?_
   refine CQ.n1 [0, 2, 3, 4, 16] (mkS 29 0 [(0, aI64 n'), (2, .hp 0 0), (3, aU64 u_17), (4, .hs 1 0 l_18.length 1), (16, aB (decide (u_17 > 0)))]) [.own [aB false, .at (.slice none 0 0)], .own (l_18.flatMap (iC .u32))] ?_
   refine CQ.cond (t := decide (u_17 > 0)) (by kernel_rfl) (fun hb24 => ?_) (fun hb24 => ?_)
   ·replace hr := cd_t hb24 hr
    refine CQ.skip ?_
    refine CQ.block ?_
    refine CQ.seq ?_
    replace hr := gd hr; obtain ⟨hg25, hr⟩ := hr
    replace hr := gd hr; obtain ⟨hg26, hr⟩ := hr
    refine CQ.r0 fine ?_
    refine EVO.p1 (.hs 1 0 l_18.length 1) ?_
    refine EVO.p1 (aU64 u_17) ?_
    refine EVO.p1 (aU64 (u_17.tmod 1000000000)) ?_
    refine EVO.p1 (aU32 (wrapF .u32 (u_17.tmod 1000000000))) ?_
    refine EVO.e1 (.hs 2 0 1 1) [(2, .own [aU32 (wrapF .u32 (u_17.tmod 1000000000))])] ?_
    refine EVO.e0 (v := .hs 3 0 (l_18 ++ [wrapF .u32 (u_17.tmod 1000000000)]).length 1) (ws := [(1, .dead), (3, .own ((l_18 ++ [wrapF .u32 (u_17.tmod 1000000000)]).flatMap (iC .u32)))]) (Eq.trans (b := guardO (decide (0 + l_18.length * 1 ≤ (l_18.flatMap (iC .u32)).length) && decide ((l_18.length + 1) * 4 ≤ 140737488355328) && decide (l_18.length + 1 ≤ 4611686018427387904)) (some (.eff (.hs 3 0 (l_18.length + 1) 1) [(1, .dead), (3, .own (((l_18.flatMap (iC .u32)).drop 0).take (l_18.length * 1) ++ [aU32 (wrapF .u32 (u_17.tmod 1000000000))]))]))) (by kernel_rfl) (app_own (l := l_18) (xs := [wrapF .u32 (u_17.tmod 1000000000)]) (iC_len _) rfl rfl (by kernel_rfl) hg25 hg26)) ?_
    refine EVO.p1 (.hs 3 0 (l_18 ++ [wrapF .u32 (u_17.tmod 1000000000)]).length 1) ?_
    refine EVO.done ?_
    refine CQ.n1 [0, 2, 3, 4] (mkS 29 0 [(0, aI64 n'), (2, .hp 0 0), (3, aU64 u_17), (4, .hs 3 0 (l_18 ++ [wrapF .u32 (u_17.tmod 1000000000)]).length 1)]) [.own [aB false, .at (.slice none 0 0)], .dead, .own [aU32 (wrapF .u32 (u_17.tmod 1000000000))], .own ((l_18 ++ [wrapF .u32 (u_17.tmod 1000000000)]).flatMap (iC .u32))] ?_
    refine CQ.r0 fine ?_
    refine EVO.p1 (aU64 u_17) ?_
    refine EVO.p1 (aU64 (wrapF .u64 (u_17.tdiv 1000000000))) ?_
    refine EVO.p1 (aU64 (wrapF .u64 (u_17.tdiv 1000000000))) ?_
    refine EVO.done ?_
    refine CQ.pop ?_
    exact loopF_back (wrapF .u64 (u_17.tdiv 1000000000), l_18 ++ [wrapF .u32 (u_17.tmod 1000000000)]) hr ((Wk.gc [0, 2, 3, 4] [(0, true), (3, false)] rfl (by exact ⟨ids_flat (iC_pure _) _, trivial⟩)).to (by kernel_rfl))
   ·replace hr := cd_f hb24 hr
    refine CQ.leave rfl ?_
    obtain rfl := Option.some.inj hr
    exact ⟨rfl, ((Wk.gc [0, 2, 4] [(0, true), (1, false)] rfl (by exact ⟨ids_flat (iC_pure _) _, trivial⟩)).to (by kernel_rfl))⟩
  ·rintro x st' hq29
   clear hL28
   obtain ⟨rfl, hq29⟩ := hq29
   refine CQ_exit _ rfl ?_
   refine CQ.wk hq29 ?_
   refine CQ.seq ?_
   replace hr := bd hr; obtain ⟨v30, hc31, hr⟩ := hr
   refine CQ.region fine (callOf_1 139 [aB false, .hs 1 0 l_22.length 1] [.own [aB false, .at (.slice none 0 0)], .own (l_22.flatMap (iC .u32))] (.loc (.agg (api_Int.c v30)) [(1, .fix (l_22.flatMap (iC .u32)))] [1] 0) (callOk_ref (l := [1]) (args' := [aB false, sU32 l_22]) (SnL.cons (Sn.pure rfl) (SnL.cons (Sn.hs rfl (.inl rfl) (SnC.pure (ids_flat (iC_pure _) _)) (fun h => flat_nil0 h)) SnL.nil)) (fiducialref01_made_ok n false l_22 v30 hc31))) ?_
   refine EVO.p1 (aI64 n') ?_
   refine EVO.p0 (v := aB false) (Eq.trans (b := some (.pure (aB (decide (n' < 0))))) (by kernel_rfl) (by rw [hb1])) ?_
   refine EVO.p1 (.hs 1 0 l_22.length 1) ?_
   refine EVO.c0 (by kernel_rfl) (callOf_at (by kernel_rfl)) ?_
   refine EVO.e1 (.unk) [(0, .own (api_Int.c v30))] ?_
   refine EVO.done ?_
   refine CQ.ret ?_
   obtain rfl := Option.some.inj hr
   exact FinQ.r1 [.agg (api_Int.c v30)]

theorem fiducialref02_whole_inj {n' : Int} {n'_ : Int} (h : ([.at (.int .i64 n')] : List AV) = [.at (.int .i64 n'_)]) : n' = n'_ := by
 simp only [List.cons.injEq, AV.agg.injEq, AV.at.injEq, Value.int.injEq, Value.bool.injEq, AV.fn.injEq, AV.pp.injEq, true_and, and_true] at h
 simp_all
theorem fiducialref02_whole_ok (n : Nat) (n' : Int) (r : api_Int) (hr : fiducialref02_whole n n' = some r) : FnOk Tryz.prog 53 [.at (.int .i64 n')] (.agg [.at (.bool r.Negative), slT (iC .u32) r.Groups]) := by
 unfold fiducialref02_whole at hr
 refine FnOk.body fine Tryz.func53 (c := (Tryz.f53.body).getD .skip) rfl (s := mkS 5 0 [(0, aI64 n')]) (by kernel_rfl) (rs := [.cell 2 37]) rfl ?_
 unfold Tryz.f53
 simp only [Option.getD_some]
 refine CQ.seq ?_
 refine CQ.r0 fine ?_
 refine EVO.e1 (.hp 0 0) [(0, .own [aB false, .at (.slice none 0 0)])] ?_
 refine EVO.done ?_
 refine CQ.seq ?_
 replace hr := bd hr; obtain ⟨v1, hc2, hr⟩ := hr
 refine CQ.region fine (callOf_1 103 [aI64 n'] [.own [aB false, .at (.slice none 0 0)]] (.loc (.agg (api_Int.c v1)) [] [] 0) (callOk_ref (l := []) (args' := [aI64 n']) (SnL.cons (Sn.pure rfl) SnL.nil) (fiducialref01_Of_ok n n' v1 hc2))) ?_
 refine EVO.p1 (aI64 n') ?_
 refine EVO.c0 (by kernel_rfl) (callOf_at (by kernel_rfl)) ?_
 refine EVO.e1 (.unk) [(0, .own (api_Int.c v1))] ?_
 refine EVO.done ?_
 refine CQ.ret ?_
 obtain rfl := Option.some.inj hr
 exact FinQ.r1 [.agg (api_Int.c v1)]

theorem fiducialref02_Whole_ok (n : Nat) (n' : Int) (r : api_Rat) (hr : fiducialref02_Whole n n' = some r) : FnOk Tryz.prog 40 [.at (.int .i64 n')] (.agg [.at (.bool r.Num.Negative), slT (iC .u32) r.Num.Groups, .at (.bool r.Den.Negative), slT (iC .u32) r.Den.Groups]) := by
 unfold fiducialref02_Whole at hr
 refine FnOk.body fine Tryz.func40 (c := (Tryz.f40.body).getD .skip) rfl (s := mkS 7 0 [(0, aI64 n')]) (by kernel_rfl) (rs := [.cell 2 39]) rfl ?_
 unfold Tryz.f40
 simp only [Option.getD_some]
 refine CQ.seq ?_
 refine CQ.r0 fine ?_
 refine EVO.e1 (.hp 0 0) [(0, .own [aB false, .at (.slice none 0 0), aB false, .at (.slice none 0 0)])] ?_
 refine EVO.done ?_
 refine CQ.seq ?_
 replace hr := bd hr; obtain ⟨v1, hc2, hr⟩ := hr
 replace hr := bd hr; obtain ⟨v3, hc4, hr⟩ := hr
 refine CQ.region fine (callOf_ok [{ f := 53, args := [aI64 n'], H := [.own [aB false, .at (.slice none 0 0), aB false, .at (.slice none 0 0)]], r := .loc (.agg (api_Int.c v1)) [] [] 0 : CE }, { f := 53, args := [aI64 1], H := [.own [aB false, .at (.slice none 0 0), aB false, .at (.slice none 0 0)]], r := .loc (.agg (api_Int.c v3)) [] [] 0 : CE }] (List.forall_mem_cons.2 ⟨(callOk_ref (l := []) (args' := [aI64 n']) (SnL.cons (Sn.pure rfl) SnL.nil) (fiducialref02_whole_ok n n' v1 hc2)), (List.forall_mem_cons.2 ⟨(callOk_ref (l := []) (args' := [aI64 1]) (SnL.cons (Sn.pure rfl) SnL.nil) (fiducialref02_whole_ok n 1 v3 hc4)), ce0⟩)⟩)) ?_
 refine EVO.p1 (aI64 n') ?_
 refine EVO.c0 (by kernel_rfl) (callOf_at (by kernel_rfl)) ?_
 refine EVO.c0 (by kernel_rfl) (callOf_skip (fun _ h => by obtain e0 := fiducialref02_whole_inj h; rw [show v3 = v1 from Option.some.inj (hc4.symm.trans ((show fiducialref02_whole n 1 = fiducialref02_whole n n' from (congr rfl e0)).trans hc2))]) (callOf_at (by kernel_rfl))) ?_
 refine EVO.p1 (.agg [aB v1.Negative, sU32 v1.Groups, aB v3.Negative, sU32 v3.Groups]) ?_
 refine EVO.e1 (.unk) [(0, .own [aB v1.Negative, sU32 v1.Groups, aB v3.Negative, sU32 v3.Groups])] ?_
 refine EVO.done ?_
 refine CQ.ret ?_
 obtain rfl := Option.some.inj hr
 exact FinQ.r1 [.agg [aB v1.Negative, sU32 v1.Groups, aB v3.Negative, sU32 v3.Groups]]

theorem fiducialref01_Valid_inj {x' : api_Int} {x'_ : api_Int} (h : ([.agg [.at (.bool x'.Negative), slT (iC .u32) x'.Groups]] : List AV) = [.agg [.at (.bool x'_.Negative), slT (iC .u32) x'_.Groups]]) : x' = x'_ := by
 obtain ⟨_, _⟩ := x'
 obtain ⟨_, _⟩ := x'_
 simp only [List.cons.injEq, AV.agg.injEq, AV.at.injEq, Value.int.injEq, Value.bool.injEq, AV.fn.injEq, AV.pp.injEq, true_and, and_true, slT_inj_int] at h
 simp_all
theorem fiducialref01_Valid_ok (n : Nat) (x' : api_Int) (r : Bool) (hr : fiducialref01_Valid n x' = some r) : FnOk Tryz.prog 104 [.agg [.at (.bool x'.Negative), slT (iC .u32) x'.Groups]] (.at (.bool r)) := by
 unfold fiducialref01_Valid at hr
 refine FnOk.body fine Tryz.func104 (c := (Tryz.f104.body).getD .skip) rfl (s := mkS 31 0 [(0, .agg (api_Int.c x'))]) (by kernel_rfl) (rs := [.tmp 2]) rfl ?_
 unfold Tryz.f104
 simp only [Option.getD_some]
 refine CQ.seq ?_
 refine CQ.r0 fine ?_
 refine EVO.e1 (.hp 0 0) [(0, .own (api_Int.c x'))] ?_
 refine EVO.p1 (aB false) ?_
 refine EVO.done ?_
 refine CQ.n1 [1] (mkS 31 0 [(1, .hp 0 0)]) [.own (api_Int.c x')] ?_
 refine CQ.seq ?_
 refine CQ.r0 fine ?_
 refine EVO.p1 (.hp 0 1) ?_
 refine EVO.p1 (sU32 x'.Groups) ?_
 refine EVO.p1 (aI64 (x'.Groups.length : Int)) ?_
 refine EVO.p1 (aI64 (x'.Groups.length : Int)) ?_
 refine EVO.done ?_
 refine CQ.n1 [1, 3] (mkS 31 0 [(1, .hp 0 0), (3, aI64 (x'.Groups.length : Int))]) [.own (api_Int.c x')] ?_
 refine CQ.seq ?_
 refine CQ.seq ?_
 refine CQ.r0 fine ?_
 refine EVO.p1 (aI64 0) ?_
 refine EVO.done ?_
 refine CQ.block ?_
 replace hr := bd hr; obtain ⟨o9, hL10, hr⟩ := hr
 refine CQ.loopO (σ := fun z0 => match z0 with | i_1 => ⟨mkS 31 0 [(1, .hp 0 0), (3, aI64 (x'.Groups.length : Int)), (4, aI64 i_1)], [.own (api_Int.c x')]⟩) (Q := fun x st' => match (generalizing := false) o9 with | .inl _ => x = .exit 0 ∧ Wk 0 st' ⟨mkS 31 0 [(1, .hp 0 0), (3, aI64 (x'.Groups.length : Int))], [.own (api_Int.c x')]⟩ | .inr (r0) => x = .ret ∧ FinQ Tryz.prog [.tmp 2] (aB r0) .ret st') hL10 ((Wk.gc [1, 3, 4] [(0, true)] rfl trivial).to (by kernel_rfl)) ?_ ?_
 ·clear hr
  rintro m i_1 hr
  show CQ _ _ _ _ _ ⟨_, _⟩
  refine CQ.seq ?_
  refine CQ.seq ?_
  refine CQ.r0 fine ?_
  refine EVO.p1 (aI64 i_1) ?_
  refine EVO.p1 (aI64 (x'.Groups.length : Int)) ?_
  refine EVO.p1 (aB (decide (i_1 < (x'.Groups.length : Int)))) ?_
  refine EVO.done ?_
  refine CQ.n1 [1, 3, 4, 10] (mkS 31 0 [(1, .hp 0 0), (3, aI64 (x'.Groups.length : Int)), (4, aI64 i_1), (10, aB (decide (i_1 < (x'.Groups.length : Int))))]) [.own (api_Int.c x')] ?_
  refine CQ.cond (t := decide (i_1 < (x'.Groups.length : Int))) (by kernel_rfl) (fun hb6 => ?_) (fun hb6 => ?_)
  ·replace hr := cd_t hb6 hr
   refine CQ.skip ?_
   refine CQ.seq ?_
   refine CQ.block ?_
   refine CQ.seq ?_
   replace hr := gd hr; obtain ⟨hg7, hr⟩ := hr
   refine CQ.r0 fine ?_
   refine EVO.p1 (.hp 0 1) ?_
   refine EVO.p1 (sU32 x'.Groups) ?_
   refine EVO.p1 (aI64 i_1) ?_
   refine EVO.p0 (v := .pp (x'.Groups.flatMap (iC .u32)) (i_1.toNat * 1)) (Eq.trans (b := ORes.ofP (guardV (inR i_1 x'.Groups.length) (.pp (x'.Groups.flatMap (iC .u32)) (i_1.toNat * 1)))) (by kernel_rfl) (ofP_guard hg7)) ?_
   refine EVO.p0 (v := aU32 (gt x'.Groups i_1)) (Eq.trans (b := ORes.ofP ((x'.Groups.flatMap (iC .u32))[i_1.toNat * 1]?)) (by kernel_rfl) (ofP_some (flat_get (iC_len _) (inR_lt hg7) (by decide : 0 < 1) (by omega : i_1.toNat * 1 = i_1.toNat * 1 + 0) (by kernel_rfl)))) ?_
   refine EVO.p1 (aB (decide ((gt x'.Groups i_1) ≥ 1000000000))) ?_
   refine EVO.done ?_
   refine CQ.n1 [1, 3, 4, 18] (mkS 31 0 [(1, .hp 0 0), (3, aI64 (x'.Groups.length : Int)), (4, aI64 i_1), (18, aB (decide ((gt x'.Groups i_1) ≥ 1000000000)))]) [.own (api_Int.c x')] ?_
   refine CQ.cond (t := decide ((gt x'.Groups i_1) ≥ 1000000000)) (by kernel_rfl) (fun hb8 => ?_) (fun hb8 => ?_)
   ·replace hr := cd_t hb8 hr
    refine CQ.seq ?_
    refine CQ.r0 fine ?_
    refine EVO.p1 (aB false) ?_
    refine EVO.done ?_
    refine CQ.ret ?_
    obtain rfl := Option.some.inj hr
    exact ⟨rfl, FinQ.ret (vs := [aB false]) (by kernel_rfl) (Sn.pure rfl)⟩
   ·replace hr := cd_f hb8 hr
    refine CQ.skip ?_
    refine CQ.pop ?_
    refine CQ.r0 fine ?_
    refine EVO.p1 (aI64 i_1) ?_
    refine EVO.p1 (aI64 (wrapF .i64 (i_1 + 1))) ?_
    refine EVO.p1 (aI64 (wrapF .i64 (i_1 + 1))) ?_
    refine EVO.done ?_
    exact loopF_back (wrapF .i64 (i_1 + 1)) hr ((Wk.gc [1, 3, 4] [(0, true)] rfl trivial).to (by kernel_rfl))
  ·replace hr := cd_f hb6 hr
   refine CQ.leave rfl ?_
   obtain rfl := Option.some.inj hr
   exact ⟨rfl, ((Wk.gc [1, 3] [(0, true)] rfl trivial).to (by kernel_rfl))⟩
 ·rcases o9 with ⟨⟩ | r0
  ·rintro x st' hq11
   clear hL10
   obtain ⟨rfl, hq11⟩ := hq11
   refine CQ_exit _ rfl ?_
   refine CQ.wk hq11 ?_
   refine CQ.seq ?_
   refine CQ.seq ?_
   refine CQ.r0 fine ?_
   refine EVO.p1 (aI64 (x'.Groups.length : Int)) ?_
   refine EVO.p1 (aB (((x'.Groups.length : Int) : Int) == 0)) ?_
   refine EVO.done ?_
   refine CQ.n1 [1, 3, 20] (mkS 31 0 [(1, .hp 0 0), (3, aI64 (x'.Groups.length : Int)), (20, aB (((x'.Groups.length : Int) : Int) == 0))]) [.own (api_Int.c x')] ?_
   refine CQ.cond (t := ((x'.Groups.length : Int) : Int) == 0) (by kernel_rfl) (fun hb12 => ?_) (fun hb12 => ?_)
   ·replace hr := cd_t hb12 hr
    refine CQ.seq ?_
    refine CQ.r0 fine ?_
    refine EVO.p1 (.hp 0 0) ?_
    refine EVO.p1 (aB x'.Negative) ?_
    refine EVO.p1 (aB (!x'.Negative)) ?_
    refine EVO.p1 (aB (!x'.Negative)) ?_
    refine EVO.done ?_
    refine CQ.ret ?_
    obtain rfl := Option.some.inj hr
    exact FinQ.r1 [aB (!x'.Negative)]
   ·replace hr := cd_f hb12 hr
    refine CQ.skip ?_
    refine CQ.seq ?_
    replace hr := gd hr; obtain ⟨hg13, hr⟩ := hr
    refine CQ.r0 fine ?_
    refine EVO.p1 (.hp 0 1) ?_
    refine EVO.p1 (sU32 x'.Groups) ?_
    refine EVO.p1 (aI64 (x'.Groups.length : Int)) ?_
    refine EVO.p1 (aI64 (wrapF .i64 ((x'.Groups.length : Int) - 1))) ?_
    refine EVO.p0 (v := .pp (x'.Groups.flatMap (iC .u32)) ((wrapF .i64 ((x'.Groups.length : Int) - 1)).toNat * 1)) (Eq.trans (b := ORes.ofP (guardV (inR (wrapF .i64 ((x'.Groups.length : Int) - 1)) x'.Groups.length) (.pp (x'.Groups.flatMap (iC .u32)) ((wrapF .i64 ((x'.Groups.length : Int) - 1)).toNat * 1)))) (by kernel_rfl) (ofP_guard hg13)) ?_
    refine EVO.p0 (v := aU32 (gt x'.Groups (wrapF .i64 ((x'.Groups.length : Int) - 1)))) (Eq.trans (b := ORes.ofP ((x'.Groups.flatMap (iC .u32))[(wrapF .i64 ((x'.Groups.length : Int) - 1)).toNat * 1]?)) (by kernel_rfl) (ofP_some (flat_get (iC_len _) (inR_lt hg13) (by decide : 0 < 1) (by omega : (wrapF .i64 ((x'.Groups.length : Int) - 1)).toNat * 1 = (wrapF .i64 ((x'.Groups.length : Int) - 1)).toNat * 1 + 0) (by kernel_rfl)))) ?_
    refine EVO.p1 (aB (((gt x'.Groups (wrapF .i64 ((x'.Groups.length : Int) - 1))) : Int) != 0)) ?_
    refine EVO.p1 (aB (((gt x'.Groups (wrapF .i64 ((x'.Groups.length : Int) - 1))) : Int) != 0)) ?_
    refine EVO.done ?_
    refine CQ.ret ?_
    obtain rfl := Option.some.inj hr
    exact FinQ.r1 [aB (((gt x'.Groups (wrapF .i64 ((x'.Groups.length : Int) - 1))) : Int) != 0)]
  ·rintro x st' hq11
   clear hL10
   obtain ⟨rfl, hq11⟩ := hq11
   obtain rfl := Option.some.inj hr
   exact CQ_ret _ hq11

theorem fiducialref01_Value_inj {x' : api_Int} {x'_ : api_Int} (h : ([.agg [.at (.bool x'.Negative), slT (iC .u32) x'.Groups]] : List AV) = [.agg [.at (.bool x'_.Negative), slT (iC .u32) x'_.Groups]]) : x' = x'_ := by
 obtain ⟨_, _⟩ := x'
 obtain ⟨_, _⟩ := x'_
 simp only [List.cons.injEq, AV.agg.injEq, AV.at.injEq, Value.int.injEq, Value.bool.injEq, AV.fn.injEq, AV.pp.injEq, true_and, and_true, slT_inj_int] at h
 simp_all
theorem fiducialref01_Value_ok (n : Nat) (x' : api_Int) (r : api_Int) (hr : fiducialref01_Value n x' = some r) : FnOk Tryz.prog 136 [.agg [.at (.bool x'.Negative), slT (iC .u32) x'.Groups]] (.agg [.at (.bool r.Negative), slT (iC .u32) r.Groups]) := by
 unfold fiducialref01_Value at hr
 refine FnOk.body fine Tryz.func136 (c := (Tryz.f136.body).getD .skip) rfl (s := mkS 14 0 [(0, .agg (api_Int.c x'))]) (by kernel_rfl) (rs := [.cell 2 37]) rfl ?_
 unfold Tryz.f136
 simp only [Option.getD_some]
 refine CQ.seq ?_
 refine CQ.r0 fine ?_
 refine EVO.e1 (.hp 0 0) [(0, .own (api_Int.c x'))] ?_
 refine EVO.e1 (.hp 1 0) [(1, .own [aB false, .at (.slice none 0 0)])] ?_
 refine EVO.done ?_
 refine CQ.n1 [1, 2] (mkS 14 0 [(1, .hp 0 0), (2, .hp 1 0)]) [.own (api_Int.c x'), .own [aB false, .at (.slice none 0 0)]] ?_
 refine CQ.seq ?_
 refine CQ.seq ?_
 replace hr := bd hr; obtain ⟨v1, hc2, hr⟩ := hr
 refine CQ.region fine (callOf_1 104 [.agg (api_Int.c x')] [.own (api_Int.c x'), .own [aB false, .at (.slice none 0 0)]] (.loc (aB v1) [] [] 0) (callOk_val (l := []) (args' := [.agg (api_Int.c x')]) rfl (SnL.cons (Sn.pure rfl) SnL.nil) (fiducialref01_Valid_ok n x' v1 hc2))) ?_
 refine EVO.p1 (.agg (api_Int.c x')) ?_
 refine EVO.c0 (by kernel_rfl) (callOf_at (by kernel_rfl)) ?_
 refine EVO.p1 (aB (!v1)) ?_
 refine EVO.done ?_
 refine CQ.n1 [1, 2, 5] (mkS 14 0 [(1, .hp 0 0), (2, .hp 1 0), (5, aB (!v1))]) [.own (api_Int.c x'), .own [aB false, .at (.slice none 0 0)]] ?_
 refine CQ.cond (t := !v1) (by kernel_rfl) (fun hb3 => ?_) (fun hb3 => ?_)
 ·replace hr := cd_t hb3 hr
  refine CQ.seq ?_
  refine CQ.r0 fine ?_
  refine EVO.p1 (.agg [aB false, .at (.slice none 0 0)]) ?_
  refine EVO.e1 (.unk) [(1, .own [aB false, .at (.slice none 0 0)])] ?_
  refine EVO.done ?_
  refine CQ.ret ?_
  obtain rfl := Option.some.inj hr
  exact FinQ.ret (vs := [.agg [aB false, .at (.slice none 0 0)]]) (by kernel_rfl) (Sn.agg (SnL.cons (Sn.pure rfl) (SnL.cons Sn.nilsl SnL.nil)))
 ·replace hr := cd_f hb3 hr
  refine CQ.skip ?_
  refine CQ.seq ?_
  replace hr := gd hr; obtain ⟨hg4, hr⟩ := hr
  replace hr := gd hr; obtain ⟨hg5, hr⟩ := hr
  refine CQ.regionT fine callOf_nil ?_
  refine EVT.p1 (.hp 0 0) ?_
  refine EVT.p1 (aB x'.Negative) ?_
  refine EVT.e1 (.hs 2 0 0 1) [(2, .own [])] ?_
  refine EVT.p1 (.hp 0 1) ?_
  refine EVT.p1 (sU32 x'.Groups) ?_
  refine EVT.eff (v := .hs 3 0 x'.Groups.length 1) (ws := [(2, .dead), (3, .own (x'.Groups.flatMap (iC .u32)))]) (by kernel_rfl) (Eq.trans (b := appS (decide (((x'.Groups.flatMap (iC .u32))).length = x'.Groups.length * 1)) (x'.Groups.flatMap (iC .u32)) x'.Groups.length (fun z1 z2 => guardO (decide (0 + 0 * 1 ≤ (([] : List Int).flatMap (iC .u32)).length) && decide ((0 + z2) * 4 ≤ 140737488355328) && decide (0 + z2 ≤ 4611686018427387904)) (some (.eff (.hs 3 0 (0 + z2) 1) [(2, .dead), (3, .own (((([] : List Int).flatMap (iC .u32)).drop 0).take (0 * 1) ++ z1))])))) (by kernel_rfl) (appS_t (flat_lenB (iC_len _)) rfl (app_own (l := ([] : List Int)) (xs := x'.Groups) (iC_len _) rfl rfl rfl hg4 hg5))) (by kernel_rfl) ?_
  refine EVT.p1 (.agg [aB x'.Negative, .hs 3 0 x'.Groups.length 1]) ?_
  refine EVT.e1 (.unk) [(1, .own [aB x'.Negative, .hs 3 0 x'.Groups.length 1])] ?_
  refine EVT.done ⟨by kernel_rfl, ?_⟩
  refine CQ.ret ?_
  obtain rfl := Option.some.inj hr
  exact FinQ.ret (vs := [.agg [aB x'.Negative, .hs 3 0 x'.Groups.length 1]]) (by kernel_rfl) (Sn.agg (SnL.cons (Sn.pure rfl) (SnL.cons (Sn.hs rfl (.inl rfl) (SnC.pure (ids_flat (iC_pure _) _)) (fun h => flat_nil0 h)) SnL.nil)))

theorem fiducialref01_Sign_ok (n : Nat) (x' : api_Int) (r : Int) (hr : fiducialref01_Sign n x' = some r) : FnOk Tryz.prog 101 [.agg [.at (.bool x'.Negative), slT (iC .u32) x'.Groups]] (.at (.int .i64 r)) := by
 unfold fiducialref01_Sign at hr
 refine FnOk.body fine Tryz.func101 (c := (Tryz.f101.body).getD .skip) rfl (s := mkS 11 0 [(0, .agg (api_Int.c x'))]) (by kernel_rfl) (rs := [.tmp 2]) rfl ?_
 unfold Tryz.f101
 simp only [Option.getD_some]
 refine CQ.seq ?_
 refine CQ.r0 fine ?_
 refine EVO.e1 (.hp 0 0) [(0, .own (api_Int.c x'))] ?_
 refine EVO.p1 (aI64 0) ?_
 refine EVO.done ?_
 refine CQ.n1 [1] (mkS 11 0 [(1, .hp 0 0)]) [.own (api_Int.c x')] ?_
 refine CQ.seq ?_
 replace hr := bd hr; obtain ⟨v1, hc2, hr⟩ := hr
 refine CQ.region fine (callOf_1 136 [.agg (api_Int.c x')] [.own (api_Int.c x')] (.loc (.agg (api_Int.c v1)) [] [] 0) (callOk_ref (l := []) (args' := [.agg (api_Int.c x')]) (SnL.cons (Sn.pure rfl) SnL.nil) (fiducialref01_Value_ok n x' v1 hc2))) ?_
 refine EVO.p1 (.agg (api_Int.c x')) ?_
 refine EVO.c0 (by kernel_rfl) (callOf_at (by kernel_rfl)) ?_
 refine EVO.e1 (.unk) [(0, .own (api_Int.c v1))] ?_
 refine EVO.done ?_
 refine CQ.n1 [1] (mkS 11 0 [(1, .hp 0 0)]) [.own (api_Int.c v1)] ?_
 refine CQ.seq ?_
 refine CQ.seq ?_
 refine CQ.r0 fine ?_
 refine EVO.p1 (.hp 0 1) ?_
 refine EVO.p1 (sU32 v1.Groups) ?_
 refine EVO.p1 (aI64 (v1.Groups.length : Int)) ?_
 refine EVO.p1 (aB (((v1.Groups.length : Int) : Int) == 0)) ?_
 refine EVO.done ?_
 refine CQ.n1 [1, 8] (mkS 11 0 [(1, .hp 0 0), (8, aB (((v1.Groups.length : Int) : Int) == 0))]) [.own (api_Int.c v1)] ?_
 refine CQ.cond (t := ((v1.Groups.length : Int) : Int) == 0) (by kernel_rfl) (fun hb3 => ?_) (fun hb3 => ?_)
 ·replace hr := cd_t hb3 hr
  refine CQ.seq ?_
  refine CQ.r0 fine ?_
  refine EVO.p1 (aI64 0) ?_
  refine EVO.done ?_
  refine CQ.ret ?_
  obtain rfl := Option.some.inj hr
  exact FinQ.r1 [aI64 0]
 ·replace hr := cd_f hb3 hr
  refine CQ.skip ?_
  refine CQ.seq ?_
  refine CQ.seq ?_
  refine CQ.r0 fine ?_
  refine EVO.p1 (.hp 0 0) ?_
  refine EVO.p1 (aB v1.Negative) ?_
  refine EVO.done ?_
  refine CQ.n1 [10] (mkS 11 0 [(10, aB v1.Negative)]) [.own (api_Int.c v1)] ?_
  refine CQ.cond (t := v1.Negative) (by kernel_rfl) (fun hb4 => ?_) (fun hb4 => ?_)
  ·replace hr := cd_t hb4 hr
   refine CQ.seq ?_
   refine CQ.r0 fine ?_
   refine EVO.p1 (aI64 (-1)) ?_
   refine EVO.done ?_
   refine CQ.ret ?_
   obtain rfl := Option.some.inj hr
   exact FinQ.r1 [aI64 (-1)]
  ·replace hr := cd_f hb4 hr
   refine CQ.skip ?_
   refine CQ.seq ?_
   refine CQ.r0 fine ?_
   refine EVO.p1 (aI64 1) ?_
   refine EVO.done ?_
   refine CQ.ret ?_
   obtain rfl := Option.some.inj hr
   exact FinQ.r1 [aI64 1]

theorem fiducialref01_short_ok (n : Nat) (a : List Int) (d : Int) (r : List Int × Int) (hr : fiducialref01_short n a d = some r) : FnOk Tryz.prog 180 [slT (iC .u32) a, .at (.int .u64 d)] (.tup [slT (iC .u32) r.1, .at (.int .u64 r.2)]) := by
 unfold fiducialref01_short at hr
 refine FnOk.body fine Tryz.func180 (c := (Tryz.f180.body).getD .skip) rfl (s := mkS 42 0 [(0, sU32 a), (1, aU64 d)]) (by kernel_rfl) (rs := [.tmp 4, .tmp 5]) rfl ?_
 unfold Tryz.f180
 simp only [Option.getD_some]
 refine CQ.seq ?_
 refine CQ.r0 fine ?_
 refine EVO.p1 (.at (.slice none 0 0)) ?_
 refine EVO.p1 (aU64 0) ?_
 refine EVO.done ?_
 refine CQ.n1 [0, 1] (mkS 42 0 [(0, sU32 a), (1, aU64 d)]) [] ?_
 refine CQ.seq ?_
 replace hr := gd hr; obtain ⟨hg1, hr⟩ := hr
 replace hr := gd hr; obtain ⟨hg2, hr⟩ := hr
 replace hr := gd hr; obtain ⟨hg3, hr⟩ := hr
 refine CQ.r0 fine ?_
 refine EVO.p1 (sU32 a) ?_
 refine EVO.p1 (aI64 (a.length : Int)) ?_
 refine EVO.e0 (v := .hs 0 0 (List.replicate (a.length : Int).toNat (0 : Int)).length 1) (ws := [(0, .own ((List.replicate (a.length : Int).toNat (0 : Int)).flatMap (iC .u32)))]) (Eq.trans (b := guardO (decide (0 ≤ (a.length : Int)) && decide ((a.length : Int) ≤ (a.length : Int)) && decide ((4 : Int) * (a.length : Int) ≤ 281474976710656) && decide ((a.length : Int) ≤ 9223372036854775807) && true && true && true) (some (.eff (.hs 0 0 (a.length : Int).toNat 1) [(0, .own (zerosA [aU32 0] (a.length : Int).toNat))]))) (by kernel_rfl) (make_own (c := (iC .u32)) (z := 0) rfl hg1 hg2 hg3)) ?_
 refine EVO.p1 (.hs 0 0 (List.replicate (a.length : Int).toNat (0 : Int)).length 1) ?_
 refine EVO.done ?_
 refine CQ.n1 [0, 1, 6] (mkS 42 0 [(0, sU32 a), (1, aU64 d), (6, .hs 0 0 (List.replicate (a.length : Int).toNat (0 : Int)).length 1)]) [.own ((List.replicate (a.length : Int).toNat (0 : Int)).flatMap (iC .u32))] ?_
 refine CQ.seq ?_
 refine CQ.r0 fine ?_
 refine EVO.p1 (aU64 0) ?_
 refine EVO.done ?_
 refine CQ.seq ?_
 refine CQ.seq ?_
 refine CQ.r0 fine ?_
 refine EVO.p1 (sU32 a) ?_
 refine EVO.p1 (aI64 (a.length : Int)) ?_
 refine EVO.p1 (aI64 (wrapF .i64 ((a.length : Int) - 1))) ?_
 refine EVO.p1 (aI64 (wrapF .i64 ((a.length : Int) - 1))) ?_
 refine EVO.done ?_
 refine CQ.n1 [0, 1, 6, 7, 8] (mkS 42 0 [(0, sU32 a), (1, aU64 d), (6, .hs 0 0 (List.replicate (a.length : Int).toNat (0 : Int)).length 1), (7, aU64 0), (8, aI64 (wrapF .i64 ((a.length : Int) - 1)))]) [.own ((List.replicate (a.length : Int).toNat (0 : Int)).flatMap (iC .u32))] ?_
 refine CQ.block ?_
 replace hr := bd hr; obtain ⟨o18, hL19, hr⟩ := hr
 refine CQ.loopO (σ := fun z0 => match z0 with | (q_4, rest_5, i_6) => ⟨mkS 42 0 [(0, sU32 a), (1, aU64 d), (6, .hs 0 0 q_4.length 1), (7, aU64 rest_5), (8, aI64 i_6)], [.own (q_4.flatMap (iC .u32))]⟩) (Q := fun x st' => match (generalizing := false) o18 with | (q_11, rest_12) => x = .exit 0 ∧ Wk 0 st' ⟨mkS 42 0 [(6, .hs 0 0 q_11.length 1), (7, aU64 rest_12)], [.own (q_11.flatMap (iC .u32))]⟩) hL19 ((Wk.gc [0, 1, 6, 7, 8] [(0, false)] rfl (by exact ⟨ids_flat (iC_pure _) _, trivial⟩)).to (by kernel_rfl)) ?_ ?_
 ·clear hr
  rintro m ⟨q_4, rest_5, i_6⟩ hr
  show CQ _ _ _ _ _ ⟨_, _⟩
  refine CQ.seq ?_
  refine CQ.seq ?_
  refine CQ.r0 fine ?_
  refine EVO.p1 (aI64 i_6) ?_
  refine EVO.p1 (aB (decide (i_6 ≥ 0))) ?_
  refine EVO.done ?_
  refine CQ.n1 [0, 1, 6, 7, 8, 17] (mkS 42 0 [(0, sU32 a), (1, aU64 d), (6, .hs 0 0 q_4.length 1), (7, aU64 rest_5), (8, aI64 i_6), (17, aB (decide (i_6 ≥ 0)))]) [.own (q_4.flatMap (iC .u32))] ?_
  refine CQ.cond (t := decide (i_6 ≥ 0)) (by kernel_rfl) (fun hb14 => ?_) (fun hb14 => ?_)
  ·replace hr := cd_t hb14 hr
   refine CQ.skip ?_
   refine CQ.seq ?_
   refine CQ.block ?_
   refine CQ.seq ?_
   replace hr := gd hr; obtain ⟨hg15, hr⟩ := hr
   refine CQ.r0 fine ?_
   refine EVO.p1 (aU64 rest_5) ?_
   refine EVO.p1 (aU64 (wrapF .u64 (rest_5 * 1000000000))) ?_
   refine EVO.p1 (sU32 a) ?_
   refine EVO.p1 (aI64 i_6) ?_
   refine EVO.p0 (v := .pp (a.flatMap (iC .u32)) (i_6.toNat * 1)) (Eq.trans (b := ORes.ofP (guardV (inR i_6 a.length) (.pp (a.flatMap (iC .u32)) (i_6.toNat * 1)))) (by kernel_rfl) (ofP_guard hg15)) ?_
   refine EVO.p0 (v := aU32 (gt a i_6)) (Eq.trans (b := ORes.ofP ((a.flatMap (iC .u32))[i_6.toNat * 1]?)) (by kernel_rfl) (ofP_some (flat_get (iC_len _) (inR_lt hg15) (by decide : 0 < 1) (by omega : i_6.toNat * 1 = i_6.toNat * 1 + 0) (by kernel_rfl)))) ?_
   refine EVO.p1 (aU64 (wrapF .u64 (gt a i_6))) ?_
   refine EVO.p1 (aU64 (wrapF .u64 ((wrapF .u64 (rest_5 * 1000000000)) + (wrapF .u64 (gt a i_6))))) ?_
   refine EVO.p1 (aU64 (wrapF .u64 ((wrapF .u64 (rest_5 * 1000000000)) + (wrapF .u64 (gt a i_6))))) ?_
   refine EVO.done ?_
   refine CQ.n1 [0, 1, 6, 8, 9] (mkS 42 0 [(0, sU32 a), (1, aU64 d), (6, .hs 0 0 q_4.length 1), (8, aI64 i_6), (9, aU64 (wrapF .u64 ((wrapF .u64 (rest_5 * 1000000000)) + (wrapF .u64 (gt a i_6)))))]) [.own (q_4.flatMap (iC .u32))] ?_
   refine CQ.seq ?_
   replace hr := gd hr; obtain ⟨hg16, hr⟩ := hr
   replace hr := gd hr; obtain ⟨hg17, hr⟩ := hr
   refine CQ.r0 fine ?_
   refine EVO.p1 (.hs 0 0 q_4.length 1) ?_
   refine EVO.p1 (aI64 i_6) ?_
   refine EVO.p1 (aU64 (wrapF .u64 ((wrapF .u64 (rest_5 * 1000000000)) + (wrapF .u64 (gt a i_6))))) ?_
   refine EVO.p1 (aU64 d) ?_
   refine EVO.p0 (v := aU64 (wrapF .u64 ((wrapF .u64 ((wrapF .u64 (rest_5 * 1000000000)) + (wrapF .u64 (gt a i_6)))).tdiv d))) (op_quo (x := wrapF .u64 ((wrapF .u64 (rest_5 * 1000000000)) + (wrapF .u64 (gt a i_6)))) (y := d) (by kernel_rfl) (by kernel_rfl) hg16) ?_
   refine EVO.p1 (aU32 (wrapF .u32 (wrapF .u64 ((wrapF .u64 ((wrapF .u64 (rest_5 * 1000000000)) + (wrapF .u64 (gt a i_6)))).tdiv d)))) ?_
   refine EVO.p0 (v := .hp 0 (0 + i_6.toNat * 1)) (Eq.trans (b := ORes.ofP (guardV (inR i_6 q_4.length) (.hp 0 (0 + i_6.toNat * 1)))) (by kernel_rfl) (ofP_guard hg17)) ?_
   refine EVO.e0 (v := .unk) (ws := [(0, .own ((q_4.set i_6.toNat (wrapF .u32 (wrapF .u64 ((wrapF .u64 ((wrapF .u64 (rest_5 * 1000000000)) + (wrapF .u64 (gt a i_6)))).tdiv d)))).flatMap (iC .u32)))]) (Eq.trans (b := stO (decide ((0 + i_6.toNat * 1) + 1 ≤ (q_4.flatMap (iC .u32)).length) && true) [(0, .own (setCells (q_4.flatMap (iC .u32)) (0 + i_6.toNat * 1) [aU32 (wrapF .u32 (wrapF .u64 ((wrapF .u64 ((wrapF .u64 (rest_5 * 1000000000)) + (wrapF .u64 (gt a i_6)))).tdiv d)))]))]) (by kernel_rfl) (stO_t (and_t (flat_fits (iC_len _) (inR_lt hg17) (Nat.le_of_ble_eq_true rfl) (by omega : 0 + i_6.toNat * 1 = i_6.toNat * 1 + 0))) (congrArg Blk.own (flat_set (iC_len _) (inR_lt hg17) (Nat.le_of_ble_eq_true rfl) (by omega : 0 + i_6.toNat * 1 = i_6.toNat * 1 + 0) (by kernel_rfl))))) ?_
   refine EVO.done ?_
   refine CQ.n1 [0, 1, 6, 8, 9] (mkS 42 0 [(0, sU32 a), (1, aU64 d), (6, .hs 0 0 q_4.length 1), (8, aI64 i_6), (9, aU64 (wrapF .u64 ((wrapF .u64 (rest_5 * 1000000000)) + (wrapF .u64 (gt a i_6)))))]) [.own ((q_4.set i_6.toNat (wrapF .u32 (wrapF .u64 ((wrapF .u64 ((wrapF .u64 (rest_5 * 1000000000)) + (wrapF .u64 (gt a i_6)))).tdiv d)))).flatMap (iC .u32))] ?_
   refine CQ.r0 fine ?_
   refine EVO.p1 (aU64 (wrapF .u64 ((wrapF .u64 (rest_5 * 1000000000)) + (wrapF .u64 (gt a i_6))))) ?_
   refine EVO.p1 (aU64 d) ?_
   refine EVO.p0 (v := aU64 ((wrapF .u64 ((wrapF .u64 (rest_5 * 1000000000)) + (wrapF .u64 (gt a i_6)))).tmod d)) (op_rem (x := wrapF .u64 ((wrapF .u64 (rest_5 * 1000000000)) + (wrapF .u64 (gt a i_6)))) (y := d) (by kernel_rfl) (by kernel_rfl) hg16) ?_
   refine EVO.p1 (aU64 ((wrapF .u64 ((wrapF .u64 (rest_5 * 1000000000)) + (wrapF .u64 (gt a i_6)))).tmod d)) ?_
   refine EVO.done ?_
   refine CQ.pop ?_
   refine CQ.r0 fine ?_
   refine EVO.p1 (aI64 i_6) ?_
   refine EVO.p1 (aI64 (wrapF .i64 (i_6 - 1))) ?_
   refine EVO.p1 (aI64 (wrapF .i64 (i_6 - 1))) ?_
   refine EVO.done ?_
   exact loopF_back (q_4.set i_6.toNat (wrapF .u32 (wrapF .u64 ((wrapF .u64 ((wrapF .u64 (rest_5 * 1000000000)) + (wrapF .u64 (gt a i_6)))).tdiv d))), (wrapF .u64 ((wrapF .u64 (rest_5 * 1000000000)) + (wrapF .u64 (gt a i_6)))).tmod d, wrapF .i64 (i_6 - 1)) hr ((Wk.relen 6 (b := 0) (es := 1) (len := q_4.length) (q_4.set i_6.toNat (wrapF .u32 (wrapF .u64 ((wrapF .u64 ((wrapF .u64 (rest_5 * 1000000000)) + (wrapF .u64 (gt a i_6)))).tdiv d)))).length (by kernel_rfl) (by simp)).trans ((Wk.gc [0, 1, 6, 7, 8] [(0, false)] rfl (by exact ⟨ids_flat (iC_pure _) _, trivial⟩)).to (by kernel_rfl)))
  ·replace hr := cd_f hb14 hr
   refine CQ.leave rfl ?_
   obtain rfl := Option.some.inj hr
   exact ⟨rfl, ((Wk.gc [6, 7] [(0, false)] rfl (by exact ⟨ids_flat (iC_pure _) _, trivial⟩)).to (by kernel_rfl))⟩
 ·rcases o18 with ⟨q_11, rest_12⟩
  rintro x st' hq20
  clear hL19
  obtain ⟨rfl, hq20⟩ := hq20
  refine CQ_exit _ rfl ?_
  refine CQ.wk hq20 ?_
  refine CQ.seq ?_
  replace hr := bd hr; obtain ⟨v21, hc22, hr⟩ := hr
  refine CQ.region fine (callOf_1 139 [aB false, .hs 0 0 q_11.length 1] [.own (q_11.flatMap (iC .u32))] (.loc (.agg (api_Int.c v21)) [(0, .fix (q_11.flatMap (iC .u32)))] [0] 0) (callOk_ref (l := [0]) (args' := [aB false, sU32 q_11]) (SnL.cons (Sn.pure rfl) (SnL.cons (Sn.hs rfl (.inl rfl) (SnC.pure (ids_flat (iC_pure _) _)) (fun h => flat_nil0 h)) SnL.nil)) (fiducialref01_made_ok n false q_11 v21 hc22))) ?_
  refine EVO.p1 (.hs 0 0 q_11.length 1) ?_
  refine EVO.c0 (by kernel_rfl) (callOf_at (by kernel_rfl)) ?_
  refine EVO.p1 (sU32 v21.Groups) ?_
  refine EVO.p1 (aU64 rest_12) ?_
  refine EVO.p1 (sU32 v21.Groups) ?_
  refine EVO.p1 (aU64 rest_12) ?_
  refine EVO.done ?_
  refine CQ.ret ?_
  obtain rfl := Option.some.inj hr
  exact FinQ.ret (vs := [sU32 v21.Groups, aU64 rest_12]) (by kernel_rfl) (Sn.tup (SnL.cons (Sn.pure rfl) (SnL.cons (Sn.pure rfl) SnL.nil)))
end Go.L
