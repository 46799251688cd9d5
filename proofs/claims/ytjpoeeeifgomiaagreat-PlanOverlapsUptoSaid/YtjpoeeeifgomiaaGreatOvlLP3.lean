/- The program's functions compute what the plain Lean programs compute, part 3; printed by a program. -/
import Derived.Test.YtjpoeeeifgomiaaGreatOvlLP2
import Derived.Test.YtjpoeeeifgomiaaGreatL0bomlmebp
import Derived.Test.YtjpoeeeifgomiaaGreatSortbebchnoe
import Derived.Test.YtjpoeeeifgomiaaGreatChecked
import Derived.KernelRfl
set_option linter.all false
set_option maxRecDepth 100000
set_option maxHeartbeats 4000000
namespace Go.L
open Go Go.Eng Go.Proofs
theorem fiducialref01_Gcd_ok (n : Nat) (x' : api_Int) (y : api_Int) (r : api_Int) (hr : fiducialref01_Gcd n x' y = some r) : FnOk Tryz.prog 89 [.agg (api_Int.c x'), .agg (api_Int.c y)] (.agg (api_Int.c r)) := by
 unfold fiducialref01_Gcd at hr
 refine FnOk.bd fine Tryz.func89 [.cell 4 38] ?_
 unfold Tryz.f89
 simp only [Option.getD_some]
 refine .seq <| .r2 fine 61 [(2, .hp 0 0), (3, .hp 1 0), (4, .hp 2 0)] [.own (api_Int.c x'), .own (api_Int.c y), .own [aB false, nS]] <| .seq ?_
 obtain ⟨v1, hc2, v3, hc4, hr⟩ := bd2 hr
 refine .tn fine (ca1 (ok0 (fiducialref01_Value_ok n x' v1 hc2)) (ca3 (ok0 (fiducialref01_Value_ok n y v3 hc4)))) <| .mu 1 <| .ca cf0 <| .mu 2 <| .ca (cfA (fun h => by rw [sv hc4 hc2 (fiducialref01_Value_cg n h)]) cf0) <| .mu 3 ?_
 refine .done ⟨by kernel_rfl, ?_⟩
 refine .n2 61 [(4, .hp 2 0), (5, sU32 v1.Groups), (6, sU32 v3.Groups)] [.own (api_Int.c x'), .own (api_Int.c y), .own [aB false, nS]] <| .seq <| .block ?_
 replace hr := bd hr; obtain ⟨o24, hL25, hr⟩ := hr
 refine .loopO (σ := fun z0 => match z0 with | (a_5, b_6) => ⟨mkS 61 0 [(4, .hp 0 0), (5, sU32 a_5), (6, sU32 b_6)], [.own [aB false, nS]]⟩) (Q := fun x st' => match (generalizing := false) o24 with | (a_14, b_15) => x = .exit 0 ∧ Wk 0 st' ⟨mkS 61 0 [(4, .hp 0 0), (5, sU32 a_14), (6, sU32 b_15)], [.own [aB false, nS]]⟩) hL25 ((Wk.gc [4, 5, 6] [(2, true)] rfl trivial).to (by kernel_rfl)) ?_ ?_
 ·clear hr
  rintro m ⟨a_5, b_6⟩ hr
  show CQ _ _ _ _ _ ⟨_, _⟩
  refine .seq <| .seq ?_
  rcases Bool.eq_false_or_eq_true (decide ((b_6.length : Int) > 0)) with hb17 | hb17
  ·replace hr := cd_t hb17 hr
   rcases Bool.eq_false_or_eq_true (decide ((a_5.length : Int) > 2)) with hb18 | hb18
   ·replace hr := cd_t hb18 hr
    refine .r0 fine <| .mu 2 <| .p0 (v := aB true) (eB hb17) <| .mu 3 <| .pure (v := aB true) (by kernel_rfl) (eB hb18) <| .mu 6 <| .done <| .n2 61 [(4, .hp 0 0), (5, sU32 a_5), (6, sU32 b_6), (29, aB true)] [.own [aB false, nS]] <| .cT (by kernel_rfl) <| .skip <| .block <| .seq ?_
    obtain ⟨v19, hc20, hr⟩ := bd hr
    refine .g1 fine (ok0 (fiducialref01_parts_ok n a_5 b_6 v19 hc20)) <| .mu 2 <| .ca cf0 <| .mu 5 <| .done <| .n2 61 [(4, .hp 0 0), (6, sU32 b_6), (8, sU32 v19.2)] [.own [aB false, nS]] <| .ru fine <| .pop ?_
    exact loopF_back (b_6, v19.2) hr ((Wk.gc [4, 5, 6] [(0, true)] rfl trivial).to (by kernel_rfl))
   ·replace hr := cd_f hb18 hr
    refine .r0 fine <| .mu 2 <| .p0 (v := aB true) (eB hb17) <| .mu 3 <| .pure (v := aB false) (by kernel_rfl) (eB hb18) <| .mu 6 <| .done <| .n2 61 [(4, .hp 0 0), (5, sU32 a_5), (6, sU32 b_6), (29, aB (decide ((b_6.length : Int) > 2)))] [.own [aB false, nS]] ?_
    refine .cd hr (fun hb21 hr => ?_) (fun hb21 hr => ?_)
    ·refine .skip <| .block <| .seq ?_
     obtain ⟨v22, hc23, hr⟩ := bd hr
     refine .g1 fine (ok0 (fiducialref01_parts_ok n a_5 b_6 v22 hc23)) <| .mu 2 <| .ca cf0 <| .mu 5 <| .done <| .n2 61 [(4, .hp 0 0), (6, sU32 b_6), (8, sU32 v22.2)] [.own [aB false, nS]] <| .ru fine <| .pop ?_
     exact loopF_back (b_6, v22.2) hr ((Wk.gc [4, 5, 6] [(0, true)] rfl trivial).to (by kernel_rfl))
    ·refine .leave rfl ?_
     obtain rfl := oi hr
     exact ⟨rfl, ((Wk.gc [4, 5, 6] [(0, true)] rfl trivial).to (by kernel_rfl))⟩
  ·replace hr := cd_f hb17 hr
   refine .r0 fine <| .mu 2 <| .p0 (v := aB false) (eB hb17) <| .mu 10 <| .done <| .n2 61 [(4, .hp 0 0), (5, sU32 a_5), (6, sU32 b_6), (29, aB false)] [.own [aB false, nS]] <| .cF (by kernel_rfl) <| .leave rfl ?_
   obtain rfl := oi hr
   exact ⟨rfl, ((Wk.gc [4, 5, 6] [(0, true)] rfl trivial).to (by kernel_rfl))⟩
 ·rcases o24 with ⟨a_14, b_15⟩
  rintro x st' hq26
  clear hL25
  obtain ⟨rfl, hq26⟩ := hq26
  refine CQ_exit _ rfl <| .wk hq26 <| .seq <| .seq <| .r3 fine 61 [(4, .hp 0 0), (5, sU32 a_14), (6, sU32 b_15), (40, aB (((b_15.length : Int) : Int) == 0))] ?_
  refine .cd hr (fun hb27 hr => ?_) (fun hb27 hr => ?_)
  ·refine .seq ?_
   obtain ⟨v28, hc29, hr⟩ := bd hr
   refine .g1 fine (ok0 (fiducialref01_made_ok n false a_14 v28 hc29)) <| .mu 1 <| .ca cf0 <| .mu 1 <| .done <| .n2 61 [(4, .hp 0 0)] [.own (api_Int.c v28)] <| .ret ?_
   obtain rfl := oi hr
   exact FinQ.r1 [.agg (api_Int.c v28)]
  ·refine .skip <| .seq ?_
   obtain ⟨v30, hc31, v32, hc33, hr⟩ := bd2 hr
   refine .gn fine (ca1 (ok0 (fiducialref01_pair_ok n a_14 v30 hc31)) (ca3 (ok0 (fiducialref01_pair_ok n b_15 v32 hc33)))) <| .mu 1 <| .ca cf0 <| .mu 1 <| .ca (cfA (fun h => by rw [sv hc33 hc31 (fiducialref01_pair_cg n h)]) cf0) <| .mu 2 <| .done <| .n2 61 [(4, .hp 0 0), (9, aU64 v30), (10, aU64 v32)] [.own [aB false, nS]] <| .seq <| .block ?_
   replace hr := bd hr; obtain ⟨u_38, hL43, hr⟩ := hr
   refine .loopO (σ := fun z0 => match z0 with | (u_34, v_35) => ⟨mkS 61 0 [(4, .hp 0 0), (9, aU64 u_34), (10, aU64 v_35)], [.own [aB false, nS]]⟩) (Q := fun x st' => x = .exit 2 ∧ Wk 0 st' ⟨mkS 61 0 [(4, .hp 0 0), (9, aU64 u_38)], [.own [aB false, nS]]⟩) hL43 ((Wk.gc [4, 9, 10] [(0, true)] rfl trivial).to (by kernel_rfl)) ?_ ?_
   ·clear hr
    rintro m ⟨u_34, v_35⟩ hr
    show CQ _ _ _ _ _ ⟨_, _⟩
    refine .seq <| .seq <| .r3 fine 61 [(4, .hp 0 0), (9, aU64 u_34), (10, aU64 v_35), (48, aB (decide (v_35 > 0)))] ?_
    refine .cd hr (fun hb40 hr => ?_) (fun hb40 hr => ?_)
    ·refine .skip <| .block ?_
     obtain ⟨hg41, hr⟩ := gd hr
     refine .regionT fine callOf_nil <| .mu 3 <| .pure (v := aU64 (u_34.tmod v_35)) (by kernel_rfl) (op_rem (x := u_34) (y := v_35) (by kernel_rfl) (by kernel_rfl) hg41) (by kernel_rfl) <| .mu 2 ?_
     refine .done ⟨by kernel_rfl, ?_⟩
     refine .pop ?_
     exact loopF_back (v_35, u_34.tmod v_35) hr ((Wk.gc [4, 9, 10] [(0, true)] rfl trivial).to (by kernel_rfl))
    ·refine .leave rfl ?_
     obtain rfl := oi hr
     exact ⟨rfl, ((Wk.gc [4, 9] [(0, true)] rfl trivial).to (by kernel_rfl))⟩
   ·rintro x st' hq44
    clear hL43
    obtain ⟨rfl, hq44⟩ := hq44
    refine CQ_exit _ rfl <| .wk hq44 <| .seq ?_
    obtain ⟨v45, hc46, hr⟩ := bd hr
    refine .gn fine (ca4 [.own [aB false, nS], .own [aU32 (wrapF .u32 (u_38.tmod 1000000000)), aU32 (wrapF .u32 (wrapF .u64 (u_38.tdiv 1000000000)))]] (callOk_ref (args := [aB false, .hs 1 0 2 1]) (l := [1]) (SnL.cons (Sn.pure rfl) (SnL.cons (Sn.hs rfl (.inl rfl) (SnC.cons (Sn.pure rfl) (SnC.cons (Sn.pure rfl) SnC.nil)) (fun h => nomatch h)) SnL.nil)) (fiducialref01_made_ok n false [(wrapF .u32 (u_38.tmod 1000000000)), (wrapF .u32 (wrapF .u64 (u_38.tdiv 1000000000)))] v45 hc46))) <| .mu 7 <| .ca cf0 <| .mu 1 <| .done <| .n2 61 [(4, .hp 0 0)] [.own (api_Int.c v45), .fix [aU32 (wrapF .u32 (u_38.tmod 1000000000)), aU32 (wrapF .u32 (wrapF .u64 (u_38.tdiv 1000000000)))]] <| .ret ?_
    obtain rfl := oi hr
    exact FinQ.r1 [.agg (api_Int.c v45)]

theorem fiducialref01_Of_ok (n : Nat) (n' : Int) (r : api_Int) (hr : fiducialref01_Of n n' = some r) : FnOk Tryz.prog 105 [aI64 n'] (.agg (api_Int.c r)) := by
 unfold fiducialref01_Of at hr
 refine FnOk.bd fine Tryz.func105 [.cell 2 38] ?_
 unfold Tryz.f105
 simp only [Option.getD_some]
 refine .seq <| .r2 fine 29 [(0, aI64 n'), (2, .hp 0 0)] [.own [aB false, nS]] <| .seq <| .r3 fine 29 [(0, aI64 n'), (2, .hp 0 0), (3, aU64 (wrapF .u64 n'))] <| .seq <| .seq <| .r3 fine 29 [(0, aI64 n'), (2, .hp 0 0), (3, aU64 (wrapF .u64 n')), (8, aB (decide (n' < 0)))] ?_
 refine .cd hr (fun hb1 hr => ?_) (fun hb1 hr => ?_)
 ·refine .r0 fine <| .mu 2 <| .p0 (v := aI64 (wrapF .i64 (0 - (wrapF .i64 (n' + 1))))) (Eq.trans (b := some (.pure (aI64 (IntKind.wrap .i64 (0 - (wrapF .i64 (n' + 1))))))) (by kernel_rfl) wrap_at) <| .mu 3 <| .done <| .n2 29 [(0, aI64 n'), (2, .hp 0 0), (3, aU64 (wrapF .u64 ((wrapF .u64 (wrapF .i64 (0 - (wrapF .i64 (n' + 1))))) + 1)))] [.own [aB false, nS]] <| .seq <| .r2 fine 29 [(0, aI64 n'), (2, .hp 0 0), (3, aU64 (wrapF .u64 ((wrapF .u64 (wrapF .i64 (0 - (wrapF .i64 (n' + 1))))) + 1))), (4, .hs 1 0 0 1)] [.own [aB false, nS], .own []] <| .seq <| .block ?_
  replace hr := bd hr; obtain ⟨l_7, hL13, hr⟩ := hr
  refine .loopO (σ := fun z0 => match z0 with | (u_2, l_3) => ⟨mkS 29 0 [(0, aI64 n'), (2, .hp 0 0), (3, aU64 u_2), (4, .hs 1 0 l_3.length 1)], [.own [aB false, nS], .own (l_3.flatMap (iC .u32))]⟩) (Q := fun x st' => x = .exit 0 ∧ Wk 0 st' ⟨mkS 29 0 [(0, aI64 n'), (2, .hp 0 0), (4, .hs 1 0 l_7.length 1)], [.own [aB false, nS], .own (l_7.flatMap (iC .u32))]⟩) hL13 ((Wk.gc [0, 2, 3, 4] [(0, true), (1, false)] rfl (pKt (pKc trivial))).to (by kernel_rfl)) ?_ ?_
  ·clear hr
   rintro m ⟨u_2, l_3⟩ hr
   show CQ _ _ _ _ _ ⟨_, _⟩
   refine .seq <| .seq <| .r3 fine 29 [(0, aI64 n'), (2, .hp 0 0), (3, aU64 u_2), (4, .hs 1 0 l_3.length 1), (16, aB (decide (u_2 > 0)))] ?_
   refine .cd hr (fun hb9 hr => ?_) (fun hb9 hr => ?_)
   ·refine .skip <| .block <| .seq ?_
    obtain ⟨hg10, hg11, hr⟩ := gd2 hr
    refine .r0 fine <| .mu 5 <| .e0 (v := .hs 3 0 (l_3 ++ [wrapF .u32 (u_2.tmod 1000000000)]).length 1) (ws := [(1, .dead), (3, .own ((l_3 ++ [wrapF .u32 (u_2.tmod 1000000000)]).flatMap (iC .u32)))]) (tr (app_own (new := [aU32 (wrapF .u32 (u_2.tmod 1000000000))]) (l := l_3) (xs := [wrapF .u32 (u_2.tmod 1000000000)]) (iC_len .u32) rfl rfl (by kernel_rfl) hg10 hg11)) <| .mu 1 <| .done <| .n2 29 [(0, aI64 n'), (2, .hp 0 0), (3, aU64 u_2), (4, .hs 3 0 (l_3 ++ [wrapF .u32 (u_2.tmod 1000000000)]).length 1)] [.own [aB false, nS], .dead, .own [aU32 (wrapF .u32 (u_2.tmod 1000000000))], .own ((l_3 ++ [wrapF .u32 (u_2.tmod 1000000000)]).flatMap (iC .u32))] <| .ru fine <| .pop ?_
    exact loopF_back (wrapF .u64 (u_2.tdiv 1000000000), l_3 ++ [wrapF .u32 (u_2.tmod 1000000000)]) hr ((Wk.gc [0, 2, 3, 4] [(0, true), (3, false)] rfl (pKt (pKo (iC .u32) (iC_pure _) (l_3 ++ [wrapF .u32 (u_2.tmod 1000000000)]) trivial))).to (by kernel_rfl))
   ·refine .leave rfl ?_
    obtain rfl := oi hr
    exact ⟨rfl, ((Wk.gc [0, 2, 4] [(0, true), (1, false)] rfl (pKt (pKo (iC .u32) (iC_pure _) l_3 trivial))).to (by kernel_rfl))⟩
  ·rintro x st' hq14
   clear hL13
   obtain ⟨rfl, hq14⟩ := hq14
   refine CQ_exit _ rfl <| .wk hq14 <| .seq ?_
   obtain ⟨v15, hc16, hr⟩ := bd hr
   refine .g1 fine (callOk_ref (args := [aB true, .hs 1 0 l_7.length 1]) (l := [1]) (SnL.cons (Sn.pure rfl) (SnL.cons (Sn.hs rfl (.inl rfl) (SnC.pure (ids_flat (iC_pure _) _)) (fun h => flat_nil0 h)) SnL.nil)) (fiducialref01_made_ok n true l_7 v15 hc16)) <| .mu 1 <| .p0 (v := aB true) (eB hb1) <| .mu 1 <| .ca cf0 <| .mu 1 <| .done <| .n2 29 [(2, .hp 0 0)] [.own (api_Int.c v15), .fix (l_7.flatMap (iC .u32))] <| .ret ?_
   obtain rfl := oi hr
   exact FinQ.r1 [.agg (api_Int.c v15)]
 ·refine .skip <| .seq <| .r2 fine 29 [(0, aI64 n'), (2, .hp 0 0), (3, aU64 (wrapF .u64 n')), (4, .hs 1 0 0 1)] [.own [aB false, nS], .own []] <| .seq <| .block ?_
  replace hr := bd hr; obtain ⟨l_22, hL28, hr⟩ := hr
  refine .loopO (σ := fun z0 => match z0 with | (u_17, l_18) => ⟨mkS 29 0 [(0, aI64 n'), (2, .hp 0 0), (3, aU64 u_17), (4, .hs 1 0 l_18.length 1)], [.own [aB false, nS], .own (l_18.flatMap (iC .u32))]⟩) (Q := fun x st' => x = .exit 0 ∧ Wk 0 st' ⟨mkS 29 0 [(0, aI64 n'), (2, .hp 0 0), (4, .hs 1 0 l_22.length 1)], [.own [aB false, nS], .own (l_22.flatMap (iC .u32))]⟩) hL28 ((Wk.gc [0, 2, 3, 4] [(0, true), (1, false)] rfl (pKt (pKc trivial))).to (by kernel_rfl)) ?_ ?_
  ·clear hr
   rintro m ⟨u_17, l_18⟩ hr
   show CQ _ _ _ _ _ ⟨_, _⟩
   refine .seq <| .seq <| .r3 fine 29 [(0, aI64 n'), (2, .hp 0 0), (3, aU64 u_17), (4, .hs 1 0 l_18.length 1), (16, aB (decide (u_17 > 0)))] ?_
   refine .cd hr (fun hb24 hr => ?_) (fun hb24 hr => ?_)
   ·refine .skip <| .block <| .seq ?_
    obtain ⟨hg25, hg26, hr⟩ := gd2 hr
    refine .r0 fine <| .mu 5 <| .e0 (v := .hs 3 0 (l_18 ++ [wrapF .u32 (u_17.tmod 1000000000)]).length 1) (ws := [(1, .dead), (3, .own ((l_18 ++ [wrapF .u32 (u_17.tmod 1000000000)]).flatMap (iC .u32)))]) (tr (app_own (new := [aU32 (wrapF .u32 (u_17.tmod 1000000000))]) (l := l_18) (xs := [wrapF .u32 (u_17.tmod 1000000000)]) (iC_len .u32) rfl rfl (by kernel_rfl) hg25 hg26)) <| .mu 1 <| .done <| .n2 29 [(0, aI64 n'), (2, .hp 0 0), (3, aU64 u_17), (4, .hs 3 0 (l_18 ++ [wrapF .u32 (u_17.tmod 1000000000)]).length 1)] [.own [aB false, nS], .dead, .own [aU32 (wrapF .u32 (u_17.tmod 1000000000))], .own ((l_18 ++ [wrapF .u32 (u_17.tmod 1000000000)]).flatMap (iC .u32))] <| .ru fine <| .pop ?_
    exact loopF_back (wrapF .u64 (u_17.tdiv 1000000000), l_18 ++ [wrapF .u32 (u_17.tmod 1000000000)]) hr ((Wk.gc [0, 2, 3, 4] [(0, true), (3, false)] rfl (pKt (pKo (iC .u32) (iC_pure _) (l_18 ++ [wrapF .u32 (u_17.tmod 1000000000)]) trivial))).to (by kernel_rfl))
   ·refine .leave rfl ?_
    obtain rfl := oi hr
    exact ⟨rfl, ((Wk.gc [0, 2, 4] [(0, true), (1, false)] rfl (pKt (pKo (iC .u32) (iC_pure _) l_18 trivial))).to (by kernel_rfl))⟩
  ·rintro x st' hq29
   clear hL28
   obtain ⟨rfl, hq29⟩ := hq29
   refine CQ_exit _ rfl <| .wk hq29 <| .seq ?_
   obtain ⟨v30, hc31, hr⟩ := bd hr
   refine .g1 fine (callOk_ref (args := [aB false, .hs 1 0 l_22.length 1]) (l := [1]) (SnL.cons (Sn.pure rfl) (SnL.cons (Sn.hs rfl (.inl rfl) (SnC.pure (ids_flat (iC_pure _) _)) (fun h => flat_nil0 h)) SnL.nil)) (fiducialref01_made_ok n false l_22 v30 hc31)) <| .mu 1 <| .p0 (v := aB false) (eB hb1) <| .mu 1 <| .ca cf0 <| .mu 1 <| .done <| .n2 29 [(2, .hp 0 0)] [.own (api_Int.c v30), .fix (l_22.flatMap (iC .u32))] <| .ret ?_
   obtain rfl := oi hr
   exact FinQ.r1 [.agg (api_Int.c v30)]

theorem fiducialref02_whole_inj {n' : Int} {n'_ : Int} (h : ([.at (.int .i64 n')] : List AV) = [.at (.int .i64 n'_)]) : n' = n'_ := by
 simp only [List.cons.injEq, AV.agg.injEq, AV.at.injEq, Value.int.injEq, Value.bool.injEq, AV.fn.injEq, AV.pp.injEq, true_and, and_true] at h
 simp_all
theorem fiducialref02_whole_cg (n : Nat) {n' : Int} {n'_ : Int} (h : ([.at (.int .i64 n')] : List AV) = [.at (.int .i64 n'_)]) : fiducialref02_whole n n' = fiducialref02_whole n n'_ := by
 obtain rfl := fiducialref02_whole_inj h
 rfl
theorem fiducialref02_whole_ok (n : Nat) (n' : Int) (r : api_Int) (hr : fiducialref02_whole n n' = some r) : FnOk Tryz.prog 82 [aI64 n'] (.agg (api_Int.c r)) := by
 unfold fiducialref02_whole at hr
 refine FnOk.bd fine Tryz.func82 [.cell 2 38] ?_
 unfold Tryz.f82
 simp only [Option.getD_some]
 refine .seq <| .r2 fine 5 [(0, aI64 n'), (2, .hp 0 0)] [.own [aB false, nS]] <| .seq ?_
 obtain ⟨v1, hc2, hr⟩ := bd hr
 refine .g1 fine (ok0 (fiducialref01_Of_ok n n' v1 hc2)) <| .mu 1 <| .ca cf0 <| .mu 1 <| .done <| .n2 5 [(2, .hp 0 0)] [.own (api_Int.c v1)] <| .ret ?_
 obtain rfl := oi hr
 exact FinQ.r1 [.agg (api_Int.c v1)]

theorem fiducialref01_Neg_ok (n : Nat) (x' : api_Int) (r : api_Int) (hr : fiducialref01_Neg n x' = some r) : FnOk Tryz.prog 115 [.agg (api_Int.c x')] (.agg (api_Int.c r)) := by
 unfold fiducialref01_Neg at hr
 refine FnOk.bd fine Tryz.func115 [.cell 2 38] ?_
 unfold Tryz.f115
 simp only [Option.getD_some]
 refine .seq <| .r2 fine 11 [(1, .hp 0 0), (2, .hp 1 0)] [.own (api_Int.c x'), .own [aB false, nS]] <| .seq ?_
 obtain ⟨v1, hc2, hr⟩ := bd hr
 refine .g1 fine (ok0 (fiducialref01_Value_ok n x' v1 hc2)) <| .mu 1 <| .ca cf0 <| .mu 1 <| .done <| .n2 11 [(1, .hp 0 0), (2, .hp 1 0)] [.own (api_Int.c v1), .own [aB false, nS]] <| .seq ?_
 obtain ⟨v3, hc4, hr⟩ := bd hr
 refine .g1 fine (ok0 (fiducialref01_made_ok n (!v1.Negative) v1.Groups v3 hc4)) <| .mu 5 <| .ca cf0 <| .mu 1 <| .done <| .n2 11 [(2, .hp 1 0)] [.own (api_Int.c v1), .own (api_Int.c v3)] <| .ret ?_
 obtain rfl := oi hr
 exact FinQ.r1 [.agg (api_Int.c v3)]

theorem fiducialref01_plus_ok (n : Nat) (a : List Int) (b : List Int) (r : List Int) (hr : fiducialref01_plus n a b = some r) : FnOk Tryz.prog 138 [sU32 a, sU32 b] (sU32 r) := by
 unfold fiducialref01_plus at hr
 refine FnOk.bd fine Tryz.func138 [.tmp 4] ?_
 unfold Tryz.f138
 simp only [Option.getD_some]
 refine .seq <| .r3 fine 46 [(0, sU32 a), (1, sU32 b)] <| .seq <| .r2 fine 46 [(0, sU32 a), (1, sU32 b), (5, .hs 0 0 0 1)] [.own []] <| .seq <| .r3 fine 46 [(0, sU32 a), (1, sU32 b), (5, .hs 0 0 0 1), (6, aU64 0)] <| .seq <| .seq <| .r3 fine 46 [(0, sU32 a), (1, sU32 b), (5, .hs 0 0 0 1), (6, aU64 0), (7, aI64 0)] <| .block ?_
 replace hr := bd hr; obtain ⟨o35, hL36, hr⟩ := hr
 refine .loopO (σ := fun z0 => match z0 with | (out_1, carry_2, i_3) => ⟨mkS 46 0 [(0, sU32 a), (1, sU32 b), (5, .hs 0 0 out_1.length 1), (6, aU64 carry_2), (7, aI64 i_3)], [.own (out_1.flatMap (iC .u32))]⟩) (Q := fun x st' => match (generalizing := false) o35 with | (out_18, carry_19) => x = .exit 0 ∧ Wk 0 st' ⟨mkS 46 0 [(5, .hs 0 0 out_18.length 1), (6, aU64 carry_19)], [.own (out_18.flatMap (iC .u32))]⟩) hL36 ((Wk.gc [0, 1, 5, 6, 7] [(0, false)] rfl (pKc trivial)).to (by kernel_rfl)) ?_ ?_
 ·clear hr
  rintro m ⟨out_1, carry_2, i_3⟩ hr
  show CQ _ _ _ _ _ ⟨_, _⟩
  refine .seq <| .seq ?_
  rcases Bool.eq_false_or_eq_true (decide (i_3 < (a.length : Int))) with hb21 | hb21
  ·replace hr := cd_t hb21 hr
   refine .r0 fine <| .mu 3 <| .p0 (v := aB true) (eB hb21) <| .mu 6 <| .done <| .n2 46 [(0, sU32 a), (1, sU32 b), (5, .hs 0 0 out_1.length 1), (6, aU64 carry_2), (7, aI64 i_3), (19, aB true)] [.own (out_1.flatMap (iC .u32))] <| .cT (by kernel_rfl) <| .skip <| .seq <| .block <| .seq ?_
   obtain ⟨v22, hc23, v24, hc25, hr⟩ := bd2 hr
   refine .gn fine (ca1 (ok0 (fiducialref01_group_ok n a i_3 v22 hc23)) (ca3 (ok0 (fiducialref01_group_ok n b i_3 v24 hc25)))) <| .mu 2 <| .ca cf0 <| .mu 2 <| .ca (cfA (fun h => by rw [sv hc25 hc23 (fiducialref01_group_cg n h)]) cf0) <| .mu 4 <| .done <| .n2 46 [(0, sU32 a), (1, sU32 b), (5, .hs 0 0 out_1.length 1), (7, aI64 i_3), (8, aU64 (wrapF .u64 ((wrapF .u64 (v22 + v24)) + carry_2)))] [.own (out_1.flatMap (iC .u32))] <| .seq ?_
   obtain ⟨hg26, hg27, hr⟩ := gd2 hr
   refine .r0 fine <| .mu 5 <| .e0 (v := .hs 2 0 (out_1 ++ [wrapF .u32 ((wrapF .u64 ((wrapF .u64 (v22 + v24)) + carry_2)).tmod 1000000000)]).length 1) (ws := [(0, .dead), (2, .own ((out_1 ++ [wrapF .u32 ((wrapF .u64 ((wrapF .u64 (v22 + v24)) + carry_2)).tmod 1000000000)]).flatMap (iC .u32)))]) (tr (app_own (new := [aU32 (wrapF .u32 ((wrapF .u64 ((wrapF .u64 (v22 + v24)) + carry_2)).tmod 1000000000))]) (l := out_1) (xs := [wrapF .u32 ((wrapF .u64 ((wrapF .u64 (v22 + v24)) + carry_2)).tmod 1000000000)]) (iC_len .u32) rfl rfl (by kernel_rfl) hg26 hg27)) <| .mu 1 <| .done <| .n2 46 [(0, sU32 a), (1, sU32 b), (5, .hs 2 0 (out_1 ++ [wrapF .u32 ((wrapF .u64 ((wrapF .u64 (v22 + v24)) + carry_2)).tmod 1000000000)]).length 1), (7, aI64 i_3), (8, aU64 (wrapF .u64 ((wrapF .u64 (v22 + v24)) + carry_2)))] [.dead, .own [aU32 (wrapF .u32 ((wrapF .u64 ((wrapF .u64 (v22 + v24)) + carry_2)).tmod 1000000000))], .own ((out_1 ++ [wrapF .u32 ((wrapF .u64 ((wrapF .u64 (v22 + v24)) + carry_2)).tmod 1000000000)]).flatMap (iC .u32))] <| .ru fine <| .pop <| .ru fine ?_
   exact loopF_back (out_1 ++ [wrapF .u32 ((wrapF .u64 ((wrapF .u64 (v22 + v24)) + carry_2)).tmod 1000000000)], wrapF .u64 ((wrapF .u64 ((wrapF .u64 (v22 + v24)) + carry_2)).tdiv 1000000000), wrapF .i64 (i_3 + 1)) hr ((Wk.gc [0, 1, 5, 6, 7] [(2, false)] rfl (pKo (iC .u32) (iC_pure _) (out_1 ++ [wrapF .u32 ((wrapF .u64 ((wrapF .u64 (v22 + v24)) + carry_2)).tmod 1000000000)]) trivial)).to (by kernel_rfl))
  ·replace hr := cd_f hb21 hr
   refine .r0 fine <| .mu 3 <| .p0 (v := aB false) (eB hb21) <| .mu 6 <| .done <| .n2 46 [(0, sU32 a), (1, sU32 b), (5, .hs 0 0 out_1.length 1), (6, aU64 carry_2), (7, aI64 i_3), (19, aB (decide (i_3 < (b.length : Int))))] [.own (out_1.flatMap (iC .u32))] ?_
   refine .cd hr (fun hb28 hr => ?_) (fun hb28 hr => ?_)
   ·refine .skip <| .seq <| .block <| .seq ?_
    obtain ⟨v29, hc30, v31, hc32, hr⟩ := bd2 hr
    refine .gn fine (ca1 (ok0 (fiducialref01_group_ok n a i_3 v29 hc30)) (ca3 (ok0 (fiducialref01_group_ok n b i_3 v31 hc32)))) <| .mu 2 <| .ca cf0 <| .mu 2 <| .ca (cfA (fun h => by rw [sv hc32 hc30 (fiducialref01_group_cg n h)]) cf0) <| .mu 4 <| .done <| .n2 46 [(0, sU32 a), (1, sU32 b), (5, .hs 0 0 out_1.length 1), (7, aI64 i_3), (8, aU64 (wrapF .u64 ((wrapF .u64 (v29 + v31)) + carry_2)))] [.own (out_1.flatMap (iC .u32))] <| .seq ?_
    obtain ⟨hg33, hg34, hr⟩ := gd2 hr
    refine .r0 fine <| .mu 5 <| .e0 (v := .hs 2 0 (out_1 ++ [wrapF .u32 ((wrapF .u64 ((wrapF .u64 (v29 + v31)) + carry_2)).tmod 1000000000)]).length 1) (ws := [(0, .dead), (2, .own ((out_1 ++ [wrapF .u32 ((wrapF .u64 ((wrapF .u64 (v29 + v31)) + carry_2)).tmod 1000000000)]).flatMap (iC .u32)))]) (tr (app_own (new := [aU32 (wrapF .u32 ((wrapF .u64 ((wrapF .u64 (v29 + v31)) + carry_2)).tmod 1000000000))]) (l := out_1) (xs := [wrapF .u32 ((wrapF .u64 ((wrapF .u64 (v29 + v31)) + carry_2)).tmod 1000000000)]) (iC_len .u32) rfl rfl (by kernel_rfl) hg33 hg34)) <| .mu 1 <| .done <| .n2 46 [(0, sU32 a), (1, sU32 b), (5, .hs 2 0 (out_1 ++ [wrapF .u32 ((wrapF .u64 ((wrapF .u64 (v29 + v31)) + carry_2)).tmod 1000000000)]).length 1), (7, aI64 i_3), (8, aU64 (wrapF .u64 ((wrapF .u64 (v29 + v31)) + carry_2)))] [.dead, .own [aU32 (wrapF .u32 ((wrapF .u64 ((wrapF .u64 (v29 + v31)) + carry_2)).tmod 1000000000))], .own ((out_1 ++ [wrapF .u32 ((wrapF .u64 ((wrapF .u64 (v29 + v31)) + carry_2)).tmod 1000000000)]).flatMap (iC .u32))] <| .ru fine <| .pop <| .ru fine ?_
    exact loopF_back (out_1 ++ [wrapF .u32 ((wrapF .u64 ((wrapF .u64 (v29 + v31)) + carry_2)).tmod 1000000000)], wrapF .u64 ((wrapF .u64 ((wrapF .u64 (v29 + v31)) + carry_2)).tdiv 1000000000), wrapF .i64 (i_3 + 1)) hr ((Wk.gc [0, 1, 5, 6, 7] [(2, false)] rfl (pKo (iC .u32) (iC_pure _) (out_1 ++ [wrapF .u32 ((wrapF .u64 ((wrapF .u64 (v29 + v31)) + carry_2)).tmod 1000000000)]) trivial)).to (by kernel_rfl))
   ·refine .leave rfl ?_
    obtain rfl := oi hr
    exact ⟨rfl, ((Wk.gc [5, 6] [(0, false)] rfl (pKo (iC .u32) (iC_pure _) out_1 trivial)).to (by kernel_rfl))⟩
 ·rcases o35 with ⟨out_18, carry_19⟩
  rintro x st' hq37
  clear hL36
  obtain ⟨rfl, hq37⟩ := hq37
  refine CQ_exit _ rfl <| .wk hq37 <| .seq ?_
  obtain ⟨hg38, hg39, hr⟩ := gd2 hr
  obtain ⟨v40, hc41, hr⟩ := bd hr
  refine .gn fine (ca4 [.dead, .own [aU32 (wrapF .u32 carry_19)], .own ((out_18 ++ [wrapF .u32 carry_19]).flatMap (iC .u32))] (callOk_ref (args := [aB false, .hs 2 0 (out_18 ++ [wrapF .u32 carry_19]).length 1]) (l := [2]) (SnL.cons (Sn.pure rfl) (SnL.cons (Sn.hs rfl (.inl rfl) (SnC.pure (ids_flat (iC_pure _) _)) (fun h => flat_nil0 h)) SnL.nil)) (fiducialref01_made_ok n false (out_18 ++ [wrapF .u32 carry_19]) v40 hc41))) <| .mu 4 <| .e0 (v := .hs 2 0 (out_18 ++ [wrapF .u32 carry_19]).length 1) (ws := [(0, .dead), (2, .own ((out_18 ++ [wrapF .u32 carry_19]).flatMap (iC .u32)))]) (tr (app_own (new := [aU32 (wrapF .u32 carry_19)]) (l := out_18) (xs := [wrapF .u32 carry_19]) (iC_len .u32) rfl rfl (by kernel_rfl) hg38 hg39)) <| .ca cf0 <| .mu 2 <| .done <| .ret ?_
  obtain rfl := oi hr
  exact FinQ.r1 [sU32 v40.Groups]

theorem fiducialref01_Add_ok (n : Nat) (x' : api_Int) (y : api_Int) (r : api_Int) (hr : fiducialref01_Add n x' y = some r) : FnOk Tryz.prog 114 [.agg (api_Int.c x'), .agg (api_Int.c y)] (.agg (api_Int.c r)) := by
 unfold fiducialref01_Add at hr
 refine FnOk.bd fine Tryz.func114 [.cell 4 38] ?_
 unfold Tryz.f114
 simp only [Option.getD_some]
 refine .seq <| .r2 fine 44 [(2, .hp 0 0), (3, .hp 1 0), (4, .hp 2 0)] [.own (api_Int.c x'), .own (api_Int.c y), .own [aB false, nS]] <| .seq ?_
 obtain ⟨v1, hc2, v3, hc4, hr⟩ := bd2 hr
 refine .tn fine (ca1 (ok0 (fiducialref01_Value_ok n x' v1 hc2)) (ca3 (ok0 (fiducialref01_Value_ok n y v3 hc4)))) <| .mu 1 <| .ca cf0 <| .mu 1 <| .ca (cfA (fun h => by rw [sv hc4 hc2 (fiducialref01_Value_cg n h)]) cf0) <| .mu 2 ?_
 refine .done ⟨by kernel_rfl, ?_⟩
 refine .n2 44 [(2, .hp 0 0), (3, .hp 1 0), (4, .hp 2 0)] [.own (api_Int.c v1), .own (api_Int.c v3), .own [aB false, nS]] <| .seq <| .seq <| .r3 fine 44 [(2, .hp 0 0), (3, .hp 1 0), (4, .hp 2 0), (13, aB (v1.Negative == v3.Negative))] ?_
 refine .cd hr (fun hb5 hr => ?_) (fun hb5 hr => ?_)
 ·refine .seq ?_
  obtain ⟨v6, hc7, v8, hc9, hr⟩ := bd2 hr
  refine .tn fine (ca1 (ok0 (fiducialref01_plus_ok n v1.Groups v3.Groups v6 hc7)) (ca3 (ok0 (fiducialref01_made_ok n v1.Negative v6 v8 hc9)))) <| .mu 6 <| .ca cf0 <| .ca (cfF cf0) <| .mu 1 ?_
  refine .done ⟨by kernel_rfl, ?_⟩
  refine .n2 44 [(4, .hp 2 0)] [.own (api_Int.c v1), .own (api_Int.c v3), .own (api_Int.c v8)] <| .ret ?_
  obtain rfl := oi hr
  exact FinQ.r1 [.agg (api_Int.c v8)]
 ·refine .skip <| .seq <| .seq ?_
  obtain ⟨v10, hc11, hr⟩ := bd hr
  refine .g1 fine (ok0 (fiducialref01_size_ok n v1.Groups v3.Groups v10 hc11)) <| .mu 4 <| .ca cf0 <| .mu 1 <| .done <| .n2 44 [(2, .hp 0 0), (3, .hp 1 0), (4, .hp 2 0), (27, aB (decide (v10 ≥ 0)))] [.own (api_Int.c v1), .own (api_Int.c v3), .own [aB false, nS]] ?_
  refine .cd hr (fun hb12 hr => ?_) (fun hb12 hr => ?_)
  ·refine .seq ?_
   obtain ⟨v13, hc14, v15, hc16, hr⟩ := bd2 hr
   refine .tn fine (ca1 (ok0 (fiducialref01_minus_ok n v1.Groups v3.Groups v13 hc14)) (ca3 (ok0 (fiducialref01_made_ok n v1.Negative v13 v15 hc16)))) <| .mu 6 <| .ca cf0 <| .ca (cfF cf0) <| .mu 1 ?_
   refine .done ⟨by kernel_rfl, ?_⟩
   refine .n2 44 [(4, .hp 2 0)] [.own (api_Int.c v1), .own (api_Int.c v3), .own (api_Int.c v15)] <| .ret ?_
   obtain rfl := oi hr
   exact FinQ.r1 [.agg (api_Int.c v15)]
  ·refine .skip <| .seq ?_
   obtain ⟨v17, hc18, v19, hc20, hr⟩ := bd2 hr
   refine .tn fine (ca1 (ok0 (fiducialref01_minus_ok n v3.Groups v1.Groups v17 hc18)) (ca3 (ok0 (fiducialref01_made_ok n v3.Negative v17 v19 hc20)))) <| .mu 6 <| .ca cf0 <| .ca (cfF cf0) <| .mu 1 ?_
   refine .done ⟨by kernel_rfl, ?_⟩
   refine .n2 44 [(4, .hp 2 0)] [.own (api_Int.c v1), .own (api_Int.c v3), .own (api_Int.c v19)] <| .ret ?_
   obtain rfl := oi hr
   exact FinQ.r1 [.agg (api_Int.c v19)]

theorem fiducialref01_Sub_ok (n : Nat) (x' : api_Int) (y : api_Int) (r : api_Int) (hr : fiducialref01_Sub n x' y = some r) : FnOk Tryz.prog 110 [.agg (api_Int.c x'), .agg (api_Int.c y)] (.agg (api_Int.c r)) := by
 unfold fiducialref01_Sub at hr
 refine FnOk.bd fine Tryz.func110 [.cell 4 38] ?_
 unfold Tryz.f110
 simp only [Option.getD_some]
 refine .seq <| .r2 fine 9 [(2, .hp 0 0), (3, .hp 1 0), (4, .hp 2 0)] [.own (api_Int.c x'), .own (api_Int.c y), .own [aB false, nS]] <| .seq ?_
 obtain ⟨v1, hc2, v3, hc4, hr⟩ := bd2 hr
 refine .tn fine (ca1 (ok0 (fiducialref01_Neg_ok n y v1 hc2)) (ca3 (ok0 (fiducialref01_Add_ok n x' v1 v3 hc4)))) <| .mu 2 <| .ca cf0 <| .ca (cfF cf0) <| .mu 1 ?_
 refine .done ⟨by kernel_rfl, ?_⟩
 refine .n2 9 [(4, .hp 2 0)] [.own (api_Int.c x'), .own (api_Int.c y), .own (api_Int.c v3)] <| .ret ?_
 obtain rfl := oi hr
 exact FinQ.r1 [.agg (api_Int.c v3)]

theorem fiducialref01_Compare_ok (n : Nat) (x' : api_Int) (y : api_Int) (r : Int) (hr : fiducialref01_Compare n x' y = some r) : FnOk Tryz.prog 88 [.agg (api_Int.c x'), .agg (api_Int.c y)] (aI64 r) := by
 unfold fiducialref01_Compare at hr
 refine FnOk.bd fine Tryz.func88 [.tmp 4] ?_
 unfold Tryz.f88
 simp only [Option.getD_some]
 refine .seq <| .r2 fine 9 [(2, .hp 0 0), (3, .hp 1 0)] [.own (api_Int.c x'), .own (api_Int.c y)] <| .seq ?_
 obtain ⟨v1, hc2, v3, hc4, hr⟩ := bd2 hr
 refine .gn fine (ca1 (ok0 (fiducialref01_Sub_ok n x' y v1 hc2)) (ca3 (ok0 (fiducialref01_Sign_ok n v1 v3 hc4)))) <| .mu 2 <| .ca cf0 <| .ca (cfF cf0) <| .mu 1 <| .done <| .ret ?_
 obtain rfl := oi hr
 exact FinQ.r1 [aI64 v3]

theorem fiducialref02_Valid_inj {x' : api_Rat} {x'_ : api_Rat} (h : ([.agg [.at (.bool x'.Num.Negative), slT (iC .u32) x'.Num.Groups, .at (.bool x'.Den.Negative), slT (iC .u32) x'.Den.Groups]] : List AV) = [.agg [.at (.bool x'_.Num.Negative), slT (iC .u32) x'_.Num.Groups, .at (.bool x'_.Den.Negative), slT (iC .u32) x'_.Den.Groups]]) : x' = x'_ := by
 obtain ⟨⟨_, _⟩, ⟨_, _⟩⟩ := x'
 obtain ⟨⟨_, _⟩, ⟨_, _⟩⟩ := x'_
 simp only [List.cons.injEq, AV.agg.injEq, AV.at.injEq, Value.int.injEq, Value.bool.injEq, AV.fn.injEq, AV.pp.injEq, true_and, and_true, slT_inj_int] at h
 simp_all
theorem fiducialref02_Valid_cg (n : Nat) {x' : api_Rat} {x'_ : api_Rat} (h : ([.agg [.at (.bool x'.Num.Negative), slT (iC .u32) x'.Num.Groups, .at (.bool x'.Den.Negative), slT (iC .u32) x'.Den.Groups]] : List AV) = [.agg [.at (.bool x'_.Num.Negative), slT (iC .u32) x'_.Num.Groups, .at (.bool x'_.Den.Negative), slT (iC .u32) x'_.Den.Groups]]) : fiducialref02_Valid n x' = fiducialref02_Valid n x'_ := by
 obtain rfl := fiducialref02_Valid_inj h
 rfl
theorem fiducialref02_Valid_ok (n : Nat) (x' : api_Rat) (r : Bool) (hr : fiducialref02_Valid n x' = some r) : FnOk Tryz.prog 51 [.agg (api_Rat.c x')] (aB r) := by
 unfold fiducialref02_Valid at hr
 refine FnOk.bd fine Tryz.func51 [.tmp 2] ?_
 unfold Tryz.f51
 simp only [Option.getD_some]
 refine .seq <| .r2 fine 27 [(1, .hp 0 0)] [.own (api_Rat.c x')] <| .seq <| .seq ?_
 obtain ⟨v1, hc2, hr⟩ := bd hr
 rcases Bool.eq_false_or_eq_true (!v1) with hb3 | hb3
 ·replace hr := cd_t hb3 hr
  refine .g1 fine (ok0 (fiducialref01_Valid_ok n x'.Num v1 hc2)) <| .mu 2 <| .ca cf0 <| .p0 (v := aB true) (eB hb3) <| .mu 12 <| .done <| .n2 27 [(1, .hp 0 0), (18, aB true)] [.own (api_Rat.c x')] <| .cT (by kernel_rfl) <| .seq <| .ru fine <| .ret ?_
  obtain rfl := oi hr
  exact FinQ.r1 [aB false]
 ·replace hr := cd_f hb3 hr
  obtain ⟨v4, hc5, hr⟩ := bd hr
  rcases Bool.eq_false_or_eq_true (!v4) with hb6 | hb6
  ·replace hr := cd_t hb6 hr
   refine .gn fine (ca1 (ok0 (fiducialref01_Valid_ok n x'.Num v1 hc2)) (ca3 (ok0 (fiducialref01_Valid_ok n x'.Den v4 hc5)))) <| .mu 2 <| .ca cf0 <| .p0 (v := aB false) (eB hb3) <| .mu 3 <| .ca (cfA (fun h => by rw [sv hc5 hc2 (fiducialref01_Valid_cg n h)]) cf0) <| .pure (v := aB true) (by kernel_rfl) (eB hb6) <| .mu 7 <| .done <| .n2 27 [(1, .hp 0 0), (18, aB true)] [.own (api_Rat.c x')] <| .cT (by kernel_rfl) <| .seq <| .ru fine <| .ret ?_
   obtain rfl := oi hr
   exact FinQ.r1 [aB false]
  ·replace hr := cd_f hb6 hr
   obtain ⟨v7, hc8, hr⟩ := bd hr
   refine .gn fine (ca1 (ok0 (fiducialref01_Valid_ok n x'.Num v1 hc2)) (ca1 (ok0 (fiducialref01_Valid_ok n x'.Den v4 hc5)) (ca3 (ok0 (fiducialref01_Sign_ok n x'.Den v7 hc8))))) <| .mu 2 <| .ca cf0 <| .p0 (v := aB false) (eB hb3) <| .mu 3 <| .ca (cfA (fun h => by rw [sv hc5 hc2 (fiducialref01_Valid_cg n h)]) cf0) <| .pure (v := aB false) (by kernel_rfl) (eB hb6) <| .mu 4 <| .ca (cfF (cfF cf0)) <| .mu 2 <| .done <| .n2 27 [(1, .hp 0 0), (18, aB (decide (v7 ≤ 0)))] [.own (api_Rat.c x')] ?_
   refine .cd hr (fun hb9 hr => ?_) (fun hb9 hr => ?_)
   ·refine .seq <| .ru fine <| .ret ?_
    obtain rfl := oi hr
    exact FinQ.r1 [aB false]
   ·refine .skip <| .seq ?_
    obtain ⟨v10, hc11, v12, hc13, v14, hc15, hr⟩ := bd3 hr
    refine .gn fine (ca1 (ok0 (fiducialref01_Gcd_ok n x'.Num x'.Den v10 hc11)) (ca1 (ok0 (fiducialref02_whole_ok n 1 v12 hc13)) (ca3 (ok0 (fiducialref01_Compare_ok n v10 v12 v14 hc15))))) <| .mu 4 <| .ca cf0 <| .ca (cfF cf0) <| .ca (cfF (cfF cf0)) <| .mu 2 <| .done <| .ret ?_
    obtain rfl := oi hr
    exact FinQ.r1 [aB ((v14 : Int) == 0)]

theorem fiducialref02_Whole_ok (n : Nat) (n' : Int) (r : api_Rat) (hr : fiducialref02_Whole n n' = some r) : FnOk Tryz.prog 57 [aI64 n'] (.agg (api_Rat.c r)) := by
 unfold fiducialref02_Whole at hr
 refine FnOk.bd fine Tryz.func57 [.cell 2 40] ?_
 unfold Tryz.f57
 simp only [Option.getD_some]
 refine .seq <| .r2 fine 7 [(0, aI64 n'), (2, .hp 0 0)] [.own [aB false, nS, aB false, nS]] <| .seq ?_
 obtain ⟨v1, hc2, v3, hc4, hr⟩ := bd2 hr
 refine .gn fine (ca1 (ok0 (fiducialref02_whole_ok n n' v1 hc2)) (ca3 (ok0 (fiducialref02_whole_ok n 1 v3 hc4)))) <| .mu 1 <| .ca cf0 <| .ca (cfA (fun h => by rw [sv hc4 hc2 (fiducialref02_whole_cg n h)]) cf0) <| .mu 2 <| .done <| .n2 7 [(2, .hp 0 0)] [.own [aB v1.Negative, sU32 v1.Groups, aB v3.Negative, sU32 v3.Groups]] <| .ret ?_
 obtain rfl := oi hr
 exact FinQ.r1 [.agg [aB v1.Negative, sU32 v1.Groups, aB v3.Negative, sU32 v3.Groups]]

theorem fiducialref02_Value_ok (n : Nat) (x' : api_Rat) (r : api_Rat) (hr : fiducialref02_Value n x' = some r) : FnOk Tryz.prog 86 [.agg (api_Rat.c x')] (.agg (api_Rat.c r)) := by
 unfold fiducialref02_Value at hr
 refine FnOk.bd fine Tryz.func86 [.cell 2 40] ?_
 unfold Tryz.f86
 simp only [Option.getD_some]
 refine .seq <| .r2 fine 7 [(1, .hp 0 0), (2, .hp 1 0)] [.own (api_Rat.c x'), .own [aB false, nS, aB false, nS]] <| .seq <| .seq ?_
 obtain ⟨v1, hc2, hr⟩ := bd hr
 refine .g1 fine (ok0 (fiducialref02_Valid_ok n x' v1 hc2)) <| .mu 1 <| .ca cf0 <| .done <| .n2 7 [(1, .hp 0 0), (2, .hp 1 0), (4, aB v1)] [.own (api_Rat.c x'), .own [aB false, nS, aB false, nS]] ?_
 refine .cd hr (fun hb3 hr => ?_) (fun hb3 hr => ?_)
 ·refine .seq <| .r2 fine 7 [(2, .hp 1 0)] [.own (api_Rat.c x'), .own (api_Rat.c x')] <| .ret ?_
  obtain rfl := oi hr
  exact FinQ.r1 [.agg (api_Rat.c x')]
 ·refine .skip <| .seq ?_
  obtain ⟨v4, hc5, hr⟩ := bd hr
  refine .g1 fine (ok0 (fiducialref02_Whole_ok n 0 v4 hc5)) <| .ca cf0 <| .mu 1 <| .done <| .n2 7 [(2, .hp 1 0)] [.own (api_Rat.c x'), .own (api_Rat.c v4)] <| .ret ?_
  obtain rfl := oi hr
  exact FinQ.r1 [.agg (api_Rat.c v4)]

theorem fiducialref02_Sign_ok (n : Nat) (x' : api_Rat) (r : Int) (hr : fiducialref02_Sign n x' = some r) : FnOk Tryz.prog 50 [.agg (api_Rat.c x')] (aI64 r) := by
 unfold fiducialref02_Sign at hr
 refine FnOk.bd fine Tryz.func50 [.tmp 2] ?_
 unfold Tryz.f50
 simp only [Option.getD_some]
 refine .seq <| .r2 fine 7 [(1, .hp 0 0)] [.own (api_Rat.c x')] <| .seq ?_
 obtain ⟨v1, hc2, v3, hc4, hr⟩ := bd2 hr
 refine .gn fine (ca1 (ok0 (fiducialref02_Value_ok n x' v1 hc2)) (ca3 (ok0 (fiducialref01_Sign_ok n v1.Num v3 hc4)))) <| .mu 1 <| .ca cf0 <| .mu 1 <| .ca (cfF cf0) <| .mu 1 <| .done <| .ret ?_
 obtain rfl := oi hr
 exact FinQ.r1 [aI64 v3]

theorem plan_Verify_ok (n : Nat) (s : api_Survey) (f : api_Flight) (r : Int) (hr : plan_Verify n s f = some r) : FnOk Tryz.prog 42 [.agg (api_Survey.c s), .agg (api_Flight.c f)] (aI64 r) := by
 unfold plan_Verify at hr
 refine FnOk.bd fine Tryz.func42 [.tmp 4] ?_
 unfold Tryz.f42
 simp only [Option.getD_some]
 refine .seq <| .r2 fine 28 [(2, .hp 0 0), (3, .hp 1 0)] [.own (api_Survey.c s), .own (api_Flight.c f)] <| .seq <| .seq ?_
 obtain ⟨v1, hc2, hr⟩ := bd hr
 refine .g1 fine (ok0 (plan_asked_ok n s f s.High true v1 hc2)) <| .mu 4 <| .ca cf0 <| .mu 1 <| .done <| .n2 28 [(2, .hp 0 0), (3, .hp 1 0), (5, aI64 v1)] [.own (api_Survey.c s), .own (api_Flight.c f)] <| .seq <| .r3 fine 28 [(2, .hp 0 0), (3, .hp 1 0), (5, aI64 v1), (14, aB ((v1 : Int) != 0))] ?_
 refine .cd hr (fun hb4 hr => ?_) (fun hb4 hr => ?_)
 ·refine .seq <| .ru fine <| .ret ?_
  obtain rfl := oi hr
  exact FinQ.r1 [aI64 v1]
 ·refine .skip <| .seq <| .seq ?_
  obtain ⟨v5, hc6, hr⟩ := bd hr
  refine .g1 fine (ok0 (plan_cover_ok n s f s.High v5 hc6)) <| .mu 4 <| .ca cf0 <| .mu 6 <| .done <| .n2 28 [(2, .hp 0 0), (6, aI64 v5.1)] [.own (api_Survey.c s), .own (api_Flight.c f), .own (api_Place.c v5.2)] <| .seq <| .r3 fine 28 [(27, aB (decide (v5.1 < s.Views)))] ?_
  refine .cd hr (fun hb7 hr => ?_) (fun hb7 hr => ?_)
  ·refine .seq <| .ru fine <| .ret ?_
   obtain rfl := oi hr
   exact FinQ.r1 [aI64 12]
  ·refine .skip <| .seq <| .ru fine <| .ret ?_
   obtain rfl := oi hr
   exact FinQ.r1 [aI64 0]

theorem fiduciallaw55_known_ok (n : Nat) (r : Bool) (hr : fiduciallaw55_known n = some r) : FnOk Tryz.prog 13 [] (aB r) := by
 unfold fiduciallaw55_known at hr
 refine FnOk.bd fine Tryz.func13 [.tmp 0] ?_
 unfold Tryz.f13
 simp only [Option.getD_some]
 refine .seq <| .r3 fine 77 [] <| .seq ?_
 obtain ⟨v1, hc2, v3, hc4, hr⟩ := bd2 hr
 refine .gn fine (ca1 (ok0 (fiduciallaw55_example_ok n v1 hc2)) (ca3 (ok0 (plan_Make_ok n v1 40 v3 hc4)))) <| .ca cf0 <| .ca (cfF cf0) <| .mu 6 <| .done <| .n2 77 [(1, .hp 0 0), (2, aI64 v3.2)] [.own (api_Flight.c v3.1)] <| .seq <| .seq ?_
 rcases Bool.eq_false_or_eq_true ((v3.2 : Int) != 0) with hb5 | hb5
 ·replace hr := cd_t hb5 hr
  refine .r0 fine <| .mu 1 <| .p0 (v := aB true) (eB hb5) <| .mu 20 <| .done <| .n2 77 [(1, .hp 0 0), (33, aB true)] [.own (api_Flight.c v3.1)] <| .cT (by kernel_rfl) <| .seq <| .ru fine <| .ret ?_
  obtain rfl := oi hr
  exact FinQ.r1 [aB false]
 ·replace hr := cd_f hb5 hr
  rcases Bool.eq_false_or_eq_true (((v3.1.Strips.length : Int) : Int) != 2) with hb6 | hb6
  ·replace hr := cd_t hb6 hr
   refine .r0 fine <| .mu 1 <| .p0 (v := aB false) (eB hb5) <| .mu 4 <| .pure (v := aB true) (by kernel_rfl) (eB hb6) <| .mu 15 <| .done <| .n2 77 [(1, .hp 0 0), (33, aB true)] [.own (api_Flight.c v3.1)] <| .cT (by kernel_rfl) <| .seq <| .ru fine <| .ret ?_
   obtain rfl := oi hr
   exact FinQ.r1 [aB false]
  ·replace hr := cd_f hb6 hr
   obtain ⟨hg7, hr⟩ := gd hr
   obtain ⟨v8, hc9, hr⟩ := bd hr
   refine .gn fine (ca4 [.own (api_Flight.c v3.1), .own [aI64 20, aI64 18, aI64 36, aI64 18, aI64 52, aI64 18, aI64 68, aI64 18, aI64 80, aI64 18]] (callOk_val (args := [slT api_Pix.c (gt v3.1.Strips 1), .hs 1 0 5 2]) (l := [1]) rfl (SnL.cons (Sn.pure rfl) (SnL.cons (Sn.hs rfl (.inl rfl) (SnC.cons (Sn.pure rfl) (SnC.cons (Sn.pure rfl) (SnC.cons (Sn.pure rfl) (SnC.cons (Sn.pure rfl) (SnC.cons (Sn.pure rfl) (SnC.cons (Sn.pure rfl) (SnC.cons (Sn.pure rfl) (SnC.cons (Sn.pure rfl) (SnC.cons (Sn.pure rfl) (SnC.cons (Sn.pure rfl) SnC.nil)))))))))) (fun h => nomatch h)) SnL.nil)) (slices_Equal_fiducial_api_Pix_fiducial_api_Pix_ok n (gt v3.1.Strips 1) [api_Pix.mk 20 18, api_Pix.mk 36 18, api_Pix.mk 52 18, api_Pix.mk 68 18, api_Pix.mk 80 18] v8 hc9))) <| .mu 1 <| .p0 (v := aB false) (eB hb5) <| .mu 4 <| .pure (v := aB false) (by kernel_rfl) (eB hb6) <| .mu 4 <| .pure (v := .pp (v3.1.Strips.flatMap (slC api_Pix.c)) ((1 : Int).toNat * 1)) (by kernel_rfl) (tr (ofP_guard hg7)) <| .pure (v := slT api_Pix.c (gt v3.1.Strips 1)) (by kernel_rfl) (tr (ofP_some (flat_get (slC_len api_Pix.c) (inR_lt hg7) (by decide : 0 < 1) (by omega : (1 : Int).toNat * 1 = (1 : Int).toNat * 1 + 0) (by kernel_rfl)))) <| .mu 6 <| .ca cf0 <| .mu 2 <| .done <| .n2 77 [(1, .hp 0 0), (33, aB (!v8))] [.own (api_Flight.c v3.1), .own [aI64 20, aI64 18, aI64 36, aI64 18, aI64 52, aI64 18, aI64 68, aI64 18, aI64 80, aI64 18]] ?_
   refine .cd hr (fun hb11 hr => ?_) (fun hb11 hr => ?_)
   ·refine .seq <| .ru fine <| .ret ?_
    obtain rfl := oi hr
    exact FinQ.r1 [aB false]
   ·refine .skip <| .seq ?_
    obtain ⟨v12, hc13, v14, hc15, hr⟩ := bd2 hr
    refine .tn fine (ca1 (ok0 (fiduciallaw55_example_ok n v12 hc13)) (ca3 (ok0 (plan_Cover_ok n v12 v3.1 0 v14 hc15)))) <| .ca cf0 <| .mu 1 <| .ca (cfF cf0) <| .mu 8 ?_
    refine .done ⟨by kernel_rfl, ?_⟩
    refine .n2 77 [(1, .hp 0 0), (2, aI64 v14.2.2), (3, aI64 v14.1), (4, .hp 2 0)] [.own (api_Flight.c v3.1), .own [aI64 20, aI64 18, aI64 36, aI64 18, aI64 52, aI64 18, aI64 68, aI64 18, aI64 80, aI64 18], .own (api_Place.c v14.2.1)] <| .seq ?_
    obtain ⟨v16, hc17, v18, hc19, hr⟩ := bd2 hr
    refine .gn fine (ca1 (ok0 (fiduciallaw55_example_ok n v16 hc17)) (ca3 (ok0 (plan_Height_ok n v16 2 v18 hc19)))) <| .ca cf0 <| .ca (cfF cf0) <| .mu 5 <| .done <| .n2 77 [(1, .hp 0 0), (2, aI64 v14.2.2), (3, aI64 v14.1), (4, .hp 2 0), (5, aI64 v18.1), (6, aI64 v18.2)] [.own (api_Flight.c v3.1), .own [aI64 20, aI64 18, aI64 36, aI64 18, aI64 52, aI64 18, aI64 68, aI64 18, aI64 80, aI64 18], .own (api_Place.c v14.2.1)] <| .seq ?_
    rcases Bool.eq_false_or_eq_true ((v14.2.2 : Int) == 0) with hb20 | hb20
    ·replace hr := cd_t hb20 hr
     rcases Bool.eq_false_or_eq_true ((v18.2 : Int) == 0) with hb21 | hb21
     ·replace hr := cd_t hb21 hr
      rcases Bool.eq_false_or_eq_true ((v14.1 : Int) == 1) with hb22 | hb22
      ·replace hr := cd_t hb22 hr
       rcases Bool.eq_false_or_eq_true ((v18.1 : Int) == 2) with hb23 | hb23
       ·replace hr := cd_t hb23 hr
        obtain ⟨v24, hc25, hr⟩ := bd hr
        rcases Bool.eq_false_or_eq_true ((v24 : Int) == 0) with hb26 | hb26
        ·replace hr := cd_t hb26 hr
         obtain ⟨v27, hc28, hr⟩ := bd hr
         rcases Bool.eq_false_or_eq_true v27 with hb29 | hb29
         ·subst hb29
          replace hr := cd_t rfl hr
          obtain ⟨v30, hc31, v32, hc33, hr⟩ := bd2 hr
          refine .tn fine (ca1 (ok0 (fiducialref02_Sign_ok n v14.2.1.X v24 hc25)) (ca1 (ok0 (fiducialref02_Valid_ok n v14.2.1.X true hc28)) (ca1 (ok0 (fiduciallaw55_example_ok n v30 hc31)) (ca3 (ok0 (plan_Verify_ok n v30 v3.1 v32 hc33)))))) <| .mu 1 <| .pure (v := aB true) (by kernel_rfl) (eB hb20) (by kernel_rfl) <| .mu 2 <| .pure (v := aB true) (by kernel_rfl) (eB hb21) (by kernel_rfl) <| .mu 3 <| .pure (v := aB true) (by kernel_rfl) (eB hb22) (by kernel_rfl) <| .mu 3 <| .pure (v := aB true) (by kernel_rfl) (eB hb23) (by kernel_rfl) <| .mu 4 <| .ca cf0 <| .pure (v := aB true) (by kernel_rfl) (eB hb26) (by kernel_rfl) <| .mu 4 <| .ca (cfF cf0) <| .mu 2 <| .ca (cfF (cfF cf0)) <| .mu 1 <| .ca (cfF (cfF (cfF cf0))) <| .mu 3 ?_
          refine .done ⟨by kernel_rfl, ?_⟩
          refine .ret ?_
          obtain rfl := oi hr
          exact FinQ.r1 [aB ((v32 : Int) == 0)]
         ·subst hb29
          replace hr := cd_f rfl hr
          refine .tn fine (ca1 (ok0 (fiducialref02_Sign_ok n v14.2.1.X v24 hc25)) (ca3 (ok0 (fiducialref02_Valid_ok n v14.2.1.X false hc28)))) <| .mu 1 <| .pure (v := aB true) (by kernel_rfl) (eB hb20) (by kernel_rfl) <| .mu 2 <| .pure (v := aB true) (by kernel_rfl) (eB hb21) (by kernel_rfl) <| .mu 3 <| .pure (v := aB true) (by kernel_rfl) (eB hb22) (by kernel_rfl) <| .mu 3 <| .pure (v := aB true) (by kernel_rfl) (eB hb23) (by kernel_rfl) <| .mu 4 <| .ca cf0 <| .pure (v := aB true) (by kernel_rfl) (eB hb26) (by kernel_rfl) <| .mu 4 <| .ca (cfF cf0) <| .mu 8 ?_
          refine .done ⟨by kernel_rfl, ?_⟩
          refine .ret ?_
          obtain rfl := oi hr
          exact FinQ.r1 [aB false]
        ·replace hr := cd_f hb26 hr
         refine .t1 fine (ok0 (fiducialref02_Sign_ok n v14.2.1.X v24 hc25)) <| .mu 1 <| .pure (v := aB true) (by kernel_rfl) (eB hb20) (by kernel_rfl) <| .mu 2 <| .pure (v := aB true) (by kernel_rfl) (eB hb21) (by kernel_rfl) <| .mu 3 <| .pure (v := aB true) (by kernel_rfl) (eB hb22) (by kernel_rfl) <| .mu 3 <| .pure (v := aB true) (by kernel_rfl) (eB hb23) (by kernel_rfl) <| .mu 4 <| .ca cf0 <| .pure (v := aB false) (by kernel_rfl) (eB hb26) (by kernel_rfl) <| .mu 13 ?_
         refine .done ⟨by kernel_rfl, ?_⟩
         refine .ret ?_
         obtain rfl := oi hr
         exact FinQ.r1 [aB false]
       ·replace hr := cd_f hb23 hr
        refine .regionT fine callOf_nil <| .mu 1 <| .pure (v := aB true) (by kernel_rfl) (eB hb20) (by kernel_rfl) <| .mu 2 <| .pure (v := aB true) (by kernel_rfl) (eB hb21) (by kernel_rfl) <| .mu 3 <| .pure (v := aB true) (by kernel_rfl) (eB hb22) (by kernel_rfl) <| .mu 3 <| .pure (v := aB false) (by kernel_rfl) (eB hb23) (by kernel_rfl) <| .mu 19 ?_
        refine .done ⟨by kernel_rfl, ?_⟩
        refine .ret ?_
        obtain rfl := oi hr
        exact FinQ.r1 [aB false]
      ·replace hr := cd_f hb22 hr
       refine .regionT fine callOf_nil <| .mu 1 <| .pure (v := aB true) (by kernel_rfl) (eB hb20) (by kernel_rfl) <| .mu 2 <| .pure (v := aB true) (by kernel_rfl) (eB hb21) (by kernel_rfl) <| .mu 3 <| .pure (v := aB false) (by kernel_rfl) (eB hb22) (by kernel_rfl) <| .mu 23 ?_
       refine .done ⟨by kernel_rfl, ?_⟩
       refine .ret ?_
       obtain rfl := oi hr
       exact FinQ.r1 [aB false]
     ·replace hr := cd_f hb21 hr
      refine .regionT fine callOf_nil <| .mu 1 <| .pure (v := aB true) (by kernel_rfl) (eB hb20) (by kernel_rfl) <| .mu 2 <| .pure (v := aB false) (by kernel_rfl) (eB hb21) (by kernel_rfl) <| .mu 27 ?_
      refine .done ⟨by kernel_rfl, ?_⟩
      refine .ret ?_
      obtain rfl := oi hr
      exact FinQ.r1 [aB false]
    ·replace hr := cd_f hb20 hr
     refine .regionT fine callOf_nil <| .mu 1 <| .pure (v := aB false) (by kernel_rfl) (eB hb20) (by kernel_rfl) <| .mu 30 ?_
     refine .done ⟨by kernel_rfl, ?_⟩
     refine .ret ?_
     obtain rfl := oi hr
     exact FinQ.r1 [aB false]

theorem fiduciallaw55_positions_ok (n : Nat) (f : api_Flight) (r : List api_Pix) (hr : fiduciallaw55_positions n f = some r) : FnOk Tryz.prog 65 [.agg (api_Flight.c f)] (slT api_Pix.c r) := by
 unfold fiduciallaw55_positions at hr
 refine FnOk.bd fine Tryz.func65 [.tmp 2] ?_
 unfold Tryz.f65
 simp only [Option.getD_some]
 refine .seq <| .r2 fine 19 [(1, .hp 0 0)] [.own (api_Flight.c f)] <| .seq <| .r2 fine 19 [(1, .hp 0 0), (3, .hs 1 0 0 2)] [.own (api_Flight.c f), .own []] <| .seq <| .seq <| .r3 fine 19 [(3, .hs 1 0 0 2), (8, slT (slC api_Pix.c) f.Strips), (9, aI64 (f.Strips.length : Int)), (10, aI64 0)] <| .block ?_
 replace hr := bd hr; obtain ⟨l_7, hL14, hr⟩ := hr
 refine .loopO (σ := fun z0 => match z0 with | (l_1, x_2) => ⟨mkS 19 0 [(3, .hs 0 0 l_1.length 2), (8, slT (slC api_Pix.c) f.Strips), (9, aI64 (f.Strips.length : Int)), (10, aI64 x_2)], [.own (l_1.flatMap api_Pix.c)]⟩) (Q := fun x st' => x = .exit 0 ∧ Wk 0 st' ⟨mkS 19 0 [(3, .hs 0 0 l_7.length 2)], [.own (l_7.flatMap api_Pix.c)]⟩) hL14 ((Wk.gc [3, 8, 9, 10] [(1, false)] rfl (pKc trivial)).to (by kernel_rfl)) ?_ ?_
 ·clear hr
  rintro m ⟨l_1, x_2⟩ hr
  show CQ _ _ _ _ _ ⟨_, _⟩
  refine .seq <| .r3 fine 19 [(3, .hs 0 0 l_1.length 2), (8, slT (slC api_Pix.c) f.Strips), (9, aI64 (f.Strips.length : Int)), (10, aI64 x_2), (11, aB (decide (x_2 < (f.Strips.length : Int))))] <| .seq ?_
  refine .cd hr (fun hb9 hr => ?_) (fun hb9 hr => ?_)
  ·refine .skip <| .seq <| .block <| .seq ?_
   obtain ⟨hg10, hr⟩ := gd hr
   refine .r0 fine <| .p0 (v := .pp (f.Strips.flatMap (slC api_Pix.c)) (x_2.toNat * 1)) (tr (ofP_guard hg10)) <| .p0 (v := slT api_Pix.c (gt f.Strips x_2)) (tr (ofP_some (flat_get (slC_len api_Pix.c) (inR_lt hg10) (by decide : 0 < 1) (by omega : x_2.toNat * 1 = x_2.toNat * 1 + 0) (by kernel_rfl)))) <| .mu 1 <| .done <| .n2 19 [(3, .hs 0 0 l_1.length 2), (5, slT api_Pix.c (gt f.Strips x_2)), (8, slT (slC api_Pix.c) f.Strips), (9, aI64 (f.Strips.length : Int)), (10, aI64 x_2)] [.own (l_1.flatMap api_Pix.c)] ?_
   obtain ⟨hg11, hg12, hr⟩ := gd2 hr
   refine .r0 fine <| .mu 2 <| .e0 (v := .hs 1 0 (l_1 ++ (gt f.Strips x_2)).length 2) (ws := [(0, .dead), (1, .own ((l_1 ++ (gt f.Strips x_2)).flatMap api_Pix.c))]) (Eq.trans (b := appS (decide ((((gt f.Strips x_2).flatMap api_Pix.c)).length = (gt f.Strips x_2).length * 2)) ((gt f.Strips x_2).flatMap api_Pix.c) (gt f.Strips x_2).length (fun z1 z2 => guardO (decide (0 + l_1.length * 2 ≤ (l_1.flatMap api_Pix.c).length) && decide ((l_1.length + z2) * 16 ≤ 140737488355328) && decide (l_1.length + z2 ≤ 4611686018427387904)) (some (.eff (.hs 1 0 (l_1.length + z2) 2) [(0, .dead), (1, .own (((l_1.flatMap api_Pix.c).drop 0).take (l_1.length * 2) ++ z1))])))) (by kernel_rfl) (appS_t (flat_lenB api_Pix.len) rfl (app_own (l := l_1) (xs := (gt f.Strips x_2)) api_Pix.len rfl rfl rfl hg11 hg12))) <| .mu 1 <| .done <| .pop <| .ru fine ?_
   exact loopF_back (l_1 ++ (gt f.Strips x_2), wrapF .i64 (x_2 + 1)) hr ((Wk.gc [3, 8, 9, 10] [(1, false)] rfl (pKo api_Pix.c api_Pix.pure (l_1 ++ (gt f.Strips x_2)) trivial)).to (by kernel_rfl))
  ·refine .leave rfl ?_
   obtain rfl := oi hr
   exact ⟨rfl, ((Wk.gc [3] [(0, false)] rfl (pKo api_Pix.c api_Pix.pure l_1 trivial)).to (by kernel_rfl))⟩
 ·rintro x st' hq15
  clear hL14
  obtain ⟨rfl, hq15⟩ := hq15
  refine CQ_exit _ rfl <| .wk hq15 <| .seq <| .r3 fine 19 [(2, .hs 0 0 l_7.length 2)] <| .ret ?_
  obtain rfl := oi hr
  exact FinQ.ret (vs := [.hs 0 0 l_7.length 2]) (by kernel_rfl) (Sn.hs rfl (.inl rfl) (SnC.pure (ids_flat api_Pix.pure _)) (fun h => flat_nil0 h))

theorem fiduciallaw55_few_ok (n : Nat) (f : api_Flight) (most : Int) (r : Bool) (hr : fiduciallaw55_few n f most = some r) : FnOk Tryz.prog 26 [.agg (api_Flight.c f), aI64 most] (aB r) := by
 unfold fiduciallaw55_few at hr
 refine FnOk.bd fine Tryz.func26 [.tmp 4] ?_
 unfold Tryz.f26
 simp only [Option.getD_some]
 refine .seq <| .r2 fine 16 [(1, aI64 most), (2, .hp 0 0)] [.own (api_Flight.c f)] <| .seq ?_
 rcases Bool.eq_false_or_eq_true (decide ((f.Strips.length : Int) ≤ 20)) with hb1 | hb1
 ·replace hr := cd_t hb1 hr
  obtain ⟨v2, hc3, hr⟩ := bd hr
  refine .g1 fine (ok0 (fiduciallaw55_positions_ok n f v2 hc3)) <| .mu 3 <| .p0 (v := aB true) (eB hb1) <| .mu 2 <| .ca cf0 <| .mu 5 <| .done <| .ret ?_
  obtain rfl := oi hr
  exact FinQ.r1 [aB (decide ((v2.length : Int) ≤ most))]
 ·replace hr := cd_f hb1 hr
  refine .r0 fine <| .mu 3 <| .p0 (v := aB false) (eB hb1) <| .mu 8 <| .done <| .ret ?_
  obtain rfl := oi hr
  exact FinQ.r1 [aB false]

theorem fraction_Whole_ok (n : Nat) (n' : Int) (r : api_Rat) (hr : fraction_Whole n n' = some r) : FnOk Tryz.prog 77 [aI64 n'] (.agg (api_Rat.c r)) := by
 unfold fraction_Whole at hr
 refine FnOk.bd fine Tryz.func77 [.cell 2 40] ?_
 unfold Tryz.f77
 simp only [Option.getD_some]
 refine .seq <| .r2 fine 7 [(0, aI64 n'), (2, .hp 0 0)] [.own [aB false, nS, aB false, nS]] <| .seq ?_
 obtain ⟨v1, hc2, v3, hc4, hr⟩ := bd2 hr
 refine .gn fine (ca1 (ok0 (integer_Of_ok n n' v1 hc2)) (ca3 (ok0 (integer_Of_ok n 1 v3 hc4)))) <| .mu 1 <| .ca cf0 <| .ca (cfA (fun h => by rw [sv hc4 hc2 (integer_Of_cg n h)]) cf0) <| .mu 2 <| .done <| .n2 7 [(2, .hp 0 0)] [.own [aB v1.Negative, sU32 v1.Groups, aB v3.Negative, sU32 v3.Groups]] <| .ret ?_
 obtain rfl := oi hr
 exact FinQ.r1 [.agg [aB v1.Negative, sU32 v1.Groups, aB v3.Negative, sU32 v3.Groups]]

theorem cmp_Compare_int_ok (n : Nat) (x' : Int) (y : Int) (r : Int) (hr : cmp_Compare_int n x' y = some r) : FnOk Tryz.prog 99 [aI64 x', aI64 y] (aI64 r) := by
 unfold cmp_Compare_int at hr
 refine FnOk.bd fine Tryz.func99 [.tmp 4] ?_
 unfold Tryz.f99
 simp only [Option.getD_some]
 refine .seq <| .r3 fine 20 [(0, aI64 x'), (1, aI64 y)] <| .seq ?_
 obtain ⟨v1, hc2, hr⟩ := bd hr
 refine .g1 fine (ok0 (cmp_isNaN_int_ok n x' v1 hc2)) <| .mu 1 <| .ca cf0 <| .mu 1 <| .done <| .n2 20 [(0, aI64 x'), (1, aI64 y), (5, aB v1)] [] <| .seq ?_
 obtain ⟨v3, hc4, hr⟩ := bd hr
 refine .g1 fine (ok0 (cmp_isNaN_int_ok n y v3 hc4)) <| .mu 1 <| .ca cf0 <| .mu 1 <| .done <| .n2 20 [(0, aI64 x'), (1, aI64 y), (5, aB v1), (6, aB v3)] [] <| .seq <| .seq <| .r3 fine 20 [(0, aI64 x'), (1, aI64 y), (6, aB v3), (11, aB v1)] ?_
 refine .cd hr (fun hb5 hr => ?_) (fun hb5 hr => ?_)
 ·refine .seq <| .seq <| .r3 fine 20 [(12, aB v3)] ?_
  refine .cd hr (fun hb6 hr => ?_) (fun hb6 hr => ?_)
  ·refine .seq <| .ru fine <| .ret ?_
   obtain rfl := oi hr
   exact FinQ.r1 [aI64 0]
  ·refine .skip <| .seq <| .ru fine <| .ret ?_
   obtain rfl := oi hr
   exact FinQ.r1 [aI64 (-1)]
 ·refine .skip <| .seq <| .seq <| .r3 fine 20 [(0, aI64 x'), (1, aI64 y), (13, aB v3)] ?_
  refine .cd hr (fun hb7 hr => ?_) (fun hb7 hr => ?_)
  ·refine .seq <| .ru fine <| .ret ?_
   obtain rfl := oi hr
   exact FinQ.r1 [aI64 1]
  ·refine .skip <| .seq <| .seq <| .r3 fine 20 [(0, aI64 x'), (1, aI64 y), (16, aB (decide (x' < y)))] ?_
   refine .cd hr (fun hb8 hr => ?_) (fun hb8 hr => ?_)
   ·refine .seq <| .ru fine <| .ret ?_
    obtain rfl := oi hr
    exact FinQ.r1 [aI64 (-1)]
   ·refine .skip <| .seq <| .seq <| .r3 fine 20 [(19, aB (decide (x' > y)))] ?_
    refine .cd hr (fun hb9 hr => ?_) (fun hb9 hr => ?_)
    ·refine .seq <| .ru fine <| .ret ?_
     obtain rfl := oi hr
     exact FinQ.r1 [aI64 1]
    ·refine .skip <| .seq <| .ru fine <| .ret ?_
     obtain rfl := oi hr
     exact FinQ.r1 [aI64 0]

theorem integer_Compare_ok (n : Nat) (x' : api_Int) (y : api_Int) (r : Int) (hr : integer_Compare n x' y = some r) : FnOk Tryz.prog 166 [.agg (api_Int.c x'), .agg (api_Int.c y)] (aI64 r) := by
 unfold integer_Compare at hr
 refine FnOk.bd fine Tryz.func166 [.tmp 4] ?_
 unfold Tryz.f166
 simp only [Option.getD_some]
 refine .seq <| .r2 fine 28 [(2, .hp 0 0), (3, .hp 1 0)] [.own (api_Int.c x'), .own (api_Int.c y)] <| .seq <| .seq ?_
 obtain ⟨v1, hc2, v3, hc4, hr⟩ := bd2 hr
 refine .tn fine (ca1 (ok0 (integer_Sign_ok n x' v1 hc2)) (ca3 (ok0 (integer_Sign_ok n y v3 hc4)))) <| .mu 1 <| .ca cf0 <| .mu 1 <| .ca (cfA (fun h => by rw [sv hc4 hc2 (integer_Sign_cg n h)]) cf0) <| .mu 2 ?_
 refine .done ⟨by kernel_rfl, ?_⟩
 refine .n2 28 [(2, .hp 0 0), (3, .hp 1 0), (5, aI64 v1), (6, aI64 v3)] [.own (api_Int.c x'), .own (api_Int.c y)] <| .seq <| .r3 fine 28 [(2, .hp 0 0), (3, .hp 1 0), (5, aI64 v1), (6, aI64 v3), (14, aB ((v1 : Int) != v3))] ?_
 refine .cd hr (fun hb5 hr => ?_) (fun hb5 hr => ?_)
 ·refine .seq ?_
  obtain ⟨v6, hc7, hr⟩ := bd hr
  refine .g1 fine (ok0 (cmp_Compare_int_ok n v1 v3 v6 hc7)) <| .mu 2 <| .ca cf0 <| .mu 1 <| .done <| .ret ?_
  obtain rfl := oi hr
  exact FinQ.r1 [aI64 v6]
 ·refine .skip <| .seq ?_
  obtain ⟨v8, hc9, v10, hc11, v12, hc13, hr⟩ := bd3 hr
  refine .tn fine (ca1 (ok0 (integer_groups_ok n x' v8 hc9)) (ca1 (ok0 (integer_groups_ok n y v10 hc11)) (ca3 (ok0 (integer_compare_ok n v8 v10 v12 hc13))))) <| .mu 1 <| .ca cf0 <| .mu 1 <| .ca (cfA (fun h => by rw [sv hc11 hc9 (integer_groups_cg n h)]) cf0) <| .ca (cfF (cfF cf0)) <| .mu 1 ?_
  refine .done ⟨by kernel_rfl, ?_⟩
  refine .n2 28 [(2, .hp 0 0), (7, aI64 v12)] [.own (api_Int.c x'), .own (api_Int.c y)] <| .seq <| .seq <| .r3 fine 28 [(7, aI64 v12), (24, aB x'.Negative)] ?_
  refine .cd hr (fun hb14 hr => ?_) (fun hb14 hr => ?_)
  ·refine .seq <| .r0 fine <| .mu 1 <| .p0 (v := aI64 (wrapF .i64 (0 - v12))) (Eq.trans (b := some (.pure (aI64 (IntKind.wrap .i64 (0 - v12))))) (by kernel_rfl) wrap_at) <| .mu 1 <| .done <| .ret ?_
   obtain rfl := oi hr
   exact FinQ.r1 [aI64 (wrapF .i64 (0 - v12))]
  ·refine .skip <| .seq <| .ru fine <| .ret ?_
   obtain rfl := oi hr
   exact FinQ.r1 [aI64 v12]

theorem fraction_Valid_ok (n : Nat) (x' : api_Rat) (r : Bool) (hr : fraction_Valid n x' = some r) : FnOk Tryz.prog 144 [.agg (api_Rat.c x')] (aB r) := by
 unfold fraction_Valid at hr
 refine FnOk.bd fine Tryz.func144 [.tmp 2] ?_
 unfold Tryz.f144
 simp only [Option.getD_some]
 refine .seq <| .r2 fine 27 [(1, .hp 0 0)] [.own (api_Rat.c x')] <| .seq <| .seq ?_
 obtain ⟨v1, hc2, hr⟩ := bd hr
 rcases Bool.eq_false_or_eq_true (!v1) with hb3 | hb3
 ·replace hr := cd_t hb3 hr
  refine .g1 fine (ok0 (integer_Valid_ok n x'.Num v1 hc2)) <| .mu 2 <| .ca cf0 <| .p0 (v := aB true) (eB hb3) <| .mu 12 <| .done <| .n2 27 [(1, .hp 0 0), (18, aB true)] [.own (api_Rat.c x')] <| .cT (by kernel_rfl) <| .seq <| .ru fine <| .ret ?_
  obtain rfl := oi hr
  exact FinQ.r1 [aB false]
 ·replace hr := cd_f hb3 hr
  obtain ⟨v4, hc5, hr⟩ := bd hr
  rcases Bool.eq_false_or_eq_true (!v4) with hb6 | hb6
  ·replace hr := cd_t hb6 hr
   refine .gn fine (ca1 (ok0 (integer_Valid_ok n x'.Num v1 hc2)) (ca3 (ok0 (integer_Valid_ok n x'.Den v4 hc5)))) <| .mu 2 <| .ca cf0 <| .p0 (v := aB false) (eB hb3) <| .mu 3 <| .ca (cfA (fun h => by rw [sv hc5 hc2 (integer_Valid_cg n h)]) cf0) <| .pure (v := aB true) (by kernel_rfl) (eB hb6) <| .mu 7 <| .done <| .n2 27 [(1, .hp 0 0), (18, aB true)] [.own (api_Rat.c x')] <| .cT (by kernel_rfl) <| .seq <| .ru fine <| .ret ?_
   obtain rfl := oi hr
   exact FinQ.r1 [aB false]
  ·replace hr := cd_f hb6 hr
   obtain ⟨v7, hc8, hr⟩ := bd hr
   refine .gn fine (ca1 (ok0 (integer_Valid_ok n x'.Num v1 hc2)) (ca1 (ok0 (integer_Valid_ok n x'.Den v4 hc5)) (ca3 (ok0 (integer_Sign_ok n x'.Den v7 hc8))))) <| .mu 2 <| .ca cf0 <| .p0 (v := aB false) (eB hb3) <| .mu 3 <| .ca (cfA (fun h => by rw [sv hc5 hc2 (integer_Valid_cg n h)]) cf0) <| .pure (v := aB false) (by kernel_rfl) (eB hb6) <| .mu 4 <| .ca (cfF (cfF cf0)) <| .mu 2 <| .done <| .n2 27 [(1, .hp 0 0), (18, aB (decide (v7 ≤ 0)))] [.own (api_Rat.c x')] ?_
   refine .cd hr (fun hb9 hr => ?_) (fun hb9 hr => ?_)
   ·refine .seq <| .ru fine <| .ret ?_
    obtain rfl := oi hr
    exact FinQ.r1 [aB false]
   ·refine .skip <| .seq ?_
    obtain ⟨v10, hc11, v12, hc13, v14, hc15, hr⟩ := bd3 hr
    refine .gn fine (ca1 (ok0 (integer_Gcd_ok n x'.Num x'.Den v10 hc11)) (ca1 (ok0 (integer_Of_ok n 1 v12 hc13)) (ca3 (ok0 (integer_Compare_ok n v10 v12 v14 hc15))))) <| .mu 4 <| .ca cf0 <| .ca (cfF cf0) <| .ca (cfF (cfF cf0)) <| .mu 2 <| .done <| .ret ?_
    obtain rfl := oi hr
    exact FinQ.r1 [aB ((v14 : Int) == 0)]

theorem fraction_copied_ok (n : Nat) (x' : api_Rat) (r : api_Rat) (hr : fraction_copied n x' = some r) : FnOk Tryz.prog 145 [.agg (api_Rat.c x')] (.agg (api_Rat.c r)) := by
 unfold fraction_copied at hr
 refine FnOk.bd fine Tryz.func145 [.cell 2 40] ?_
 unfold Tryz.f145
 simp only [Option.getD_some]
 refine .seq <| .r2 fine 12 [(1, .hp 0 0), (2, .hp 1 0)] [.own (api_Rat.c x'), .own [aB false, nS, aB false, nS]] <| .seq ?_
 obtain ⟨v1, hc2, v3, hc4, v5, hc6, hr⟩ := bd3 hr
 obtain ⟨v7, hc8, hr⟩ := bd hr
 refine .tn fine (ca1 (ok0 (integer_Neg_ok n x'.Num v1 hc2)) (ca1 (ok0 (integer_Neg_ok n v1 v3 hc4)) (ca1 (ok0 (integer_Neg_ok n x'.Den v5 hc6)) (ca3 (ok0 (integer_Neg_ok n v5 v7 hc8)))))) <| .mu 2 <| .ca cf0 <| .ca (cfA (fun h => by rw [sv hc4 hc2 (integer_Neg_cg n h)]) cf0) <| .mu 2 <| .ca (cfA (fun h => by rw [sv hc6 hc2 (integer_Neg_cg n h)]) (cfA (fun h => by rw [sv hc6 hc4 (integer_Neg_cg n h)]) cf0)) <| .ca (cfA (fun h => by rw [sv hc8 hc2 (integer_Neg_cg n h)]) (cfA (fun h => by rw [sv hc8 hc4 (integer_Neg_cg n h)]) (cfA (fun h => by rw [sv hc8 hc6 (integer_Neg_cg n h)]) cf0))) <| .mu 2 ?_
 refine .done ⟨by kernel_rfl, ?_⟩
 refine .n2 12 [(2, .hp 1 0)] [.own (api_Rat.c x'), .own [aB v3.Negative, sU32 v3.Groups, aB v7.Negative, sU32 v7.Groups]] <| .ret ?_
 obtain rfl := oi hr
 exact FinQ.r1 [.agg [aB v3.Negative, sU32 v3.Groups, aB v7.Negative, sU32 v7.Groups]]

theorem fraction_Value_inj {x' : api_Rat} {x'_ : api_Rat} (h : ([.agg [.at (.bool x'.Num.Negative), slT (iC .u32) x'.Num.Groups, .at (.bool x'.Den.Negative), slT (iC .u32) x'.Den.Groups]] : List AV) = [.agg [.at (.bool x'_.Num.Negative), slT (iC .u32) x'_.Num.Groups, .at (.bool x'_.Den.Negative), slT (iC .u32) x'_.Den.Groups]]) : x' = x'_ := by
 obtain ⟨⟨_, _⟩, ⟨_, _⟩⟩ := x'
 obtain ⟨⟨_, _⟩, ⟨_, _⟩⟩ := x'_
 simp only [List.cons.injEq, AV.agg.injEq, AV.at.injEq, Value.int.injEq, Value.bool.injEq, AV.fn.injEq, AV.pp.injEq, true_and, and_true, slT_inj_int] at h
 simp_all
theorem fraction_Value_cg (n : Nat) {x' : api_Rat} {x'_ : api_Rat} (h : ([.agg [.at (.bool x'.Num.Negative), slT (iC .u32) x'.Num.Groups, .at (.bool x'.Den.Negative), slT (iC .u32) x'.Den.Groups]] : List AV) = [.agg [.at (.bool x'_.Num.Negative), slT (iC .u32) x'_.Num.Groups, .at (.bool x'_.Den.Negative), slT (iC .u32) x'_.Den.Groups]]) : fraction_Value n x' = fraction_Value n x'_ := by
 obtain rfl := fraction_Value_inj h
 rfl
theorem fraction_Value_ok (n : Nat) (x' : api_Rat) (r : api_Rat) (hr : fraction_Value n x' = some r) : FnOk Tryz.prog 123 [.agg (api_Rat.c x')] (.agg (api_Rat.c r)) := by
 unfold fraction_Value at hr
 refine FnOk.bd fine Tryz.func123 [.cell 2 40] ?_
 unfold Tryz.f123
 simp only [Option.getD_some]
 refine .seq <| .r2 fine 8 [(1, .hp 0 0), (2, .hp 1 0)] [.own (api_Rat.c x'), .own [aB false, nS, aB false, nS]] <| .seq <| .seq ?_
 obtain ⟨v1, hc2, hr⟩ := bd hr
 refine .g1 fine (ok0 (fraction_Valid_ok n x' v1 hc2)) <| .mu 1 <| .ca cf0 <| .done <| .n2 8 [(1, .hp 0 0), (2, .hp 1 0), (4, aB v1)] [.own (api_Rat.c x'), .own [aB false, nS, aB false, nS]] ?_
 refine .cd hr (fun hb3 hr => ?_) (fun hb3 hr => ?_)
 ·refine .seq ?_
  obtain ⟨v4, hc5, hr⟩ := bd hr
  refine .g1 fine (ok0 (fraction_copied_ok n x' v4 hc5)) <| .mu 1 <| .ca cf0 <| .mu 1 <| .done <| .n2 8 [(2, .hp 1 0)] [.own (api_Rat.c x'), .own (api_Rat.c v4)] <| .ret ?_
  obtain rfl := oi hr
  exact FinQ.r1 [.agg (api_Rat.c v4)]
 ·refine .skip <| .seq ?_
  obtain ⟨v6, hc7, hr⟩ := bd hr
  refine .g1 fine (ok0 (fraction_Whole_ok n 0 v6 hc7)) <| .ca cf0 <| .mu 1 <| .done <| .n2 8 [(2, .hp 1 0)] [.own (api_Rat.c x'), .own (api_Rat.c v6)] <| .ret ?_
  obtain rfl := oi hr
  exact FinQ.r1 [.agg (api_Rat.c v6)]

theorem fraction_Neg_ok (n : Nat) (x' : api_Rat) (r : api_Rat) (hr : fraction_Neg n x' = some r) : FnOk Tryz.prog 101 [.agg (api_Rat.c x')] (.agg (api_Rat.c r)) := by
 unfold fraction_Neg at hr
 refine FnOk.bd fine Tryz.func101 [.cell 2 40] ?_
 unfold Tryz.f101
 simp only [Option.getD_some]
 refine .seq <| .r2 fine 11 [(1, .hp 0 0), (2, .hp 1 0)] [.own (api_Rat.c x'), .own [aB false, nS, aB false, nS]] <| .seq ?_
 obtain ⟨v1, hc2, hr⟩ := bd hr
 refine .g1 fine (ok0 (fraction_Value_ok n x' v1 hc2)) <| .mu 1 <| .ca cf0 <| .mu 1 <| .done <| .n2 11 [(1, .hp 0 0), (2, .hp 1 0)] [.own (api_Rat.c v1), .own [aB false, nS, aB false, nS]] <| .seq ?_
 obtain ⟨v3, hc4, hr⟩ := bd hr
 refine .t1 fine (ok0 (integer_Neg_ok n v1.Num v3 hc4)) <| .mu 2 <| .ca cf0 <| .mu 4 ?_
 refine .done ⟨by kernel_rfl, ?_⟩
 refine .n2 11 [(2, .hp 1 0)] [.own (api_Rat.c v1), .own [aB v3.Negative, sU32 v3.Groups, aB v1.Den.Negative, sU32 v1.Den.Groups]] <| .ret ?_
 obtain rfl := oi hr
 exact FinQ.r1 [.agg [aB v3.Negative, sU32 v3.Groups, aB v1.Den.Negative, sU32 v1.Den.Groups]]

theorem integer_Mul_inj {x' : api_Int} {y : api_Int} {x'_ : api_Int} {y_ : api_Int} (h : ([.agg [.at (.bool x'.Negative), slT (iC .u32) x'.Groups], .agg [.at (.bool y.Negative), slT (iC .u32) y.Groups]] : List AV) = [.agg [.at (.bool x'_.Negative), slT (iC .u32) x'_.Groups], .agg [.at (.bool y_.Negative), slT (iC .u32) y_.Groups]]) : x' = x'_ ∧ y = y_ := by
 obtain ⟨_, _⟩ := x'
 obtain ⟨_, _⟩ := x'_
 obtain ⟨_, _⟩ := y
 obtain ⟨_, _⟩ := y_
 simp only [List.cons.injEq, AV.agg.injEq, AV.at.injEq, Value.int.injEq, Value.bool.injEq, AV.fn.injEq, AV.pp.injEq, true_and, and_true, slT_inj_int] at h
 simp_all
theorem integer_Mul_cg (n : Nat) {x' : api_Int} {y : api_Int} {x'_ : api_Int} {y_ : api_Int} (h : ([.agg [.at (.bool x'.Negative), slT (iC .u32) x'.Groups], .agg [.at (.bool y.Negative), slT (iC .u32) y.Groups]] : List AV) = [.agg [.at (.bool x'_.Negative), slT (iC .u32) x'_.Groups], .agg [.at (.bool y_.Negative), slT (iC .u32) y_.Groups]]) : integer_Mul n x' y = integer_Mul n x'_ y_ := by
 obtain ⟨rfl, rfl⟩ := integer_Mul_inj h
 rfl
theorem integer_Mul_ok (n : Nat) (x' : api_Int) (y : api_Int) (r : api_Int) (hr : integer_Mul n x' y = some r) : FnOk Tryz.prog 125 [.agg (api_Int.c x'), .agg (api_Int.c y)] (.agg (api_Int.c r)) := by
 unfold integer_Mul at hr
 refine FnOk.bd fine Tryz.func125 [.cell 4 38] ?_
 unfold Tryz.f125
 simp only [Option.getD_some]
 refine .seq <| .r2 fine 16 [(2, .hp 0 0), (3, .hp 1 0), (4, .hp 2 0)] [.own (api_Int.c x'), .own (api_Int.c y), .own [aB false, nS]] <| .seq ?_
 obtain ⟨v1, hc2, v3, hc4, v5, hc6, hr⟩ := bd3 hr
 obtain ⟨v7, hc8, hr⟩ := bd hr
 refine .tn fine (ca1 (ok0 (integer_groups_ok n x' v1 hc2)) (ca1 (ok0 (integer_groups_ok n y v3 hc4)) (ca1 (ok0 (integer_times_ok n v1 v3 v5 hc6)) (ca3 (ok0 (integer_made_ok n (x'.Negative != y.Negative) v5 v7 hc8)))))) <| .mu 6 <| .ca cf0 <| .mu 1 <| .ca (cfA (fun h => by rw [sv hc4 hc2 (integer_groups_cg n h)]) cf0) <| .ca (cfF (cfF cf0)) <| .ca (cfF (cfF (cfF cf0))) <| .mu 1 ?_
 refine .done ⟨by kernel_rfl, ?_⟩
 refine .n2 16 [(4, .hp 2 0)] [.own (api_Int.c x'), .own (api_Int.c y), .own (api_Int.c v7)] <| .ret ?_
 obtain rfl := oi hr
 exact FinQ.r1 [.agg (api_Int.c v7)]

theorem integer_sum_ok (n : Nat) (negative : Bool) (a : List Int) (other : Bool) (b : List Int) (r : api_Int) (hr : integer_sum n negative a other b = some r) : FnOk Tryz.prog 146 [aB negative, sU32 a, aB other, sU32 b] (.agg (api_Int.c r)) := by
 unfold integer_sum at hr
 refine FnOk.bd fine Tryz.func146 [.cell 8 38] ?_
 unfold Tryz.f146
 simp only [Option.getD_some]
 refine .seq <| .r2 fine 33 [(0, aB negative), (1, sU32 a), (2, aB other), (3, sU32 b), (8, .hp 0 0)] [.own [aB false, nS]] <| .seq <| .block <| .seq <| .r3 fine 33 [(0, aB negative), (1, sU32 a), (2, aB other), (3, sU32 b), (8, .hp 0 0), (9, aB (negative == other))] ?_
 refine .cd hr (fun hb1 hr => ?_) (fun hb1 hr => ?_)
 ·refine .seq ?_
  obtain ⟨v2, hc3, v4, hc5, hr⟩ := bd2 hr
  refine .gn fine (ca1 (ok0 (integer_plus_ok n a b v2 hc3)) (ca3 (ok0 (integer_made_ok n negative v2 v4 hc5)))) <| .mu 3 <| .ca cf0 <| .ca (cfF cf0) <| .mu 1 <| .done <| .n2 33 [(8, .hp 0 0)] [.own (api_Int.c v4)] <| .ret ?_
  obtain rfl := oi hr
  exact FinQ.r1 [.agg (api_Int.c v4)]
 ·refine .seq ?_
  obtain ⟨v6, hc7, hr⟩ := bd hr
  refine .g1 fine (ok0 (integer_compare_ok n a b v6 hc7)) <| .mu 2 <| .ca cf0 <| .mu 2 <| .done <| .n2 33 [(0, aB negative), (1, sU32 a), (2, aB other), (3, sU32 b), (8, .hp 0 0), (18, aB (decide (v6 ≥ 0)))] [.own [aB false, nS]] ?_
  refine .cd hr (fun hb8 hr => ?_) (fun hb8 hr => ?_)
  ·refine .seq ?_
   obtain ⟨v9, hc10, v11, hc12, hr⟩ := bd2 hr
   refine .gn fine (ca1 (ok0 (integer_minus_ok n a b v9 hc10)) (ca3 (ok0 (integer_made_ok n negative v9 v11 hc12)))) <| .mu 3 <| .ca cf0 <| .ca (cfF cf0) <| .mu 1 <| .done <| .n2 33 [(8, .hp 0 0)] [.own (api_Int.c v11)] <| .ret ?_
   obtain rfl := oi hr
   exact FinQ.r1 [.agg (api_Int.c v11)]
  ·refine .skip <| .pop <| .seq ?_
   obtain ⟨v13, hc14, v15, hc16, hr⟩ := bd2 hr
   refine .gn fine (ca1 (ok0 (integer_minus_ok n b a v13 hc14)) (ca3 (ok0 (integer_made_ok n other v13 v15 hc16)))) <| .mu 3 <| .ca cf0 <| .ca (cfF cf0) <| .mu 1 <| .done <| .n2 33 [(8, .hp 0 0)] [.own (api_Int.c v15)] <| .ret ?_
   obtain rfl := oi hr
   exact FinQ.r1 [.agg (api_Int.c v15)]

theorem integer_Add_ok (n : Nat) (x' : api_Int) (y : api_Int) (r : api_Int) (hr : integer_Add n x' y = some r) : FnOk Tryz.prog 124 [.agg (api_Int.c x'), .agg (api_Int.c y)] (.agg (api_Int.c r)) := by
 unfold integer_Add at hr
 refine FnOk.bd fine Tryz.func124 [.cell 4 38] ?_
 unfold Tryz.f124
 simp only [Option.getD_some]
 refine .seq <| .r2 fine 14 [(2, .hp 0 0), (3, .hp 1 0), (4, .hp 2 0)] [.own (api_Int.c x'), .own (api_Int.c y), .own [aB false, nS]] <| .seq ?_
 obtain ⟨v1, hc2, v3, hc4, v5, hc6, hr⟩ := bd3 hr
 refine .tn fine (ca1 (ok0 (integer_groups_ok n x' v1 hc2)) (ca1 (ok0 (integer_groups_ok n y v3 hc4)) (ca3 (ok0 (integer_sum_ok n x'.Negative v1 y.Negative v3 v5 hc6))))) <| .mu 3 <| .ca cf0 <| .mu 3 <| .ca (cfA (fun h => by rw [sv hc4 hc2 (integer_groups_cg n h)]) cf0) <| .ca (cfF (cfF cf0)) <| .mu 1 ?_
 refine .done ⟨by kernel_rfl, ?_⟩
 refine .n2 14 [(4, .hp 2 0)] [.own (api_Int.c x'), .own (api_Int.c y), .own (api_Int.c v5)] <| .ret ?_
 obtain rfl := oi hr
 exact FinQ.r1 [.agg (api_Int.c v5)]

theorem fraction_Add_ok (n : Nat) (x' : api_Rat) (y : api_Rat) (r : api_Rat) (hr : fraction_Add n x' y = some r) : FnOk Tryz.prog 100 [.agg (api_Rat.c x'), .agg (api_Rat.c y)] (.agg (api_Rat.c r)) := by
 unfold fraction_Add at hr
 refine FnOk.bd fine Tryz.func100 [.cell 4 40] ?_
 unfold Tryz.f100
 simp only [Option.getD_some]
 refine .seq <| .r2 fine 26 [(2, .hp 0 0), (3, .hp 1 0), (4, .hp 2 0)] [.own (api_Rat.c x'), .own (api_Rat.c y), .own [aB false, nS, aB false, nS]] <| .seq ?_
 obtain ⟨v1, hc2, v3, hc4, hr⟩ := bd2 hr
 refine .tn fine (ca1 (ok0 (fraction_Value_ok n x' v1 hc2)) (ca3 (ok0 (fraction_Value_ok n y v3 hc4)))) <| .mu 1 <| .ca cf0 <| .mu 1 <| .ca (cfA (fun h => by rw [sv hc4 hc2 (fraction_Value_cg n h)]) cf0) <| .mu 2 ?_
 refine .done ⟨by kernel_rfl, ?_⟩
 refine .n2 26 [(2, .hp 0 0), (3, .hp 1 0), (4, .hp 2 0)] [.own (api_Rat.c v1), .own (api_Rat.c v3), .own [aB false, nS, aB false, nS]] <| .seq ?_
 obtain ⟨v5, hc6, v7, hc8, v9, hc10, hr⟩ := bd3 hr
 obtain ⟨v11, hc12, v13, hc14, hr⟩ := bd2 hr
 refine .tn fine (ca1 (ok0 (integer_Mul_ok n v1.Num v3.Den v5 hc6)) (ca1 (ok0 (integer_Mul_ok n v3.Num v1.Den v7 hc8)) (ca1 (ok0 (integer_Add_ok n v5 v7 v9 hc10)) (ca1 (ok0 (integer_Mul_ok n v1.Den v3.Den v11 hc12)) (ca3 (ok0 (fraction_reduced_ok n v9 v11 v13 hc14))))))) <| .mu 4 <| .ca cf0 <| .mu 4 <| .ca (cfA (fun h => by rw [sv hc8 hc6 (integer_Mul_cg n h)]) cf0) <| .ca (cfF (cfF cf0)) <| .mu 4 <| .ca (cfA (fun h => by rw [sv hc12 hc6 (integer_Mul_cg n h)]) (cfA (fun h => by rw [sv hc12 hc8 (integer_Mul_cg n h)]) (cfF cf0))) <| .ca (cfF (cfF (cfF (cfF cf0)))) <| .mu 1 ?_
 refine .done ⟨by kernel_rfl, ?_⟩
 refine .n2 26 [(4, .hp 2 0)] [.own (api_Rat.c v1), .own (api_Rat.c v3), .own (api_Rat.c v13)] <| .ret ?_
 obtain rfl := oi hr
 exact FinQ.r1 [.agg (api_Rat.c v13)]

theorem fraction_Sub_ok (n : Nat) (x' : api_Rat) (y : api_Rat) (r : api_Rat) (hr : fraction_Sub n x' y = some r) : FnOk Tryz.prog 76 [.agg (api_Rat.c x'), .agg (api_Rat.c y)] (.agg (api_Rat.c r)) := by
 unfold fraction_Sub at hr
 refine FnOk.bd fine Tryz.func76 [.cell 4 40] ?_
 unfold Tryz.f76
 simp only [Option.getD_some]
 refine .seq <| .r2 fine 9 [(2, .hp 0 0), (3, .hp 1 0), (4, .hp 2 0)] [.own (api_Rat.c x'), .own (api_Rat.c y), .own [aB false, nS, aB false, nS]] <| .seq ?_
 obtain ⟨v1, hc2, v3, hc4, hr⟩ := bd2 hr
 refine .tn fine (ca1 (ok0 (fraction_Neg_ok n y v1 hc2)) (ca3 (ok0 (fraction_Add_ok n x' v1 v3 hc4)))) <| .mu 2 <| .ca cf0 <| .ca (cfF cf0) <| .mu 1 ?_
 refine .done ⟨by kernel_rfl, ?_⟩
 refine .n2 9 [(4, .hp 2 0)] [.own (api_Rat.c x'), .own (api_Rat.c y), .own (api_Rat.c v3)] <| .ret ?_
 obtain rfl := oi hr
 exact FinQ.r1 [.agg (api_Rat.c v3)]

theorem plan_Overlaps_1_inj {d : Int} {size : Int} {p : Int} {p' : Int} {p'' : Int} {p''' : Int} {p'''' : Int} {p''''' : Int} {p'''''' : Int} {p''''''' : Int} {p'''''''' : Int} {p''''''''' : Int} {p'''''''''' : Int} {p''''''''''' : List (List api_Pix)} {p'''''''''''' : Int} {d_ : Int} {size_ : Int} {p_ : Int} {p'_ : Int} {p''_ : Int} {p'''_ : Int} {p''''_ : Int} {p'''''_ : Int} {p''''''_ : Int} {p'''''''_ : Int} {p''''''''_ : Int} {p'''''''''_ : Int} {p''''''''''_ : Int} {p'''''''''''_ : List (List api_Pix)} {p''''''''''''_ : Int} (h : ([.at (.int .i64 d), .at (.int .i64 size), .pp [.at (.int .i64 p), .at (.int .i64 p'), .at (.int .i64 p''), .at (.int .i64 p'''), .at (.int .i64 p''''), .at (.int .i64 p'''''), .at (.int .i64 p''''''), .at (.int .i64 p'''''''), .at (.int .i64 p''''''''), .at (.int .i64 p''''''''')] 0, .pp [.at (.int .i64 p''''''''''), slT (slC api_Pix.c) p'''''''''''] 0, .pp [.at (.int .i64 p'''''''''''')] 0] : List AV) = [.at (.int .i64 d_), .at (.int .i64 size_), .pp [.at (.int .i64 p_), .at (.int .i64 p'_), .at (.int .i64 p''_), .at (.int .i64 p'''_), .at (.int .i64 p''''_), .at (.int .i64 p'''''_), .at (.int .i64 p''''''_), .at (.int .i64 p'''''''_), .at (.int .i64 p''''''''_), .at (.int .i64 p'''''''''_)] 0, .pp [.at (.int .i64 p''''''''''_), slT (slC api_Pix.c) p'''''''''''_] 0, .pp [.at (.int .i64 p''''''''''''_)] 0]) : d = d_ ∧ size = size_ ∧ p = p_ ∧ p' = p'_ ∧ p'' = p''_ ∧ p''' = p'''_ ∧ p'''' = p''''_ ∧ p''''' = p'''''_ ∧ p'''''' = p''''''_ ∧ p''''''' = p'''''''_ ∧ p'''''''' = p''''''''_ ∧ p''''''''' = p'''''''''_ ∧ p'''''''''' = p''''''''''_ ∧ p''''''''''' = p'''''''''''_ ∧ p'''''''''''' = p''''''''''''_ := by
 simp only [List.cons.injEq, AV.agg.injEq, AV.at.injEq, Value.int.injEq, Value.bool.injEq, AV.fn.injEq, AV.pp.injEq, true_and, and_true, (slT_inj (slC_len _) (by decide) (slC_inj api_Pix.len (by decide) api_Pix.inj))] at h
 simp_all
theorem plan_Overlaps_1_cg (n : Nat) {d : Int} {size : Int} {p : Int} {p' : Int} {p'' : Int} {p''' : Int} {p'''' : Int} {p''''' : Int} {p'''''' : Int} {p''''''' : Int} {p'''''''' : Int} {p''''''''' : Int} {p'''''''''' : Int} {p''''''''''' : List (List api_Pix)} {p'''''''''''' : Int} {d_ : Int} {size_ : Int} {p_ : Int} {p'_ : Int} {p''_ : Int} {p'''_ : Int} {p''''_ : Int} {p'''''_ : Int} {p''''''_ : Int} {p'''''''_ : Int} {p''''''''_ : Int} {p'''''''''_ : Int} {p''''''''''_ : Int} {p'''''''''''_ : List (List api_Pix)} {p''''''''''''_ : Int} (h : ([.at (.int .i64 d), .at (.int .i64 size), .pp [.at (.int .i64 p), .at (.int .i64 p'), .at (.int .i64 p''), .at (.int .i64 p'''), .at (.int .i64 p''''), .at (.int .i64 p'''''), .at (.int .i64 p''''''), .at (.int .i64 p'''''''), .at (.int .i64 p''''''''), .at (.int .i64 p''''''''')] 0, .pp [.at (.int .i64 p''''''''''), slT (slC api_Pix.c) p'''''''''''] 0, .pp [.at (.int .i64 p'''''''''''')] 0] : List AV) = [.at (.int .i64 d_), .at (.int .i64 size_), .pp [.at (.int .i64 p_), .at (.int .i64 p'_), .at (.int .i64 p''_), .at (.int .i64 p'''_), .at (.int .i64 p''''_), .at (.int .i64 p'''''_), .at (.int .i64 p''''''_), .at (.int .i64 p'''''''_), .at (.int .i64 p''''''''_), .at (.int .i64 p'''''''''_)] 0, .pp [.at (.int .i64 p''''''''''_), slT (slC api_Pix.c) p'''''''''''_] 0, .pp [.at (.int .i64 p''''''''''''_)] 0]) : plan_Overlaps_1 n d size p p' p'' p''' p'''' p''''' p'''''' p''''''' p'''''''' p''''''''' p'''''''''' p''''''''''' p'''''''''''' = plan_Overlaps_1 n d_ size_ p_ p'_ p''_ p'''_ p''''_ p'''''_ p''''''_ p'''''''_ p''''''''_ p'''''''''_ p''''''''''_ p'''''''''''_ p''''''''''''_ := by
 obtain ⟨rfl, rfl, rfl, rfl, rfl, rfl, rfl, rfl, rfl, rfl, rfl, rfl, rfl, rfl, rfl⟩ := plan_Overlaps_1_inj h
 rfl
theorem plan_Overlaps_1_ok (n : Nat) (d : Int) (size : Int) (p : Int) (p' : Int) (p'' : Int) (p''' : Int) (p'''' : Int) (p''''' : Int) (p'''''' : Int) (p''''''' : Int) (p'''''''' : Int) (p''''''''' : Int) (p'''''''''' : Int) (p''''''''''' : List (List api_Pix)) (p'''''''''''' : Int) (r : api_Rat) (hr : plan_Overlaps_1 n d size p p' p'' p''' p'''' p''''' p'''''' p''''''' p'''''''' p''''''''' p'''''''''' p''''''''''' p'''''''''''' = some r) : FnOk Tryz.prog 75 [aI64 d, aI64 size, .pp [aI64 p, aI64 p', aI64 p'', aI64 p''', aI64 p'''', aI64 p''''', aI64 p'''''', aI64 p''''''', aI64 p'''''''', aI64 p'''''''''] 0, .pp [aI64 p'''''''''', slT (slC api_Pix.c) p'''''''''''] 0, .pp [aI64 p''''''''''''] 0] (.agg (api_Rat.c r)) := by
 unfold plan_Overlaps_1 at hr
 refine FnOk.bd fine Tryz.func75 [.cell 7 40] ?_
 unfold Tryz.f75
 simp only [Option.getD_some]
 refine .seq <| .r2 fine 27 [(0, aI64 d), (1, aI64 size), (2, .pp [aI64 p, aI64 p', aI64 p'', aI64 p''', aI64 p'''', aI64 p''''', aI64 p'''''', aI64 p''''''', aI64 p'''''''', aI64 p'''''''''] 0), (3, .pp [aI64 p'''''''''', slT (slC api_Pix.c) p'''''''''''] 0), (4, .pp [aI64 p''''''''''''] 0), (7, .hp 0 0)] [.own [aB false, nS, aB false, nS]] <| .seq ?_
 obtain ⟨v1, hc2, hr⟩ := bd hr
 refine .g1 fine (ok0 (fraction_Of_ok n (wrapF .i64 (d * p'''''')) (wrapF .i64 (size * (wrapF .i64 (p'''''''''' - p'''''''''''')))) v1 hc2)) <| .mu 10 <| .ca cf0 <| .mu 6 <| .done <| .n2 27 [(7, .hp 0 0), (8, .hp 1 0)] [.own [aB false, nS, aB false, nS], .own (api_Rat.c v1.1)] <| .seq ?_
 obtain ⟨v3, hc4, v5, hc6, hr⟩ := bd2 hr
 refine .tn fine (ca1 (ok0 (fraction_Whole_ok n 1 v3 hc4)) (ca3 (ok0 (fraction_Sub_ok n v3 v1.1 v5 hc6)))) <| .ca cf0 <| .mu 1 <| .ca (cfF cf0) <| .mu 1 ?_
 refine .done ⟨by kernel_rfl, ?_⟩
 refine .n2 27 [(7, .hp 0 0)] [.own (api_Rat.c v5), .own (api_Rat.c v1.1)] <| .ret ?_
 obtain rfl := oi hr
 exact FinQ.r1 [.agg (api_Rat.c v5)]

theorem plan_Overlaps_ok (n : Nat) (s : api_Survey) (f : api_Flight) (ground : Int) (r : api_Rat × api_Rat × Int) (hr : plan_Overlaps n s f ground = some r) : FnOk Tryz.prog 38 [.agg (api_Survey.c s), .agg (api_Flight.c f), aI64 ground] (.tup [.agg (api_Rat.c r.1), .agg (api_Rat.c r.2.1), aI64 r.2.2]) := by
 unfold plan_Overlaps at hr
 refine FnOk.bd fine Tryz.func38 [.cell 6 40, .cell 7 40, .tmp 8] ?_
 unfold Tryz.f38
 simp only [Option.getD_some]
 refine .seq <| .r2 fine 91 [(3, .hp 0 0), (4, .hp 1 0), (5, .hp 2 0), (6, .hp 3 0), (7, .hp 4 0)] [.own (api_Survey.c s), .own (api_Flight.c f), .own [aI64 ground], .own [aB false, nS, aB false, nS], .own [aB false, nS, aB false, nS]] <| .seq <| .seq ?_
 obtain ⟨v1, hc2, hr⟩ := bd hr
 refine .g1 fine (ok0 (plan_asked_ok n s f ground false v1 hc2)) <| .mu 3 <| .ca cf0 <| .mu 1 <| .done <| .n2 91 [(3, .hp 0 0), (4, .hp 1 0), (5, .hp 2 0), (6, .hp 3 0), (7, .hp 4 0), (9, aI64 v1)] [.own (api_Survey.c s), .own (api_Flight.c f), .own [aI64 ground], .own [aB false, nS, aB false, nS], .own [aB false, nS, aB false, nS]] <| .seq <| .r3 fine 91 [(3, .hp 0 0), (4, .hp 1 0), (5, .hp 2 0), (6, .hp 3 0), (7, .hp 4 0), (9, aI64 v1), (23, aB ((v1 : Int) != 0))] ?_
 refine .cd hr (fun hb4 hr => ?_) (fun hb4 hr => ?_)
 ·refine .seq <| .r3 fine 91 [(6, .hp 3 0), (7, .hp 4 0), (8, aI64 v1)] <| .ret ?_
  obtain rfl := oi hr
  exact FinQ.ret (vs := [.agg [aB false, nS, aB false, nS], .agg [aB false, nS, aB false, nS], aI64 v1]) (by kernel_rfl) (Sn.tup (SnL.cons (Sn.agg (SnL.cons (Sn.pure rfl) (SnL.cons Sn.nilsl (SnL.cons (Sn.pure rfl) (SnL.cons Sn.nilsl SnL.nil))))) (SnL.cons (Sn.agg (SnL.cons (Sn.pure rfl) (SnL.cons Sn.nilsl (SnL.cons (Sn.pure rfl) (SnL.cons Sn.nilsl SnL.nil))))) (SnL.cons (Sn.pure rfl) SnL.nil))))
 ·refine .skip <| .seq <| .r3 fine 91 [(3, .hp 0 0), (4, .hp 1 0), (5, .hp 2 0), (6, .hp 3 0), (7, .hp 4 0), (10, aI64 0), (11, aI64 0)] <| .seq <| .seq <| .r3 fine 91 [(3, .hp 0 0), (4, .hp 1 0), (5, .hp 2 0), (6, .hp 3 0), (7, .hp 4 0), (10, aI64 0), (11, aI64 0), (28, slT (slC api_Pix.c) f.Strips), (29, aI64 (f.Strips.length : Int)), (30, aI64 0)] <| .block ?_
  replace hr := bd hr; obtain ⟨o168, hL169, hr⟩ := hr
  refine .loopO (σ := fun z0 => match z0 with | (along_88, across_89, x_90) => ⟨mkS 91 0 [(3, .hp 0 0), (4, .hp 1 0), (5, .hp 2 0), (6, .hp 3 0), (7, .hp 4 0), (10, aI64 along_88), (11, aI64 across_89), (28, slT (slC api_Pix.c) f.Strips), (29, aI64 (f.Strips.length : Int)), (30, aI64 x_90)], [.own (api_Survey.c s), .own (api_Flight.c f), .own [aI64 ground], .own [aB false, nS, aB false, nS], .own [aB false, nS, aB false, nS]]⟩) (Q := fun x st' => match (generalizing := false) o168 with | (along_128, across_129) => x = .exit 0 ∧ Wk 0 st' ⟨mkS 91 0 [(3, .hp 0 0), (4, .hp 1 0), (5, .hp 2 0), (6, .hp 3 0), (7, .hp 4 0), (10, aI64 along_128), (11, aI64 across_129)], [.own (api_Survey.c s), .own (api_Flight.c f), .own [aI64 ground], .own [aB false, nS, aB false, nS], .own [aB false, nS, aB false, nS]]⟩) hL169 ((Wk.gc [3, 4, 5, 6, 7, 10, 11, 28, 29, 30] [(0, true), (1, true), (2, true), (3, true), (4, true)] rfl trivial).to (by kernel_rfl)) ?_ ?_
  ·clear hr
   rintro m ⟨along_88, across_89, x_90⟩ hr
   show CQ _ _ _ _ _ ⟨_, _⟩
   refine .seq <| .r3 fine 91 [(3, .hp 0 0), (4, .hp 1 0), (5, .hp 2 0), (6, .hp 3 0), (7, .hp 4 0), (10, aI64 along_88), (11, aI64 across_89), (28, slT (slC api_Pix.c) f.Strips), (29, aI64 (f.Strips.length : Int)), (30, aI64 x_90), (31, aB (decide (x_90 < (f.Strips.length : Int))))] <| .seq ?_
   refine .cd hr (fun hb132 hr => ?_) (fun hb132 hr => ?_)
   ·refine .skip <| .seq <| .block <| .seq ?_
    obtain ⟨hg133, hr⟩ := gd hr
    refine .r0 fine <| .mu 1 <| .p0 (v := .pp (f.Strips.flatMap (slC api_Pix.c)) (x_90.toNat * 1)) (tr (ofP_guard hg133)) <| .p0 (v := slT api_Pix.c (gt f.Strips x_90)) (tr (ofP_some (flat_get (slC_len api_Pix.c) (inR_lt hg133) (by decide : 0 < 1) (by omega : x_90.toNat * 1 = x_90.toNat * 1 + 0) (by kernel_rfl)))) <| .mu 2 <| .done <| .n2 91 [(3, .hp 0 0), (4, .hp 1 0), (5, .hp 2 0), (6, .hp 3 0), (7, .hp 4 0), (10, aI64 along_88), (11, aI64 across_89), (12, aI64 x_90), (13, slT api_Pix.c (gt f.Strips x_90)), (28, slT (slC api_Pix.c) f.Strips), (29, aI64 (f.Strips.length : Int)), (30, aI64 x_90)] [.own (api_Survey.c s), .own (api_Flight.c f), .own [aI64 ground], .own [aB false, nS, aB false, nS], .own [aB false, nS, aB false, nS]] <| .seq <| .seq <| .r3 fine 91 [(3, .hp 0 0), (4, .hp 1 0), (5, .hp 2 0), (6, .hp 3 0), (7, .hp 4 0), (10, aI64 along_88), (11, aI64 across_89), (12, aI64 x_90), (13, slT api_Pix.c (gt f.Strips x_90)), (14, aI64 1), (28, slT (slC api_Pix.c) f.Strips), (29, aI64 (f.Strips.length : Int)), (30, aI64 x_90)] <| .block ?_
    replace hr := bd hr; obtain ⟨along_155, hL162, hr⟩ := hr
    refine .loopO (σ := fun z0 => match z0 with | (along_149, k_150) => ⟨mkS 91 0 [(3, .hp 0 0), (4, .hp 1 0), (5, .hp 2 0), (6, .hp 3 0), (7, .hp 4 0), (10, aI64 along_149), (11, aI64 across_89), (12, aI64 x_90), (13, slT api_Pix.c (gt f.Strips x_90)), (14, aI64 k_150), (28, slT (slC api_Pix.c) f.Strips), (29, aI64 (f.Strips.length : Int)), (30, aI64 x_90)], [.own (api_Survey.c s), .own (api_Flight.c f), .own [aI64 ground], .own [aB false, nS, aB false, nS], .own [aB false, nS, aB false, nS]]⟩) (Q := fun x st' => x = .exit 2 ∧ Wk 0 st' ⟨mkS 91 0 [(3, .hp 0 0), (4, .hp 1 0), (5, .hp 2 0), (6, .hp 3 0), (7, .hp 4 0), (10, aI64 along_155), (11, aI64 across_89), (12, aI64 x_90), (13, slT api_Pix.c (gt f.Strips x_90)), (28, slT (slC api_Pix.c) f.Strips), (29, aI64 (f.Strips.length : Int)), (30, aI64 x_90)], [.own (api_Survey.c s), .own (api_Flight.c f), .own [aI64 ground], .own [aB false, nS, aB false, nS], .own [aB false, nS, aB false, nS]]⟩) hL162 ((Wk.gc [3, 4, 5, 6, 7, 10, 11, 12, 13, 14, 28, 29, 30] [(0, true), (1, true), (2, true), (3, true), (4, true)] rfl trivial).to (by kernel_rfl)) ?_ ?_
    ·clear hr
     rintro m ⟨along_149, k_150⟩ hr
     show CQ _ _ _ _ _ ⟨_, _⟩
     refine .seq <| .seq <| .r3 fine 91 [(3, .hp 0 0), (4, .hp 1 0), (5, .hp 2 0), (6, .hp 3 0), (7, .hp 4 0), (10, aI64 along_149), (11, aI64 across_89), (12, aI64 x_90), (13, slT api_Pix.c (gt f.Strips x_90)), (14, aI64 k_150), (28, slT (slC api_Pix.c) f.Strips), (29, aI64 (f.Strips.length : Int)), (30, aI64 x_90), (38, aB (decide (k_150 < ((gt f.Strips x_90).length : Int))))] ?_
     refine .cd hr (fun hb158 hr => ?_) (fun hb158 hr => ?_)
     ·refine .skip <| .seq <| .block <| .seq ?_
      obtain ⟨hg159, hg160, hr⟩ := gd2 hr
      refine .regionT fine callOf_nil <| .mu 2 <| .pure (v := .pp ((gt f.Strips x_90).flatMap api_Pix.c) (k_150.toNat * 2)) (by kernel_rfl) (tr (ofP_guard hg159)) (by kernel_rfl) <| .mu 1 <| .pure (v := aI64 (gt (gt f.Strips x_90) k_150).X) (by kernel_rfl) (tr (ofP_some (flat_get api_Pix.len (inR_lt hg159) (by decide : 0 < 2) (by omega : k_150.toNat * 2 + 0 = k_150.toNat * 2 + 0) (by kernel_rfl)))) (by kernel_rfl) <| .mu 3 <| .pure (v := .pp ((gt f.Strips x_90).flatMap api_Pix.c) ((wrapF .i64 (k_150 - 1)).toNat * 2)) (by kernel_rfl) (tr (ofP_guard hg160)) (by kernel_rfl) <| .mu 1 <| .pure (v := aI64 (gt (gt f.Strips x_90) (wrapF .i64 (k_150 - 1))).X) (by kernel_rfl) (tr (ofP_some (flat_get api_Pix.len (inR_lt hg160) (by decide : 0 < 2) (by omega : (wrapF .i64 (k_150 - 1)).toNat * 2 + 0 = (wrapF .i64 (k_150 - 1)).toNat * 2 + 0) (by kernel_rfl)))) (by kernel_rfl) <| .mu 2 ?_
      refine .done ⟨by kernel_rfl, ?_⟩
      refine .n2 91 [(3, .hp 0 0), (4, .hp 1 0), (5, .hp 2 0), (6, .hp 3 0), (7, .hp 4 0), (10, aI64 along_149), (11, aI64 across_89), (12, aI64 x_90), (13, slT api_Pix.c (gt f.Strips x_90)), (14, aI64 k_150), (15, aI64 (wrapF .i64 ((gt (gt f.Strips x_90) k_150).X - (gt (gt f.Strips x_90) (wrapF .i64 (k_150 - 1))).X))), (28, slT (slC api_Pix.c) f.Strips), (29, aI64 (f.Strips.length : Int)), (30, aI64 x_90)] [.own (api_Survey.c s), .own (api_Flight.c f), .own [aI64 ground], .own [aB false, nS, aB false, nS], .own [aB false, nS, aB false, nS]] <| .r0 fine <| .mu 3 <| .p0 (v := aI64 (wrapF .i64 (0 - (wrapF .i64 ((gt (gt f.Strips x_90) k_150).X - (gt (gt f.Strips x_90) (wrapF .i64 (k_150 - 1))).X))))) (Eq.trans (b := some (.pure (aI64 (IntKind.wrap .i64 (0 - (wrapF .i64 ((gt (gt f.Strips x_90) k_150).X - (gt (gt f.Strips x_90) (wrapF .i64 (k_150 - 1))).X))))))) (by kernel_rfl) wrap_at) <| .mu 2 <| .done <| .pop <| .ru fine ?_
      exact loopF_back (mx (mx along_149 (wrapF .i64 ((gt (gt f.Strips x_90) k_150).X - (gt (gt f.Strips x_90) (wrapF .i64 (k_150 - 1))).X))) (wrapF .i64 (0 - (wrapF .i64 ((gt (gt f.Strips x_90) k_150).X - (gt (gt f.Strips x_90) (wrapF .i64 (k_150 - 1))).X)))), wrapF .i64 (k_150 + 1)) hr ((Wk.gc [3, 4, 5, 6, 7, 10, 11, 12, 13, 14, 28, 29, 30] [(0, true), (1, true), (2, true), (3, true), (4, true)] rfl trivial).to (by kernel_rfl))
     ·refine .leave rfl ?_
      obtain rfl := oi hr
      exact ⟨rfl, ((Wk.gc [3, 4, 5, 6, 7, 10, 11, 12, 13, 28, 29, 30] [(0, true), (1, true), (2, true), (3, true), (4, true)] rfl trivial).to (by kernel_rfl))⟩
    ·rintro x st' hq163
     clear hL162
     obtain ⟨rfl, hq163⟩ := hq163
     refine CQ_exit _ rfl <| .wk hq163 <| .seq <| .r3 fine 91 [(3, .hp 0 0), (4, .hp 1 0), (5, .hp 2 0), (6, .hp 3 0), (7, .hp 4 0), (10, aI64 along_155), (11, aI64 across_89), (12, aI64 x_90), (13, slT api_Pix.c (gt f.Strips x_90)), (28, slT (slC api_Pix.c) f.Strips), (29, aI64 (f.Strips.length : Int)), (30, aI64 x_90), (59, aB (decide (x_90 > 0)))] ?_
     refine .cd hr (fun hb164 hr => ?_) (fun hb164 hr => ?_)
     ·refine .seq ?_
      obtain ⟨hg165, hg166, hg167, hr⟩ := gd3 hr
      refine .regionT fine callOf_nil <| .mu 1 <| .pure (v := .pp ((gt f.Strips x_90).flatMap api_Pix.c) ((0 : Int).toNat * 2)) (by kernel_rfl) (tr (ofP_guard hg165)) (by kernel_rfl) <| .mu 1 <| .pure (v := aI64 (gt (gt f.Strips x_90) 0).Y) (by kernel_rfl) (tr (ofP_some (flat_get api_Pix.len (inR_lt hg165) (by decide : 1 < 2) (by omega : (0 : Int).toNat * 2 + 1 = (0 : Int).toNat * 2 + 1) (by kernel_rfl)))) (by kernel_rfl) <| .mu 4 <| .pure (v := .pp (f.Strips.flatMap (slC api_Pix.c)) ((wrapF .i64 (x_90 - 1)).toNat * 1)) (by kernel_rfl) (tr (ofP_guard hg166)) (by kernel_rfl) <| .pure (v := slT api_Pix.c (gt f.Strips (wrapF .i64 (x_90 - 1)))) (by kernel_rfl) (tr (ofP_some (flat_get (slC_len api_Pix.c) (inR_lt hg166) (by decide : 0 < 1) (by omega : (wrapF .i64 (x_90 - 1)).toNat * 1 = (wrapF .i64 (x_90 - 1)).toNat * 1 + 0) (by kernel_rfl)))) (by kernel_rfl) <| .pure (v := .pp ((gt f.Strips (wrapF .i64 (x_90 - 1))).flatMap api_Pix.c) ((0 : Int).toNat * 2)) (by kernel_rfl) (tr (ofP_guard hg167)) (by kernel_rfl) <| .mu 1 <| .pure (v := aI64 (gt (gt f.Strips (wrapF .i64 (x_90 - 1))) 0).Y) (by kernel_rfl) (tr (ofP_some (flat_get api_Pix.len (inR_lt hg167) (by decide : 1 < 2) (by omega : (0 : Int).toNat * 2 + 1 = (0 : Int).toNat * 2 + 1) (by kernel_rfl)))) (by kernel_rfl) <| .mu 2 ?_
      refine .done ⟨by kernel_rfl, ?_⟩
      refine .n2 91 [(3, .hp 0 0), (4, .hp 1 0), (5, .hp 2 0), (6, .hp 3 0), (7, .hp 4 0), (10, aI64 along_155), (11, aI64 across_89), (16, aI64 (wrapF .i64 ((gt (gt f.Strips x_90) 0).Y - (gt (gt f.Strips (wrapF .i64 (x_90 - 1))) 0).Y))), (28, slT (slC api_Pix.c) f.Strips), (29, aI64 (f.Strips.length : Int)), (30, aI64 x_90)] [.own (api_Survey.c s), .own (api_Flight.c f), .own [aI64 ground], .own [aB false, nS, aB false, nS], .own [aB false, nS, aB false, nS]] <| .r0 fine <| .mu 3 <| .p0 (v := aI64 (wrapF .i64 (0 - (wrapF .i64 ((gt (gt f.Strips x_90) 0).Y - (gt (gt f.Strips (wrapF .i64 (x_90 - 1))) 0).Y))))) (Eq.trans (b := some (.pure (aI64 (IntKind.wrap .i64 (0 - (wrapF .i64 ((gt (gt f.Strips x_90) 0).Y - (gt (gt f.Strips (wrapF .i64 (x_90 - 1))) 0).Y))))))) (by kernel_rfl) wrap_at) <| .mu 2 <| .done <| .pop <| .ru fine ?_
      exact loopF_back (along_155, mx (mx across_89 (wrapF .i64 ((gt (gt f.Strips x_90) 0).Y - (gt (gt f.Strips (wrapF .i64 (x_90 - 1))) 0).Y))) (wrapF .i64 (0 - (wrapF .i64 ((gt (gt f.Strips x_90) 0).Y - (gt (gt f.Strips (wrapF .i64 (x_90 - 1))) 0).Y)))), wrapF .i64 (x_90 + 1)) hr ((Wk.gc [3, 4, 5, 6, 7, 10, 11, 28, 29, 30] [(0, true), (1, true), (2, true), (3, true), (4, true)] rfl trivial).to (by kernel_rfl))
     ·refine .skip <| .pop <| .ru fine ?_
      exact loopF_back (along_155, across_89, wrapF .i64 (x_90 + 1)) hr ((Wk.gc [3, 4, 5, 6, 7, 10, 11, 28, 29, 30] [(0, true), (1, true), (2, true), (3, true), (4, true)] rfl trivial).to (by kernel_rfl))
   ·refine .leave rfl ?_
    obtain rfl := oi hr
    exact ⟨rfl, ((Wk.gc [3, 4, 5, 6, 7, 10, 11] [(0, true), (1, true), (2, true), (3, true), (4, true)] rfl trivial).to (by kernel_rfl))⟩
  ·rcases o168 with ⟨along_128, across_129⟩
   rintro x st' hq170
   clear hL169
   obtain ⟨rfl, hq170⟩ := hq170
   refine CQ_exit _ rfl <| .wk hq170 <| .seq <| .r3 fine 91 [(3, .hp 0 0), (6, .hp 3 0), (7, .hp 4 0), (10, aI64 along_128), (11, aI64 across_129), (17, .fn 75 [] [.hp 0 0, .hp 1 0, .hp 2 0])] <| .seq <| .wk (((Wk.fix 0 (cs := (api_Survey.c s)) (by kernel_rfl)).trans ((Wk.fix 1 (cs := (api_Flight.c f)) (by kernel_rfl)).trans (Wk.fix 2 (cs := [aI64 ground]) (by kernel_rfl)))).to (c := ⟨mkS 91 0 [(3, .hp 0 0), (6, .hp 3 0), (7, .hp 4 0), (10, aI64 along_128), (11, aI64 across_129), (17, .fn 75 [] [.hp 0 0, .hp 1 0, .hp 2 0])], [.fix (api_Survey.c s), .fix (api_Flight.c f), .fix [aI64 ground], .own [aB false, nS, aB false, nS], .own [aB false, nS, aB false, nS]]⟩) (by kernel_rfl)) ?_
   obtain ⟨v171, hc172, v173, hc174, hr⟩ := bd2 hr
   refine .tn fine (ca1 (callOk_ref (args := [aI64 along_128, aI64 s.Along, .hp 0 0, .hp 1 0, .hp 2 0]) (l := [0, 1, 2]) (SnL.cons (Sn.pure rfl) (SnL.cons (Sn.pure rfl) (SnL.cons (Sn.hp rfl (.inr rfl) (SnC.cons (Sn.pure rfl) (SnC.cons (Sn.pure rfl) (SnC.cons (Sn.pure rfl) (SnC.cons (Sn.pure rfl) (SnC.cons (Sn.pure rfl) (SnC.cons (Sn.pure rfl) (SnC.cons (Sn.pure rfl) (SnC.cons (Sn.pure rfl) (SnC.cons (Sn.pure rfl) (SnC.cons (Sn.pure rfl) SnC.nil))))))))))) (SnL.cons (Sn.hp rfl (.inr rfl) (SnC.cons (Sn.pure rfl) (SnC.cons (Sn.pure rfl) SnC.nil))) (SnL.cons (Sn.hp rfl (.inr rfl) (SnC.cons (Sn.pure rfl) SnC.nil)) SnL.nil))))) (plan_Overlaps_1_ok n along_128 s.Along s.Width s.Height s.Low s.High s.Across s.Along s.Focal s.Overlap s.Sidelap s.Views f.Height f.Strips ground v171 hc172)) (ca3 (callOk_ref (args := [aI64 across_129, aI64 s.Across, .hp 0 0, .hp 1 0, .hp 2 0]) (l := [0, 1, 2]) (SnL.cons (Sn.pure rfl) (SnL.cons (Sn.pure rfl) (SnL.cons (Sn.hp rfl (.inr rfl) (SnC.cons (Sn.pure rfl) (SnC.cons (Sn.pure rfl) (SnC.cons (Sn.pure rfl) (SnC.cons (Sn.pure rfl) (SnC.cons (Sn.pure rfl) (SnC.cons (Sn.pure rfl) (SnC.cons (Sn.pure rfl) (SnC.cons (Sn.pure rfl) (SnC.cons (Sn.pure rfl) (SnC.cons (Sn.pure rfl) SnC.nil))))))))))) (SnL.cons (Sn.hp rfl (.inr rfl) (SnC.cons (Sn.pure rfl) (SnC.cons (Sn.pure rfl) SnC.nil))) (SnL.cons (Sn.hp rfl (.inr rfl) (SnC.cons (Sn.pure rfl) SnC.nil)) SnL.nil))))) (plan_Overlaps_1_ok n across_129 s.Across s.Width s.Height s.Low s.High s.Across s.Along s.Focal s.Overlap s.Sidelap s.Views f.Height f.Strips ground v173 hc174)))) <| .mu 4 <| .ca cf0 <| .mu 4 <| .ca (cfA (fun h => by rw [sv hc174 hc172 (plan_Overlaps_1_cg n (show ([aI64 across_129, aI64 s.Across, .pp (api_Survey.c s) 0, .pp (api_Flight.c f) 0, .pp [aI64 ground] 0] : List AV) = [aI64 along_128, aI64 s.Along, .pp (api_Survey.c s) 0, .pp (api_Flight.c f) 0, .pp [aI64 ground] 0] from (congr (congrArg List.cons (List.cons.inj h).1) (congr (congrArg List.cons (List.cons.inj (List.cons.inj h).2).1) (congr (congrArg List.cons rfl) (congr (congrArg List.cons rfl) (congr (congrArg List.cons rfl) rfl)))))))]) cf0) <| .mu 3 ?_
   refine .done ⟨by kernel_rfl, ?_⟩
   refine .n2 91 [(6, .hp 3 0), (7, .hp 4 0), (8, aI64 0)] [.fix (api_Survey.c s), .fix (api_Flight.c f), .fix [aI64 ground], .own (api_Rat.c v171), .own (api_Rat.c v173)] <| .ret ?_
   obtain rfl := oi hr
   exact FinQ.ret (vs := [.agg (api_Rat.c v171), .agg (api_Rat.c v173), aI64 0]) (by kernel_rfl) (Sn.tup (SnL.cons (Sn.pure rfl) (SnL.cons (Sn.pure rfl) (SnL.cons (Sn.pure rfl) SnL.nil))))

theorem fiduciallaw55_out_ok (n : Nat) (l : List Int) (r : Bool) (hr : fiduciallaw55_out n l = some r) : FnOk Tryz.prog 19 [sI64 l] (aB r) := by
 unfold fiduciallaw55_out at hr
 refine FnOk.bd fine Tryz.func19 [.tmp 2] ?_
 unfold Tryz.f19
 simp only [Option.getD_some]
 refine .seq <| .r3 fine 18 [(0, sI64 l)] <| .seq <| .seq <| .r3 fine 18 [(5, sI64 l), (6, aI64 (l.length : Int)), (7, aI64 0)] <| .block ?_
 replace hr := bd hr; obtain ⟨o13, hL14, hr⟩ := hr
 refine .loopO (σ := fun z0 => match z0 with | x_1 => ⟨mkS 18 0 [(5, sI64 l), (6, aI64 (l.length : Int)), (7, aI64 x_1)], []⟩) (Q := fun x st' => match (generalizing := false) o13 with | .inl _ => x = .exit 0 ∧ Wk 0 st' ⟨mkS 18 0 [], []⟩ | .inr (r0) => x = .ret ∧ FinQ Tryz.prog [.tmp 2] (aB r0) .ret st') hL14 ((Wk.gc [5, 6, 7] [] rfl pK0).to (by kernel_rfl)) ?_ ?_
 ·clear hr
  rintro m x_1 hr
  show CQ _ _ _ _ _ ⟨_, _⟩
  refine .seq <| .r3 fine 18 [(5, sI64 l), (6, aI64 (l.length : Int)), (7, aI64 x_1), (8, aB (decide (x_1 < (l.length : Int))))] <| .seq ?_
  refine .cd hr (fun hb9 hr => ?_) (fun hb9 hr => ?_)
  ·refine .skip <| .seq <| .block <| .seq ?_
   obtain ⟨hg10, hr⟩ := gd hr
   refine .r0 fine <| .p0 (v := .pp (l.flatMap (iC .i64)) (x_1.toNat * 1)) (tr (ofP_guard hg10)) <| .p0 (v := aI64 (gt l x_1)) (tr (ofP_some (flat_get (iC_len .i64) (inR_lt hg10) (by decide : 0 < 1) (by omega : x_1.toNat * 1 = x_1.toNat * 1 + 0) (by kernel_rfl)))) <| .mu 1 <| .done <| .n2 18 [(4, aI64 (gt l x_1)), (5, sI64 l), (6, aI64 (l.length : Int)), (7, aI64 x_1)] [] <| .seq ?_
   rcases Bool.eq_false_or_eq_true (decide ((gt l x_1) < (-1048576))) with hb11 | hb11
   ·replace hr := cd_t hb11 hr
    refine .r0 fine <| .mu 1 <| .p0 (v := aB true) (eB hb11) <| .mu 4 <| .done <| .n2 18 [(5, sI64 l), (6, aI64 (l.length : Int)), (7, aI64 x_1), (16, aB true)] [] <| .cT (by kernel_rfl) <| .seq <| .ru fine <| .ret ?_
    obtain rfl := oi hr
    exact ⟨rfl, FinQ.ret (vs := [aB true]) (by kernel_rfl) (Sn.pure rfl)⟩
   ·replace hr := cd_f hb11 hr
    refine .r0 fine <| .mu 1 <| .p0 (v := aB false) (eB hb11) <| .mu 4 <| .done <| .n2 18 [(5, sI64 l), (6, aI64 (l.length : Int)), (7, aI64 x_1), (16, aB (decide ((gt l x_1) > 1048576)))] [] ?_
    refine .cd hr (fun hb12 hr => ?_) (fun hb12 hr => ?_)
    ·refine .seq <| .ru fine <| .ret ?_
     obtain rfl := oi hr
     exact ⟨rfl, FinQ.ret (vs := [aB true]) (by kernel_rfl) (Sn.pure rfl)⟩
    ·refine .skip <| .pop <| .ru fine ?_
     exact loopF_back (wrapF .i64 (x_1 + 1)) hr ((Wk.gc [5, 6, 7] [] rfl pK0).to (by kernel_rfl))
  ·refine .leave rfl ?_
   obtain rfl := oi hr
   exact ⟨rfl, ((Wk.gc [] [] rfl pK0).to (by kernel_rfl))⟩
 ·rcases o13 with ⟨⟩ | r0
  ·rintro x st' hq15
   clear hL14
   obtain ⟨rfl, hq15⟩ := hq15
   refine CQ_exit _ rfl <| .wk hq15 <| .seq <| .ru fine <| .ret ?_
   obtain rfl := oi hr
   exact FinQ.r1 [aB false]
  ·rintro x st' hq15
   clear hL14
   obtain ⟨rfl, hq15⟩ := hq15
   obtain rfl := oi hr
   exact CQ_ret _ hq15

theorem fiduciallaw55_check_ok (n : Nat) (s : api_Survey) (r : Int) (hr : fiduciallaw55_check n s = some r) : FnOk Tryz.prog 15 [.agg (api_Survey.c s)] (aI64 r) := by
 unfold fiduciallaw55_check at hr
 refine FnOk.bd fine Tryz.func15 [.tmp 2] ?_
 unfold Tryz.f15
 simp only [Option.getD_some]
 refine .seq <| .r2 fine 80 [(1, .hp 0 0)] [.own (api_Survey.c s)] <| .seq <| .seq ?_
 rcases Bool.eq_false_or_eq_true (decide (s.Width < 1)) with hb1 | hb1
 ·replace hr := cd_t hb1 hr
  refine .r0 fine <| .mu 2 <| .p0 (v := aB true) (eB hb1) <| .mu 41 <| .done <| .n2 80 [(1, .hp 0 0), (46, aB true)] [.own (api_Survey.c s)] <| .cT (by kernel_rfl) <| .seq <| .ru fine <| .ret ?_
  obtain rfl := oi hr
  exact FinQ.r1 [aI64 2]
 ·replace hr := cd_f hb1 hr
  rcases Bool.eq_false_or_eq_true (decide (s.Height < 1)) with hb2 | hb2
  ·replace hr := cd_t hb2 hr
   refine .r0 fine <| .mu 2 <| .p0 (v := aB false) (eB hb1) <| .mu 3 <| .pure (v := aB true) (by kernel_rfl) (eB hb2) <| .mu 37 <| .done <| .n2 80 [(1, .hp 0 0), (46, aB true)] [.own (api_Survey.c s)] <| .cT (by kernel_rfl) <| .seq <| .ru fine <| .ret ?_
   obtain rfl := oi hr
   exact FinQ.r1 [aI64 2]
  ·replace hr := cd_f hb2 hr
   obtain ⟨v3, hc4, hr⟩ := bd hr
   rcases Bool.eq_false_or_eq_true v3 with hb5 | hb5
   ·subst hb5
    replace hr := cd_t rfl hr
    refine .gn fine (ca4 [.own (api_Survey.c s), .own [aI64 s.Width, aI64 s.Height, aI64 s.Low, aI64 s.High, aI64 s.Across, aI64 s.Along]] (callOk_val (args := [.hs 1 0 6 1]) (l := [1]) rfl (SnL.cons (Sn.hs rfl (.inl rfl) (SnC.cons (Sn.pure rfl) (SnC.cons (Sn.pure rfl) (SnC.cons (Sn.pure rfl) (SnC.cons (Sn.pure rfl) (SnC.cons (Sn.pure rfl) (SnC.cons (Sn.pure rfl) SnC.nil)))))) (fun h => nomatch h)) SnL.nil) (fiduciallaw55_out_ok n [s.Width, s.Height, s.Low, s.High, s.Across, s.Along] true hc4))) <| .mu 2 <| .p0 (v := aB false) (eB hb1) <| .mu 3 <| .pure (v := aB false) (by kernel_rfl) (eB hb2) <| .mu 15 <| .ca cf0 <| .mu 21 <| .done <| .n2 80 [(1, .hp 0 0), (46, aB true)] [.own (api_Survey.c s), .own [aI64 s.Width, aI64 s.Height, aI64 s.Low, aI64 s.High, aI64 s.Across, aI64 s.Along]] <| .cT (by kernel_rfl) <| .seq <| .ru fine <| .ret ?_
    obtain rfl := oi hr
    exact FinQ.r1 [aI64 2]
   ·subst hb5
    replace hr := cd_f rfl hr
    rcases Bool.eq_false_or_eq_true (decide (s.Across < 1)) with hb6 | hb6
    ·replace hr := cd_t hb6 hr
     refine .gn fine (ca4 [.own (api_Survey.c s), .own [aI64 s.Width, aI64 s.Height, aI64 s.Low, aI64 s.High, aI64 s.Across, aI64 s.Along]] (callOk_val (args := [.hs 1 0 6 1]) (l := [1]) rfl (SnL.cons (Sn.hs rfl (.inl rfl) (SnC.cons (Sn.pure rfl) (SnC.cons (Sn.pure rfl) (SnC.cons (Sn.pure rfl) (SnC.cons (Sn.pure rfl) (SnC.cons (Sn.pure rfl) (SnC.cons (Sn.pure rfl) SnC.nil)))))) (fun h => nomatch h)) SnL.nil) (fiduciallaw55_out_ok n [s.Width, s.Height, s.Low, s.High, s.Across, s.Along] false hc4))) <| .mu 2 <| .p0 (v := aB false) (eB hb1) <| .mu 3 <| .pure (v := aB false) (by kernel_rfl) (eB hb2) <| .mu 15 <| .ca cf0 <| .mu 4 <| .pure (v := aB true) (by kernel_rfl) (eB hb6) <| .mu 16 <| .done <| .n2 80 [(1, .hp 0 0), (46, aB true)] [.own (api_Survey.c s), .own [aI64 s.Width, aI64 s.Height, aI64 s.Low, aI64 s.High, aI64 s.Across, aI64 s.Along]] <| .cT (by kernel_rfl) <| .seq <| .ru fine <| .ret ?_
     obtain rfl := oi hr
     exact FinQ.r1 [aI64 2]
    ·replace hr := cd_f hb6 hr
     rcases Bool.eq_false_or_eq_true (decide (s.Along < 1)) with hb7 | hb7
     ·replace hr := cd_t hb7 hr
      refine .gn fine (ca4 [.own (api_Survey.c s), .own [aI64 s.Width, aI64 s.Height, aI64 s.Low, aI64 s.High, aI64 s.Across, aI64 s.Along]] (callOk_val (args := [.hs 1 0 6 1]) (l := [1]) rfl (SnL.cons (Sn.hs rfl (.inl rfl) (SnC.cons (Sn.pure rfl) (SnC.cons (Sn.pure rfl) (SnC.cons (Sn.pure rfl) (SnC.cons (Sn.pure rfl) (SnC.cons (Sn.pure rfl) (SnC.cons (Sn.pure rfl) SnC.nil)))))) (fun h => nomatch h)) SnL.nil) (fiduciallaw55_out_ok n [s.Width, s.Height, s.Low, s.High, s.Across, s.Along] false hc4))) <| .mu 2 <| .p0 (v := aB false) (eB hb1) <| .mu 3 <| .pure (v := aB false) (by kernel_rfl) (eB hb2) <| .mu 15 <| .ca cf0 <| .mu 4 <| .pure (v := aB false) (by kernel_rfl) (eB hb6) <| .mu 4 <| .pure (v := aB true) (by kernel_rfl) (eB hb7) <| .mu 11 <| .done <| .n2 80 [(1, .hp 0 0), (46, aB true)] [.own (api_Survey.c s), .own [aI64 s.Width, aI64 s.Height, aI64 s.Low, aI64 s.High, aI64 s.Across, aI64 s.Along]] <| .cT (by kernel_rfl) <| .seq <| .ru fine <| .ret ?_
      obtain rfl := oi hr
      exact FinQ.r1 [aI64 2]
     ·replace hr := cd_f hb7 hr
      rcases Bool.eq_false_or_eq_true (decide (s.Focal < 1)) with hb8 | hb8
      ·replace hr := cd_t hb8 hr
       refine .gn fine (ca4 [.own (api_Survey.c s), .own [aI64 s.Width, aI64 s.Height, aI64 s.Low, aI64 s.High, aI64 s.Across, aI64 s.Along]] (callOk_val (args := [.hs 1 0 6 1]) (l := [1]) rfl (SnL.cons (Sn.hs rfl (.inl rfl) (SnC.cons (Sn.pure rfl) (SnC.cons (Sn.pure rfl) (SnC.cons (Sn.pure rfl) (SnC.cons (Sn.pure rfl) (SnC.cons (Sn.pure rfl) (SnC.cons (Sn.pure rfl) SnC.nil)))))) (fun h => nomatch h)) SnL.nil) (fiduciallaw55_out_ok n [s.Width, s.Height, s.Low, s.High, s.Across, s.Along] false hc4))) <| .mu 2 <| .p0 (v := aB false) (eB hb1) <| .mu 3 <| .pure (v := aB false) (by kernel_rfl) (eB hb2) <| .mu 15 <| .ca cf0 <| .mu 4 <| .pure (v := aB false) (by kernel_rfl) (eB hb6) <| .mu 4 <| .pure (v := aB false) (by kernel_rfl) (eB hb7) <| .mu 4 <| .pure (v := aB true) (by kernel_rfl) (eB hb8) <| .mu 6 <| .done <| .n2 80 [(1, .hp 0 0), (46, aB true)] [.own (api_Survey.c s), .own [aI64 s.Width, aI64 s.Height, aI64 s.Low, aI64 s.High, aI64 s.Across, aI64 s.Along]] <| .cT (by kernel_rfl) <| .seq <| .ru fine <| .ret ?_
       obtain rfl := oi hr
       exact FinQ.r1 [aI64 2]
      ·replace hr := cd_f hb8 hr
       refine .gn fine (ca4 [.own (api_Survey.c s), .own [aI64 s.Width, aI64 s.Height, aI64 s.Low, aI64 s.High, aI64 s.Across, aI64 s.Along]] (callOk_val (args := [.hs 1 0 6 1]) (l := [1]) rfl (SnL.cons (Sn.hs rfl (.inl rfl) (SnC.cons (Sn.pure rfl) (SnC.cons (Sn.pure rfl) (SnC.cons (Sn.pure rfl) (SnC.cons (Sn.pure rfl) (SnC.cons (Sn.pure rfl) (SnC.cons (Sn.pure rfl) SnC.nil)))))) (fun h => nomatch h)) SnL.nil) (fiduciallaw55_out_ok n [s.Width, s.Height, s.Low, s.High, s.Across, s.Along] false hc4))) <| .mu 2 <| .p0 (v := aB false) (eB hb1) <| .mu 3 <| .pure (v := aB false) (by kernel_rfl) (eB hb2) <| .mu 15 <| .ca cf0 <| .mu 4 <| .pure (v := aB false) (by kernel_rfl) (eB hb6) <| .mu 4 <| .pure (v := aB false) (by kernel_rfl) (eB hb7) <| .mu 4 <| .pure (v := aB false) (by kernel_rfl) (eB hb8) <| .mu 6 <| .done <| .n2 80 [(1, .hp 0 0), (46, aB (decide (s.Focal > 1048576)))] [.own (api_Survey.c s), .own [aI64 s.Width, aI64 s.Height, aI64 s.Low, aI64 s.High, aI64 s.Across, aI64 s.Along]] ?_
       refine .cd hr (fun hb10 hr => ?_) (fun hb10 hr => ?_)
       ·refine .seq <| .ru fine <| .ret ?_
        obtain rfl := oi hr
        exact FinQ.r1 [aI64 2]
       ·refine .skip <| .seq <| .seq ?_
        rcases Bool.eq_false_or_eq_true (decide (s.Overlap < 0)) with hb11 | hb11
        ·replace hr := cd_t hb11 hr
         refine .r0 fine <| .mu 2 <| .p0 (v := aB true) (eB hb11) <| .mu 25 <| .done <| .n2 80 [(1, .hp 0 0), (74, aB true)] [.own (api_Survey.c s), .own [aI64 s.Width, aI64 s.Height, aI64 s.Low, aI64 s.High, aI64 s.Across, aI64 s.Along]] <| .cT (by kernel_rfl) <| .seq <| .ru fine <| .ret ?_
         obtain rfl := oi hr
         exact FinQ.r1 [aI64 2]
        ·replace hr := cd_f hb11 hr
         rcases Bool.eq_false_or_eq_true (decide (s.Overlap > 95)) with hb12 | hb12
         ·replace hr := cd_t hb12 hr
          refine .r0 fine <| .mu 2 <| .p0 (v := aB false) (eB hb11) <| .mu 3 <| .pure (v := aB true) (by kernel_rfl) (eB hb12) <| .mu 21 <| .done <| .n2 80 [(1, .hp 0 0), (74, aB true)] [.own (api_Survey.c s), .own [aI64 s.Width, aI64 s.Height, aI64 s.Low, aI64 s.High, aI64 s.Across, aI64 s.Along]] <| .cT (by kernel_rfl) <| .seq <| .ru fine <| .ret ?_
          obtain rfl := oi hr
          exact FinQ.r1 [aI64 2]
         ·replace hr := cd_f hb12 hr
          rcases Bool.eq_false_or_eq_true (decide (s.Sidelap < 0)) with hb13 | hb13
          ·replace hr := cd_t hb13 hr
           refine .r0 fine <| .mu 2 <| .p0 (v := aB false) (eB hb11) <| .mu 3 <| .pure (v := aB false) (by kernel_rfl) (eB hb12) <| .mu 4 <| .pure (v := aB true) (by kernel_rfl) (eB hb13) <| .mu 16 <| .done <| .n2 80 [(1, .hp 0 0), (74, aB true)] [.own (api_Survey.c s), .own [aI64 s.Width, aI64 s.Height, aI64 s.Low, aI64 s.High, aI64 s.Across, aI64 s.Along]] <| .cT (by kernel_rfl) <| .seq <| .ru fine <| .ret ?_
           obtain rfl := oi hr
           exact FinQ.r1 [aI64 2]
          ·replace hr := cd_f hb13 hr
           rcases Bool.eq_false_or_eq_true (decide (s.Sidelap > 95)) with hb14 | hb14
           ·replace hr := cd_t hb14 hr
            refine .r0 fine <| .mu 2 <| .p0 (v := aB false) (eB hb11) <| .mu 3 <| .pure (v := aB false) (by kernel_rfl) (eB hb12) <| .mu 4 <| .pure (v := aB false) (by kernel_rfl) (eB hb13) <| .mu 4 <| .pure (v := aB true) (by kernel_rfl) (eB hb14) <| .mu 11 <| .done <| .n2 80 [(1, .hp 0 0), (74, aB true)] [.own (api_Survey.c s), .own [aI64 s.Width, aI64 s.Height, aI64 s.Low, aI64 s.High, aI64 s.Across, aI64 s.Along]] <| .cT (by kernel_rfl) <| .seq <| .ru fine <| .ret ?_
            obtain rfl := oi hr
            exact FinQ.r1 [aI64 2]
           ·replace hr := cd_f hb14 hr
            rcases Bool.eq_false_or_eq_true (decide (s.Views < 1)) with hb15 | hb15
            ·replace hr := cd_t hb15 hr
             refine .r0 fine <| .mu 2 <| .p0 (v := aB false) (eB hb11) <| .mu 3 <| .pure (v := aB false) (by kernel_rfl) (eB hb12) <| .mu 4 <| .pure (v := aB false) (by kernel_rfl) (eB hb13) <| .mu 4 <| .pure (v := aB false) (by kernel_rfl) (eB hb14) <| .mu 4 <| .pure (v := aB true) (by kernel_rfl) (eB hb15) <| .mu 6 <| .done <| .n2 80 [(1, .hp 0 0), (74, aB true)] [.own (api_Survey.c s), .own [aI64 s.Width, aI64 s.Height, aI64 s.Low, aI64 s.High, aI64 s.Across, aI64 s.Along]] <| .cT (by kernel_rfl) <| .seq <| .ru fine <| .ret ?_
             obtain rfl := oi hr
             exact FinQ.r1 [aI64 2]
            ·replace hr := cd_f hb15 hr
             refine .r0 fine <| .mu 2 <| .p0 (v := aB false) (eB hb11) <| .mu 3 <| .pure (v := aB false) (by kernel_rfl) (eB hb12) <| .mu 4 <| .pure (v := aB false) (by kernel_rfl) (eB hb13) <| .mu 4 <| .pure (v := aB false) (by kernel_rfl) (eB hb14) <| .mu 4 <| .pure (v := aB false) (by kernel_rfl) (eB hb15) <| .mu 6 <| .done <| .n2 80 [(1, .hp 0 0), (74, aB (decide (s.Views > 16)))] [.own (api_Survey.c s), .own [aI64 s.Width, aI64 s.Height, aI64 s.Low, aI64 s.High, aI64 s.Across, aI64 s.Along]] ?_
             refine .cd hr (fun hb16 hr => ?_) (fun hb16 hr => ?_)
             ·refine .seq <| .ru fine <| .ret ?_
              obtain rfl := oi hr
              exact FinQ.r1 [aI64 2]
             ·refine .skip <| .seq <| .seq <| .r3 fine 80 [(79, aB (decide (s.Low > s.High)))] ?_
              refine .cd hr (fun hb17 hr => ?_) (fun hb17 hr => ?_)
              ·refine .seq <| .ru fine <| .ret ?_
               obtain rfl := oi hr
               exact FinQ.r1 [aI64 5]
              ·refine .skip <| .seq <| .ru fine <| .ret ?_
               obtain rfl := oi hr
               exact FinQ.r1 [aI64 0]

theorem fiduciallaw55_flight_ok (n : Nat) (f : api_Flight) (r : Int) (hr : fiduciallaw55_flight n f = some r) : FnOk Tryz.prog 28 [.agg (api_Flight.c f)] (aI64 r) := by
 unfold fiduciallaw55_flight at hr
 refine FnOk.bd fine Tryz.func28 [.tmp 2] ?_
 unfold Tryz.f28
 simp only [Option.getD_some]
 refine .seq <| .r2 fine 42 [(1, .hp 0 0)] [.own (api_Flight.c f)] <| .seq <| .r3 fine 42 [(1, .hp 0 0), (3, aI64 0)] <| .seq ?_
 obtain ⟨v1, hc2, hr⟩ := bd hr
 refine .gn fine (ca4 [.own (api_Flight.c f), .own [aI64 f.Height]] (callOk_val (args := [.hs 1 0 1 1]) (l := [1]) rfl (SnL.cons (Sn.hs rfl (.inl rfl) (SnC.cons (Sn.pure rfl) SnC.nil) (fun h => nomatch h)) SnL.nil) (fiduciallaw55_out_ok n [f.Height] v1 hc2))) <| .mu 3 <| .ca cf0 <| .mu 1 <| .done <| .n2 42 [(1, .hp 0 0), (3, aI64 0), (4, aB v1)] [.own (api_Flight.c f), .own [aI64 f.Height]] <| .seq <| .seq <| .r3 fine 42 [(3, aI64 0), (4, aB v1), (14, slT (slC api_Pix.c) f.Strips), (15, aI64 (f.Strips.length : Int)), (16, aI64 0)] <| .block ?_
 replace hr := bd hr; obtain ⟨o57, hL58, hr⟩ := hr
 refine .loopO (σ := fun z0 => match z0 with | (n_3, bad_4, x_5) => ⟨mkS 42 0 [(3, aI64 n_3), (4, aB bad_4), (14, slT (slC api_Pix.c) f.Strips), (15, aI64 (f.Strips.length : Int)), (16, aI64 x_5)], []⟩) (Q := fun x st' => match (generalizing := false) o57 with | (n_30, bad_31) => x = .exit 0 ∧ Wk 0 st' ⟨mkS 42 0 [(3, aI64 n_30), (4, aB bad_31)], []⟩) hL58 ((Wk.gc [3, 4, 14, 15, 16] [] rfl pK0).to (by kernel_rfl)) ?_ ?_
 ·clear hr
  rintro m ⟨n_3, bad_4, x_5⟩ hr
  show CQ _ _ _ _ _ ⟨_, _⟩
  refine .seq <| .r3 fine 42 [(3, aI64 n_3), (4, aB bad_4), (14, slT (slC api_Pix.c) f.Strips), (15, aI64 (f.Strips.length : Int)), (16, aI64 x_5), (17, aB (decide (x_5 < (f.Strips.length : Int))))] <| .seq ?_
  refine .cd hr (fun hb34 hr => ?_) (fun hb34 hr => ?_)
  ·refine .skip <| .seq <| .block <| .seq ?_
   obtain ⟨hg35, hr⟩ := gd hr
   refine .r0 fine <| .p0 (v := .pp (f.Strips.flatMap (slC api_Pix.c)) (x_5.toNat * 1)) (tr (ofP_guard hg35)) <| .p0 (v := slT api_Pix.c (gt f.Strips x_5)) (tr (ofP_some (flat_get (slC_len api_Pix.c) (inR_lt hg35) (by decide : 0 < 1) (by omega : x_5.toNat * 1 = x_5.toNat * 1 + 0) (by kernel_rfl)))) <| .mu 1 <| .done <| .n2 42 [(3, aI64 n_3), (4, aB bad_4), (6, slT api_Pix.c (gt f.Strips x_5)), (14, slT (slC api_Pix.c) f.Strips), (15, aI64 (f.Strips.length : Int)), (16, aI64 x_5)] [] <| .seq <| .r3 fine 42 [(3, aI64 n_3), (4, aB bad_4), (14, slT (slC api_Pix.c) f.Strips), (15, aI64 (f.Strips.length : Int)), (16, aI64 x_5), (20, slT api_Pix.c (gt f.Strips x_5)), (21, aI64 ((gt f.Strips x_5).length : Int)), (22, aI64 0)] <| .block ?_
   replace hr := bd hr; obtain ⟨o54, hL55, hr⟩ := hr
   refine .loopO (σ := fun z0 => match z0 with | (n_36, bad_37, x_38) => ⟨mkS 42 0 [(3, aI64 n_36), (4, aB bad_37), (14, slT (slC api_Pix.c) f.Strips), (15, aI64 (f.Strips.length : Int)), (16, aI64 x_5), (20, slT api_Pix.c (gt f.Strips x_5)), (21, aI64 ((gt f.Strips x_5).length : Int)), (22, aI64 x_38)], []⟩) (Q := fun x st' => match (generalizing := false) o54 with | (n_45, bad_46) => x = .exit 2 ∧ Wk 0 st' ⟨mkS 42 0 [(3, aI64 n_45), (4, aB bad_46), (14, slT (slC api_Pix.c) f.Strips), (15, aI64 (f.Strips.length : Int)), (16, aI64 x_5)], []⟩) hL55 ((Wk.gc [3, 4, 14, 15, 16, 20, 21, 22] [] rfl pK0).to (by kernel_rfl)) ?_ ?_
   ·clear hr
    rintro m ⟨n_36, bad_37, x_38⟩ hr
    show CQ _ _ _ _ _ ⟨_, _⟩
    refine .seq <| .r3 fine 42 [(3, aI64 n_36), (4, aB bad_37), (14, slT (slC api_Pix.c) f.Strips), (15, aI64 (f.Strips.length : Int)), (16, aI64 x_5), (20, slT api_Pix.c (gt f.Strips x_5)), (21, aI64 ((gt f.Strips x_5).length : Int)), (22, aI64 x_38), (23, aB (decide (x_38 < ((gt f.Strips x_5).length : Int))))] <| .seq ?_
    refine .cd hr (fun hb49 hr => ?_) (fun hb49 hr => ?_)
    ·refine .skip <| .seq <| .block <| .seq ?_
     obtain ⟨hg50, hr⟩ := gd hr
     refine .r0 fine <| .p0 (v := .pp ((gt f.Strips x_5).flatMap api_Pix.c) (x_38.toNat * 2)) (tr (ofP_guard hg50)) <| .p0 (v := .agg (api_Pix.c (gt (gt f.Strips x_5) x_38))) (Eq.trans (b := ORes.ofP (guardV (decide (2 ≤ (((gt f.Strips x_5).flatMap api_Pix.c).drop (x_38.toNat * 2)).length)) (.agg ((((gt f.Strips x_5).flatMap api_Pix.c).drop (x_38.toNat * 2)).take 2)))) (by kernel_rfl) (flat_load api_Pix.len (inR_lt hg50) (by decide) (by omega : x_38.toNat * 2 = x_38.toNat * 2 + 0) (by kernel_rfl))) <| .mu 2 <| .done <| .n2 42 [(3, aI64 n_36), (4, aB bad_37), (8, .hp 0 0), (14, slT (slC api_Pix.c) f.Strips), (15, aI64 (f.Strips.length : Int)), (16, aI64 x_5), (20, slT api_Pix.c (gt f.Strips x_5)), (21, aI64 ((gt f.Strips x_5).length : Int)), (22, aI64 x_38)] [.own (api_Pix.c (gt (gt f.Strips x_5) x_38))] <| .seq <| .r3 fine 42 [(3, aI64 (wrapF .i64 (n_36 + 1))), (4, aB bad_37), (8, .hp 0 0), (14, slT (slC api_Pix.c) f.Strips), (15, aI64 (f.Strips.length : Int)), (16, aI64 x_5), (20, slT api_Pix.c (gt f.Strips x_5)), (21, aI64 ((gt f.Strips x_5).length : Int)), (22, aI64 x_38)] ?_
     rcases Bool.eq_false_or_eq_true bad_37 with hb51 | hb51
     ·replace hr := cd_t hb51 hr
      refine .r0 fine <| .p0 (v := aB true) (eB hb51) <| .mu 9 <| .done <| .pop <| .ru fine ?_
      exact loopF_back (wrapF .i64 (n_36 + 1), true, wrapF .i64 (x_38 + 1)) hr ((Wk.gc [3, 4, 14, 15, 16, 20, 21, 22] [] rfl pK0).to (by kernel_rfl))
     ·replace hr := cd_f hb51 hr
      obtain ⟨v52, hc53, hr⟩ := bd hr
      refine .gn fine (ca4 [.own (api_Pix.c (gt (gt f.Strips x_5) x_38)), .own (api_Pix.c (gt (gt f.Strips x_5) x_38))] (callOk_val (args := [.hs 1 0 2 1]) (l := [1]) rfl (SnL.cons (Sn.hs rfl (.inl rfl) (SnC.cons (Sn.pure rfl) (SnC.cons (Sn.pure rfl) SnC.nil)) (fun h => nomatch h)) SnL.nil) (fiduciallaw55_out_ok n [(gt (gt f.Strips x_5) x_38).X, (gt (gt f.Strips x_5) x_38).Y] v52 hc53))) <| .p0 (v := aB false) (eB hb51) <| .mu 6 <| .ca cf0 <| .mu 2 <| .done <| .pop <| .ru fine ?_
      exact loopF_back (wrapF .i64 (n_36 + 1), v52, wrapF .i64 (x_38 + 1)) hr ((Wk.gc [3, 4, 14, 15, 16, 20, 21, 22] [] rfl pK0).to (by kernel_rfl))
    ·refine .leave rfl ?_
     obtain rfl := oi hr
     exact ⟨rfl, ((Wk.gc [3, 4, 14, 15, 16] [] rfl pK0).to (by kernel_rfl))⟩
   ·rcases o54 with ⟨n_45, bad_46⟩
    rintro x st' hq56
    clear hL55
    obtain ⟨rfl, hq56⟩ := hq56
    refine CQ_exit _ rfl <| .pop <| .wk hq56 <| .ru fine ?_
    exact loopF_back (n_45, bad_46, wrapF .i64 (x_5 + 1)) hr ((Wk.gc [3, 4, 14, 15, 16] [] rfl pK0).to (by kernel_rfl))
  ·refine .leave rfl ?_
   obtain rfl := oi hr
   exact ⟨rfl, ((Wk.gc [3, 4] [] rfl pK0).to (by kernel_rfl))⟩
 ·rcases o57 with ⟨n_30, bad_31⟩
  rintro x st' hq59
  clear hL58
  obtain ⟨rfl, hq59⟩ := hq59
  refine CQ_exit _ rfl <| .wk hq59 <| .seq <| .seq <| .r3 fine 42 [(3, aI64 n_30), (39, aB bad_31)] ?_
  refine .cd hr (fun hb60 hr => ?_) (fun hb60 hr => ?_)
  ·refine .seq <| .ru fine <| .ret ?_
   obtain rfl := oi hr
   exact FinQ.r1 [aI64 2]
  ·refine .skip <| .seq <| .seq <| .r3 fine 42 [(41, aB (decide (n_30 > 256)))] ?_
   refine .cd hr (fun hb61 hr => ?_) (fun hb61 hr => ?_)
   ·refine .seq <| .ru fine <| .ret ?_
    obtain rfl := oi hr
    exact FinQ.r1 [aI64 3]
   ·refine .skip <| .seq <| .ru fine <| .ret ?_
    obtain rfl := oi hr
    exact FinQ.r1 [aI64 0]

theorem fiduciallaw55_asked_ok (n : Nat) (s : api_Survey) (f : api_Flight) (ground : Int) (r : Int) (hr : fiduciallaw55_asked n s f ground = some r) : FnOk Tryz.prog 33 [.agg (api_Survey.c s), .agg (api_Flight.c f), aI64 ground] (aI64 r) := by
 unfold fiduciallaw55_asked at hr
 refine FnOk.bd fine Tryz.func33 [.tmp 6] ?_
 unfold Tryz.f33
 simp only [Option.getD_some]
 refine .seq <| .r2 fine 26 [(2, aI64 ground), (3, .hp 0 0), (4, .hp 1 0)] [.own (api_Survey.c s), .own (api_Flight.c f)] <| .seq <| .seq ?_
 obtain ⟨v1, hc2, hr⟩ := bd hr
 refine .g1 fine (ok0 (fiduciallaw55_check_ok n s v1 hc2)) <| .mu 1 <| .ca cf0 <| .mu 1 <| .done <| .n2 26 [(2, aI64 ground), (4, .hp 1 0), (7, aI64 v1)] [.own (api_Survey.c s), .own (api_Flight.c f)] <| .seq <| .r3 fine 26 [(2, aI64 ground), (4, .hp 1 0), (7, aI64 v1), (12, aB ((v1 : Int) != 0))] ?_
 refine .cd hr (fun hb4 hr => ?_) (fun hb4 hr => ?_)
 ·refine .seq <| .ru fine <| .ret ?_
  obtain rfl := oi hr
  exact FinQ.r1 [aI64 v1]
 ·refine .skip <| .seq <| .seq ?_
  obtain ⟨v5, hc6, hr⟩ := bd hr
  refine .g1 fine (ok0 (fiduciallaw55_flight_ok n f v5 hc6)) <| .mu 1 <| .ca cf0 <| .mu 1 <| .done <| .n2 26 [(2, aI64 ground), (4, .hp 1 0), (8, aI64 v5)] [.own (api_Survey.c s), .own (api_Flight.c f)] <| .seq <| .r3 fine 26 [(2, aI64 ground), (4, .hp 1 0), (8, aI64 v5), (17, aB ((v5 : Int) != 0))] ?_
  refine .cd hr (fun hb8 hr => ?_) (fun hb8 hr => ?_)
  ·refine .seq <| .ru fine <| .ret ?_
   obtain rfl := oi hr
   exact FinQ.r1 [aI64 v5]
  ·refine .skip <| .seq <| .seq ?_
   obtain ⟨v9, hc10, hr⟩ := bd hr
   refine .gn fine (ca4 [.own (api_Survey.c s), .own (api_Flight.c f), .own [aI64 ground]] (callOk_val (args := [.hs 2 0 1 1]) (l := [2]) rfl (SnL.cons (Sn.hs rfl (.inl rfl) (SnC.cons (Sn.pure rfl) SnC.nil) (fun h => nomatch h)) SnL.nil) (fiduciallaw55_out_ok n [ground] v9 hc10))) <| .mu 2 <| .ca cf0 <| .done <| .n2 26 [(2, aI64 ground), (4, .hp 1 0), (21, aB v9)] [.own (api_Survey.c s), .own (api_Flight.c f), .own [aI64 ground]] ?_
   refine .cd hr (fun hb11 hr => ?_) (fun hb11 hr => ?_)
   ·refine .seq <| .ru fine <| .ret ?_
    obtain rfl := oi hr
    exact FinQ.r1 [aI64 2]
   ·refine .skip <| .seq <| .seq <| .r3 fine 26 [(25, aB (decide (f.Height ≤ ground)))] ?_
    refine .cd hr (fun hb12 hr => ?_) (fun hb12 hr => ?_)
    ·refine .seq <| .ru fine <| .ret ?_
     obtain rfl := oi hr
     exact FinQ.r1 [aI64 20]
    ·refine .skip <| .seq <| .ru fine <| .ret ?_
     obtain rfl := oi hr
     exact FinQ.r1 [aI64 0]

theorem fiduciallaw55_PlanOverlaps_1_ok (n : Nat) (l : List api_Pix) (r : Bool) (hr : fiduciallaw55_PlanOverlaps_1 n l = some r) : FnOk Tryz.prog 40 [slT api_Pix.c l] (aB r) := by
 unfold fiduciallaw55_PlanOverlaps_1 at hr
 refine FnOk.bd fine Tryz.func40 [.tmp 2] ?_
 unfold Tryz.f40
 simp only [Option.getD_some]
 refine .seq <| .r3 fine 6 [(0, slT api_Pix.c l)] <| .seq <| .ru fine <| .ret ?_
 obtain rfl := oi hr
 exact FinQ.r1 [aB (((l.length : Int) : Int) == 0)]

theorem slices_IndexFunc_fiducial_api_Pix_fiducial_api_Pix_of_fiduciallaw55_PlanOverlaps_1_ok (n : Nat) (s : List (List api_Pix)) (r : Int) (hr : slices_IndexFunc_fiducial_api_Pix_fiducial_api_Pix_of_fiduciallaw55_PlanOverlaps_1 n s = some r) : FnOk Tryz.prog 78 [slT (slC api_Pix.c) s, .fn 40 [] []] (aI64 r) := by
 unfold slices_IndexFunc_fiducial_api_Pix_fiducial_api_Pix_of_fiduciallaw55_PlanOverlaps_1 at hr
 refine FnOk.bd fine Tryz.func78 [.tmp 4] ?_
 unfold Tryz.f78
 simp only [Option.getD_some]
 refine .seq <| .r3 fine 19 [(0, slT (slC api_Pix.c) s), (1, .fn 40 [] [])] <| .seq <| .seq <| .r3 fine 19 [(0, slT (slC api_Pix.c) s), (1, .fn 40 [] []), (7, aI64 (s.length : Int)), (8, aI64 0)] <| .block ?_
 replace hr := bd hr; obtain ⟨o13, hL14, hr⟩ := hr
 refine .loopO (σ := fun z0 => match z0 with | x_1 => ⟨mkS 19 0 [(0, slT (slC api_Pix.c) s), (1, .fn 40 [] []), (7, aI64 (s.length : Int)), (8, aI64 x_1)], []⟩) (Q := fun x st' => match (generalizing := false) o13 with | .inl _ => x = .exit 0 ∧ Wk 0 st' ⟨mkS 19 0 [], []⟩ | .inr (r0) => x = .ret ∧ FinQ Tryz.prog [.tmp 4] (aI64 r0) .ret st') hL14 ((Wk.gc [0, 1, 7, 8] [] rfl pK0).to (by kernel_rfl)) ?_ ?_
 ·clear hr
  rintro m x_1 hr
  show CQ _ _ _ _ _ ⟨_, _⟩
  refine .seq <| .r3 fine 19 [(0, slT (slC api_Pix.c) s), (1, .fn 40 [] []), (7, aI64 (s.length : Int)), (8, aI64 x_1), (9, aB (decide (x_1 < (s.length : Int))))] <| .seq ?_
  refine .cd hr (fun hb8 hr => ?_) (fun hb8 hr => ?_)
  ·refine .skip <| .seq <| .block <| .seq <| .r3 fine 19 [(0, slT (slC api_Pix.c) s), (1, .fn 40 [] []), (5, aI64 x_1), (7, aI64 (s.length : Int)), (8, aI64 x_1)] <| .seq ?_
   obtain ⟨hg9, hr⟩ := gd hr
   obtain ⟨v10, hc11, hr⟩ := bd hr
   refine .g1 fine (ok0 (fiduciallaw55_PlanOverlaps_1_ok n (gt s x_1) v10 hc11)) <| .mu 3 <| .p0 (v := .pp (s.flatMap (slC api_Pix.c)) (x_1.toNat * 1)) (tr (ofP_guard hg9)) <| .p0 (v := slT api_Pix.c (gt s x_1)) (tr (ofP_some (flat_get (slC_len api_Pix.c) (inR_lt hg9) (by decide : 0 < 1) (by omega : x_1.toNat * 1 = x_1.toNat * 1 + 0) (by kernel_rfl)))) <| .ca cf0 <| .done <| .n2 19 [(0, slT (slC api_Pix.c) s), (1, .fn 40 [] []), (5, aI64 x_1), (7, aI64 (s.length : Int)), (8, aI64 x_1), (16, aB v10)] [] ?_
   refine .cd hr (fun hb12 hr => ?_) (fun hb12 hr => ?_)
   ·refine .seq <| .ru fine <| .ret ?_
    obtain rfl := oi hr
    exact ⟨rfl, FinQ.ret (vs := [aI64 x_1]) (by kernel_rfl) (Sn.pure rfl)⟩
   ·refine .skip <| .pop <| .ru fine ?_
    exact loopF_back (wrapF .i64 (x_1 + 1)) hr ((Wk.gc [0, 1, 7, 8] [] rfl pK0).to (by kernel_rfl))
  ·refine .leave rfl ?_
   obtain rfl := oi hr
   exact ⟨rfl, ((Wk.gc [] [] rfl pK0).to (by kernel_rfl))⟩
 ·rcases o13 with ⟨⟩ | r0
  ·rintro x st' hq15
   clear hL14
   obtain ⟨rfl, hq15⟩ := hq15
   refine CQ_exit _ rfl <| .wk hq15 <| .seq <| .ru fine <| .ret ?_
   obtain rfl := oi hr
   exact FinQ.r1 [aI64 (-1)]
  ·rintro x st' hq15
   clear hL14
   obtain ⟨rfl, hq15⟩ := hq15
   obtain rfl := oi hr
   exact CQ_ret _ hq15

theorem slices_ContainsFunc_fiducial_api_Pix_fiducial_api_Pix_of_fiduciallaw55_PlanOverlaps_1_ok (n : Nat) (s : List (List api_Pix)) (r : Bool) (hr : slices_ContainsFunc_fiducial_api_Pix_fiducial_api_Pix_of_fiduciallaw55_PlanOverlaps_1 n s = some r) : FnOk Tryz.prog 39 [slT (slC api_Pix.c) s, .fn 40 [] []] (aB r) := by
 unfold slices_ContainsFunc_fiducial_api_Pix_fiducial_api_Pix_of_fiduciallaw55_PlanOverlaps_1 at hr
 refine FnOk.bd fine Tryz.func39 [.tmp 4] ?_
 unfold Tryz.f39
 simp only [Option.getD_some]
 refine .seq <| .r3 fine 9 [(0, slT (slC api_Pix.c) s), (1, .fn 40 [] [])] <| .seq ?_
 obtain ⟨v1, hc2, hr⟩ := bd hr
 refine .g1 fine (ok0 (slices_IndexFunc_fiducial_api_Pix_fiducial_api_Pix_of_fiduciallaw55_PlanOverlaps_1_ok n s v1 hc2)) <| .mu 2 <| .ca cf0 <| .mu 2 <| .done <| .ret ?_
 obtain rfl := oi hr
 exact FinQ.r1 [aB (decide (v1 ≥ 0))]

theorem fiducialref02_Zero_inj {x' : api_Rat} {x'_ : api_Rat} (h : ([.agg [.at (.bool x'.Num.Negative), slT (iC .u32) x'.Num.Groups, .at (.bool x'.Den.Negative), slT (iC .u32) x'.Den.Groups]] : List AV) = [.agg [.at (.bool x'_.Num.Negative), slT (iC .u32) x'_.Num.Groups, .at (.bool x'_.Den.Negative), slT (iC .u32) x'_.Den.Groups]]) : x' = x'_ := by
 obtain ⟨⟨_, _⟩, ⟨_, _⟩⟩ := x'
 obtain ⟨⟨_, _⟩, ⟨_, _⟩⟩ := x'_
 simp only [List.cons.injEq, AV.agg.injEq, AV.at.injEq, Value.int.injEq, Value.bool.injEq, AV.fn.injEq, AV.pp.injEq, true_and, and_true, slT_inj_int] at h
 simp_all
theorem fiducialref02_Zero_cg (n : Nat) {x' : api_Rat} {x'_ : api_Rat} (h : ([.agg [.at (.bool x'.Num.Negative), slT (iC .u32) x'.Num.Groups, .at (.bool x'.Den.Negative), slT (iC .u32) x'.Den.Groups]] : List AV) = [.agg [.at (.bool x'_.Num.Negative), slT (iC .u32) x'_.Num.Groups, .at (.bool x'_.Den.Negative), slT (iC .u32) x'_.Den.Groups]]) : fiducialref02_Zero n x' = fiducialref02_Zero n x'_ := by
 obtain rfl := fiducialref02_Zero_inj h
 rfl
theorem fiducialref02_Zero_ok (n : Nat) (x' : api_Rat) (r : Bool) (hr : fiducialref02_Zero n x' = some r) : FnOk Tryz.prog 24 [.agg (api_Rat.c x')] (aB r) := by
 unfold fiducialref02_Zero at hr
 refine FnOk.bd fine Tryz.func24 [.tmp 2] ?_
 unfold Tryz.f24
 simp only [Option.getD_some]
 refine .seq <| .r2 fine 27 [(1, .hp 0 0)] [.own (api_Rat.c x')] <| .seq ?_
 rcases Bool.eq_false_or_eq_true (!x'.Num.Negative) with hb1 | hb1
 ·replace hr := cd_t hb1 hr
  rcases Bool.eq_false_or_eq_true (!x'.Den.Negative) with hb2 | hb2
  ·replace hr := cd_t hb2 hr
   rcases Bool.eq_false_or_eq_true (((x'.Num.Groups.length : Int) : Int) == 0) with hb3 | hb3
   ·replace hr := cd_t hb3 hr
    refine .r0 fine <| .mu 3 <| .p0 (v := aB true) (eB hb1) <| .mu 4 <| .pure (v := aB true) (by kernel_rfl) (eB hb2) <| .mu 6 <| .pure (v := aB true) (by kernel_rfl) (eB hb3) <| .mu 9 <| .done <| .ret ?_
    obtain rfl := oi hr
    exact FinQ.r1 [aB (((x'.Den.Groups.length : Int) : Int) == 0)]
   ·replace hr := cd_f hb3 hr
    refine .r0 fine <| .mu 3 <| .p0 (v := aB true) (eB hb1) <| .mu 4 <| .pure (v := aB true) (by kernel_rfl) (eB hb2) <| .mu 6 <| .pure (v := aB false) (by kernel_rfl) (eB hb3) <| .mu 9 <| .done <| .ret ?_
    obtain rfl := oi hr
    exact FinQ.r1 [aB false]
  ·replace hr := cd_f hb2 hr
   refine .r0 fine <| .mu 3 <| .p0 (v := aB true) (eB hb1) <| .mu 4 <| .pure (v := aB false) (by kernel_rfl) (eB hb2) <| .mu 16 <| .done <| .ret ?_
   obtain rfl := oi hr
   exact FinQ.r1 [aB false]
 ·replace hr := cd_f hb1 hr
  refine .r0 fine <| .mu 3 <| .p0 (v := aB false) (eB hb1) <| .mu 21 <| .done <| .ret ?_
  obtain rfl := oi hr
  exact FinQ.r1 [aB false]

theorem fiducialref01_Mul_inj {x' : api_Int} {y : api_Int} {x'_ : api_Int} {y_ : api_Int} (h : ([.agg [.at (.bool x'.Negative), slT (iC .u32) x'.Groups], .agg [.at (.bool y.Negative), slT (iC .u32) y.Groups]] : List AV) = [.agg [.at (.bool x'_.Negative), slT (iC .u32) x'_.Groups], .agg [.at (.bool y_.Negative), slT (iC .u32) y_.Groups]]) : x' = x'_ ∧ y = y_ := by
 obtain ⟨_, _⟩ := x'
 obtain ⟨_, _⟩ := x'_
 obtain ⟨_, _⟩ := y
 obtain ⟨_, _⟩ := y_
 simp only [List.cons.injEq, AV.agg.injEq, AV.at.injEq, Value.int.injEq, Value.bool.injEq, AV.fn.injEq, AV.pp.injEq, true_and, and_true, slT_inj_int] at h
 simp_all
theorem fiducialref01_Mul_cg (n : Nat) {x' : api_Int} {y : api_Int} {x'_ : api_Int} {y_ : api_Int} (h : ([.agg [.at (.bool x'.Negative), slT (iC .u32) x'.Groups], .agg [.at (.bool y.Negative), slT (iC .u32) y.Groups]] : List AV) = [.agg [.at (.bool x'_.Negative), slT (iC .u32) x'_.Groups], .agg [.at (.bool y_.Negative), slT (iC .u32) y_.Groups]]) : fiducialref01_Mul n x' y = fiducialref01_Mul n x'_ y_ := by
 obtain ⟨rfl, rfl⟩ := fiducialref01_Mul_inj h
 rfl
theorem fiducialref01_Mul_ok (n : Nat) (x' : api_Int) (y : api_Int) (r : api_Int) (hr : fiducialref01_Mul n x' y = some r) : FnOk Tryz.prog 93 [.agg (api_Int.c x'), .agg (api_Int.c y)] (.agg (api_Int.c r)) := by
 unfold fiducialref01_Mul at hr
 refine FnOk.bd fine Tryz.func93 [.cell 4 38] ?_
 unfold Tryz.f93
 simp only [Option.getD_some]
 refine .seq <| .r2 fine 85 [(2, .hp 0 0), (3, .hp 1 0), (4, .hp 2 0)] [.own (api_Int.c x'), .own (api_Int.c y), .own [aB false, nS]] <| .seq ?_
 obtain ⟨v1, hc2, v3, hc4, hr⟩ := bd2 hr
 refine .tn fine (ca1 (ok0 (fiducialref01_Value_ok n x' v1 hc2)) (ca3 (ok0 (fiducialref01_Value_ok n y v3 hc4)))) <| .mu 1 <| .ca cf0 <| .mu 1 <| .ca (cfA (fun h => by rw [sv hc4 hc2 (fiducialref01_Value_cg n h)]) cf0) <| .mu 2 ?_
 refine .done ⟨by kernel_rfl, ?_⟩
 refine .n2 85 [(2, .hp 0 0), (3, .hp 1 0), (4, .hp 2 0)] [.own (api_Int.c v1), .own (api_Int.c v3), .own [aB false, nS]] <| .seq ?_
 obtain ⟨hg5, hg6, hg7, hr⟩ := gd3 hr
 refine .r0 fine <| .mu 7 <| .e0 (v := .hs 3 0 (List.replicate (wrapF .i64 ((v1.Groups.length : Int) + (v3.Groups.length : Int))).toNat ((0 : Int) : Int)).length 1) (ws := [(3, .own ((List.replicate (wrapF .i64 ((v1.Groups.length : Int) + (v3.Groups.length : Int))).toNat ((0 : Int) : Int)).flatMap (iC .u32)))]) (tr (make_own (c := (iC .u32)) (z := (0 : Int)) (n := wrapF .i64 ((v1.Groups.length : Int) + (v3.Groups.length : Int))) (by_ := 4) rfl hg5 hg6 hg7)) <| .mu 1 <| .done <| .n2 85 [(2, .hp 0 0), (3, .hp 1 0), (4, .hp 2 0), (5, .hs 3 0 (List.replicate (wrapF .i64 ((v1.Groups.length : Int) + (v3.Groups.length : Int))).toNat ((0 : Int) : Int)).length 1)] [.own (api_Int.c v1), .own (api_Int.c v3), .own [aB false, nS], .own ((List.replicate (wrapF .i64 ((v1.Groups.length : Int) + (v3.Groups.length : Int))).toNat ((0 : Int) : Int)).flatMap (iC .u32))] <| .seq <| .seq <| .r3 fine 85 [(2, .hp 0 0), (3, .hp 1 0), (4, .hp 2 0), (5, .hs 3 0 (List.replicate (wrapF .i64 ((v1.Groups.length : Int) + (v3.Groups.length : Int))).toNat ((0 : Int) : Int)).length 1), (6, aI64 0)] <| .block ?_
 replace hr := bd hr; obtain ⟨out_29, hL51, hr⟩ := hr
 refine .loopO (σ := fun z0 => match z0 with | (out_8, i_9) => ⟨mkS 85 0 [(2, .hp 0 0), (3, .hp 1 0), (4, .hp 2 0), (5, .hs 3 0 out_8.length 1), (6, aI64 i_9)], [.own (api_Int.c v1), .own (api_Int.c v3), .own [aB false, nS], .own (out_8.flatMap (iC .u32))]⟩) (Q := fun x st' => x = .exit 0 ∧ Wk 0 st' ⟨mkS 85 0 [(2, .hp 0 0), (3, .hp 1 0), (4, .hp 2 0), (5, .hs 3 0 out_29.length 1)], [.own (api_Int.c v1), .own (api_Int.c v3), .own [aB false, nS], .own (out_29.flatMap (iC .u32))]⟩) hL51 ((Wk.gc [2, 3, 4, 5, 6] [(0, true), (1, true), (2, true), (3, false)] rfl (pKt (pKt (pKt (pKo (iC .u32) (iC_pure _) (List.replicate (wrapF .i64 ((v1.Groups.length : Int) + (v3.Groups.length : Int))).toNat ((0 : Int) : Int)) trivial))))).to (by kernel_rfl)) ?_ ?_
 ·clear hr
  rintro m ⟨out_8, i_9⟩ hr
  show CQ _ _ _ _ _ ⟨_, _⟩
  refine .seq <| .seq <| .r3 fine 85 [(2, .hp 0 0), (3, .hp 1 0), (4, .hp 2 0), (5, .hs 3 0 out_8.length 1), (6, aI64 i_9), (26, aB (decide (i_9 < (v1.Groups.length : Int))))] ?_
  refine .cd hr (fun hb31 hr => ?_) (fun hb31 hr => ?_)
  ·refine .skip <| .seq <| .block <| .seq <| .r3 fine 85 [(2, .hp 0 0), (3, .hp 1 0), (4, .hp 2 0), (5, .hs 3 0 out_8.length 1), (6, aI64 i_9), (7, aU64 0)] <| .seq <| .seq <| .r3 fine 85 [(2, .hp 0 0), (3, .hp 1 0), (4, .hp 2 0), (5, .hs 3 0 out_8.length 1), (6, aI64 i_9), (7, aU64 0), (8, aI64 0)] <| .block ?_
   replace hr := bd hr; obtain ⟨o46, hL47, hr⟩ := hr
   refine .loopO (σ := fun z0 => match z0 with | (out_32, carry_33, j_34) => ⟨mkS 85 0 [(2, .hp 0 0), (3, .hp 1 0), (4, .hp 2 0), (5, .hs 3 0 out_32.length 1), (6, aI64 i_9), (7, aU64 carry_33), (8, aI64 j_34)], [.own (api_Int.c v1), .own (api_Int.c v3), .own [aB false, nS], .own (out_32.flatMap (iC .u32))]⟩) (Q := fun x st' => match (generalizing := false) o46 with | (out_39, carry_40) => x = .exit 2 ∧ Wk 0 st' ⟨mkS 85 0 [(2, .hp 0 0), (3, .hp 1 0), (4, .hp 2 0), (5, .hs 3 0 out_39.length 1), (6, aI64 i_9), (7, aU64 carry_40)], [.own (api_Int.c v1), .own (api_Int.c v3), .own [aB false, nS], .own (out_39.flatMap (iC .u32))]⟩) hL47 ((Wk.gc [2, 3, 4, 5, 6, 7, 8] [(0, true), (1, true), (2, true), (3, false)] rfl (pKt (pKt (pKt (pKo (iC .u32) (iC_pure _) out_8 trivial))))).to (by kernel_rfl)) ?_ ?_
   ·clear hr
    rintro m ⟨out_32, carry_33, j_34⟩ hr
    show CQ _ _ _ _ _ ⟨_, _⟩
    refine .seq <| .seq <| .r3 fine 85 [(2, .hp 0 0), (3, .hp 1 0), (4, .hp 2 0), (5, .hs 3 0 out_32.length 1), (6, aI64 i_9), (7, aU64 carry_33), (8, aI64 j_34), (33, aB (decide (j_34 < (v3.Groups.length : Int))))] ?_
    refine .cd hr (fun hb42 hr => ?_) (fun hb42 hr => ?_)
    ·refine .skip <| .seq <| .block <| .seq ?_
     obtain ⟨hg43, hg44, hg45, hr⟩ := gd3 hr
     refine .regionT fine callOf_nil <| .mu 4 <| .pure (v := .hp 3 (0 + (wrapF .i64 (i_9 + j_34)).toNat * 1)) (by kernel_rfl) (tr (ofP_guard hg43)) (by kernel_rfl) <| .pure (v := aU32 (gt out_32 (wrapF .i64 (i_9 + j_34)))) (by kernel_rfl) (tr (ofP_some (flat_get (iC_len .u32) (inR_lt hg43) (by decide : 0 < 1) (by omega : 0 + (wrapF .i64 (i_9 + j_34)).toNat * 1 = (wrapF .i64 (i_9 + j_34)).toNat * 1 + 0) (by kernel_rfl)))) (by kernel_rfl) <| .mu 4 <| .pure (v := .pp (v1.Groups.flatMap (iC .u32)) (i_9.toNat * 1)) (by kernel_rfl) (tr (ofP_guard hg44)) (by kernel_rfl) <| .pure (v := aU32 (gt v1.Groups i_9)) (by kernel_rfl) (tr (ofP_some (flat_get (iC_len .u32) (inR_lt hg44) (by decide : 0 < 1) (by omega : i_9.toNat * 1 = i_9.toNat * 1 + 0) (by kernel_rfl)))) (by kernel_rfl) <| .mu 4 <| .pure (v := .pp (v3.Groups.flatMap (iC .u32)) (j_34.toNat * 1)) (by kernel_rfl) (tr (ofP_guard hg45)) (by kernel_rfl) <| .pure (v := aU32 (gt v3.Groups j_34)) (by kernel_rfl) (tr (ofP_some (flat_get (iC_len .u32) (inR_lt hg45) (by decide : 0 < 1) (by omega : j_34.toNat * 1 = j_34.toNat * 1 + 0) (by kernel_rfl)))) (by kernel_rfl) <| .mu 6 ?_
     refine .done ⟨by kernel_rfl, ?_⟩
     refine .n2 85 [(2, .hp 0 0), (3, .hp 1 0), (4, .hp 2 0), (5, .hs 3 0 out_32.length 1), (6, aI64 i_9), (8, aI64 j_34), (9, aU64 (wrapF .u64 ((wrapF .u64 ((wrapF .u64 (gt out_32 (wrapF .i64 (i_9 + j_34)))) + (wrapF .u64 ((wrapF .u64 (gt v1.Groups i_9)) * (wrapF .u64 (gt v3.Groups j_34)))))) + carry_33)))] [.own (api_Int.c v1), .own (api_Int.c v3), .own [aB false, nS], .own (out_32.flatMap (iC .u32))] <| .seq <| .r0 fine <| .mu 7 <| .p0 (v := .hp 3 (0 + (wrapF .i64 (i_9 + j_34)).toNat * 1)) (tr (ofP_guard hg43)) <| .e0 (v := .unk) (ws := [(3, .own ((out_32.set (wrapF .i64 (i_9 + j_34)).toNat (wrapF .u32 ((wrapF .u64 ((wrapF .u64 ((wrapF .u64 (gt out_32 (wrapF .i64 (i_9 + j_34)))) + (wrapF .u64 ((wrapF .u64 (gt v1.Groups i_9)) * (wrapF .u64 (gt v3.Groups j_34)))))) + carry_33)).tmod 1000000000))).flatMap (iC .u32)))]) (tr (stO_t (and_t (flat_fits (n := 1) (iC_len .u32) (inR_lt hg43) (Nat.le_of_ble_eq_true rfl) (by omega : 0 + (wrapF .i64 (i_9 + j_34)).toNat * 1 = (wrapF .i64 (i_9 + j_34)).toNat * 1 + 0))) (congrArg Blk.own (flat_set (xs := [aU32 (wrapF .u32 ((wrapF .u64 ((wrapF .u64 ((wrapF .u64 (gt out_32 (wrapF .i64 (i_9 + j_34)))) + (wrapF .u64 ((wrapF .u64 (gt v1.Groups i_9)) * (wrapF .u64 (gt v3.Groups j_34)))))) + carry_33)).tmod 1000000000))]) (iC_len .u32) (inR_lt hg43) (Nat.le_of_ble_eq_true rfl) (by omega : 0 + (wrapF .i64 (i_9 + j_34)).toNat * 1 = (wrapF .i64 (i_9 + j_34)).toNat * 1 + 0) (by kernel_rfl))))) <| .done <| .n2 85 [(2, .hp 0 0), (3, .hp 1 0), (4, .hp 2 0), (5, .hs 3 0 out_32.length 1), (6, aI64 i_9), (8, aI64 j_34), (9, aU64 (wrapF .u64 ((wrapF .u64 ((wrapF .u64 (gt out_32 (wrapF .i64 (i_9 + j_34)))) + (wrapF .u64 ((wrapF .u64 (gt v1.Groups i_9)) * (wrapF .u64 (gt v3.Groups j_34)))))) + carry_33)))] [.own (api_Int.c v1), .own (api_Int.c v3), .own [aB false, nS], .own ((out_32.set (wrapF .i64 (i_9 + j_34)).toNat (wrapF .u32 ((wrapF .u64 ((wrapF .u64 ((wrapF .u64 (gt out_32 (wrapF .i64 (i_9 + j_34)))) + (wrapF .u64 ((wrapF .u64 (gt v1.Groups i_9)) * (wrapF .u64 (gt v3.Groups j_34)))))) + carry_33)).tmod 1000000000))).flatMap (iC .u32))] <| .ru fine <| .pop <| .ru fine ?_
     exact loopF_back (out_32.set (wrapF .i64 (i_9 + j_34)).toNat (wrapF .u32 ((wrapF .u64 ((wrapF .u64 ((wrapF .u64 (gt out_32 (wrapF .i64 (i_9 + j_34)))) + (wrapF .u64 ((wrapF .u64 (gt v1.Groups i_9)) * (wrapF .u64 (gt v3.Groups j_34)))))) + carry_33)).tmod 1000000000)), wrapF .u64 ((wrapF .u64 ((wrapF .u64 ((wrapF .u64 (gt out_32 (wrapF .i64 (i_9 + j_34)))) + (wrapF .u64 ((wrapF .u64 (gt v1.Groups i_9)) * (wrapF .u64 (gt v3.Groups j_34)))))) + carry_33)).tdiv 1000000000), wrapF .i64 (j_34 + 1)) hr ((Wk.relen 5 (b := 3) (es := 1) (len := out_32.length) (out_32.set (wrapF .i64 (i_9 + j_34)).toNat (wrapF .u32 ((wrapF .u64 ((wrapF .u64 ((wrapF .u64 (gt out_32 (wrapF .i64 (i_9 + j_34)))) + (wrapF .u64 ((wrapF .u64 (gt v1.Groups i_9)) * (wrapF .u64 (gt v3.Groups j_34)))))) + carry_33)).tmod 1000000000))).length (by kernel_rfl) (Eq.symm (List.length_set.trans rfl))).trans ((Wk.gc [2, 3, 4, 5, 6, 7, 8] [(0, true), (1, true), (2, true), (3, false)] rfl (pKt (pKt (pKt (pKo (iC .u32) (iC_pure _) (out_32.set (wrapF .i64 (i_9 + j_34)).toNat (wrapF .u32 ((wrapF .u64 ((wrapF .u64 ((wrapF .u64 (gt out_32 (wrapF .i64 (i_9 + j_34)))) + (wrapF .u64 ((wrapF .u64 (gt v1.Groups i_9)) * (wrapF .u64 (gt v3.Groups j_34)))))) + carry_33)).tmod 1000000000))) trivial))))).to (by kernel_rfl)))
    ·refine .leave rfl ?_
     obtain rfl := oi hr
     exact ⟨rfl, ((Wk.gc [2, 3, 4, 5, 6, 7] [(0, true), (1, true), (2, true), (3, false)] rfl (pKt (pKt (pKt (pKo (iC .u32) (iC_pure _) out_32 trivial))))).to (by kernel_rfl))⟩
   ·rcases o46 with ⟨out_39, carry_40⟩
    rintro x st' hq48
    clear hL47
    obtain ⟨rfl, hq48⟩ := hq48
    refine CQ_exit _ rfl <| .wk hq48 ?_
    obtain ⟨hg49, hr⟩ := gd hr
    refine .r0 fine <| .mu 8 <| .p0 (v := .hp 3 (0 + (wrapF .i64 (i_9 + (v3.Groups.length : Int))).toNat * 1)) (tr (ofP_guard hg49)) <| .e0 (v := .unk) (ws := [(3, .own ((out_39.set (wrapF .i64 (i_9 + (v3.Groups.length : Int))).toNat (wrapF .u32 carry_40)).flatMap (iC .u32)))]) (tr (stO_t (and_t (flat_fits (n := 1) (iC_len .u32) (inR_lt hg49) (Nat.le_of_ble_eq_true rfl) (by omega : 0 + (wrapF .i64 (i_9 + (v3.Groups.length : Int))).toNat * 1 = (wrapF .i64 (i_9 + (v3.Groups.length : Int))).toNat * 1 + 0))) (congrArg Blk.own (flat_set (xs := [aU32 (wrapF .u32 carry_40)]) (iC_len .u32) (inR_lt hg49) (Nat.le_of_ble_eq_true rfl) (by omega : 0 + (wrapF .i64 (i_9 + (v3.Groups.length : Int))).toNat * 1 = (wrapF .i64 (i_9 + (v3.Groups.length : Int))).toNat * 1 + 0) (by kernel_rfl))))) <| .done <| .pop <| .ru fine ?_
    exact loopF_back (out_39.set (wrapF .i64 (i_9 + (v3.Groups.length : Int))).toNat (wrapF .u32 carry_40), wrapF .i64 (i_9 + 1)) hr ((Wk.relen 5 (b := 3) (es := 1) (len := out_39.length) (out_39.set (wrapF .i64 (i_9 + (v3.Groups.length : Int))).toNat (wrapF .u32 carry_40)).length (by kernel_rfl) (Eq.symm (List.length_set.trans rfl))).trans ((Wk.gc [2, 3, 4, 5, 6] [(0, true), (1, true), (2, true), (3, false)] rfl (pKt (pKt (pKt (pKo (iC .u32) (iC_pure _) (out_39.set (wrapF .i64 (i_9 + (v3.Groups.length : Int))).toNat (wrapF .u32 carry_40)) trivial))))).to (by kernel_rfl)))
  ·refine .leave rfl ?_
   obtain rfl := oi hr
   exact ⟨rfl, ((Wk.gc [2, 3, 4, 5] [(0, true), (1, true), (2, true), (3, false)] rfl (pKt (pKt (pKt (pKo (iC .u32) (iC_pure _) out_8 trivial))))).to (by kernel_rfl))⟩
 ·rintro x st' hq52
  clear hL51
  obtain ⟨rfl, hq52⟩ := hq52
  refine CQ_exit _ rfl <| .wk hq52 <| .seq ?_
  obtain ⟨v53, hc54, hr⟩ := bd hr
  refine .g1 fine (callOk_ref (args := [aB (v1.Negative != v3.Negative), .hs 3 0 out_29.length 1]) (l := [3]) (SnL.cons (Sn.pure rfl) (SnL.cons (Sn.hs rfl (.inl rfl) (SnC.pure (ids_flat (iC_pure _) _)) (fun h => flat_nil0 h)) SnL.nil)) (fiducialref01_made_ok n (v1.Negative != v3.Negative) out_29 v53 hc54)) <| .mu 6 <| .ca cf0 <| .mu 1 <| .done <| .n2 85 [(4, .hp 2 0)] [.own (api_Int.c v1), .own (api_Int.c v3), .own (api_Int.c v53), .fix (out_29.flatMap (iC .u32))] <| .ret ?_
  obtain rfl := oi hr
  exact FinQ.r1 [.agg (api_Int.c v53)]

theorem fiducialref01_Divide_ok (n : Nat) (x' : api_Int) (y : api_Int) (r : api_Int × api_Int × Int) (hr : fiducialref01_Divide n x' y = some r) : FnOk Tryz.prog 116 [.agg (api_Int.c x'), .agg (api_Int.c y)] (.tup [.agg (api_Int.c r.1), .agg (api_Int.c r.2.1), aI64 r.2.2]) := by
 unfold fiducialref01_Divide at hr
 refine FnOk.bd fine Tryz.func116 [.cell 4 38, .cell 5 38, .tmp 6] ?_
 unfold Tryz.f116
 simp only [Option.getD_some]
 refine .seq <| .r2 fine 54 [(2, .hp 0 0), (3, .hp 1 0), (4, .hp 2 0), (5, .hp 3 0)] [.own (api_Int.c x'), .own (api_Int.c y), .own [aB false, nS], .own [aB false, nS]] <| .seq ?_
 obtain ⟨v1, hc2, v3, hc4, hr⟩ := bd2 hr
 refine .tn fine (ca1 (ok0 (fiducialref01_Value_ok n x' v1 hc2)) (ca3 (ok0 (fiducialref01_Value_ok n y v3 hc4)))) <| .mu 1 <| .ca cf0 <| .mu 1 <| .ca (cfA (fun h => by rw [sv hc4 hc2 (fiducialref01_Value_cg n h)]) cf0) <| .mu 2 ?_
 refine .done ⟨by kernel_rfl, ?_⟩
 refine .n2 54 [(2, .hp 0 0), (3, .hp 1 0), (4, .hp 2 0), (5, .hp 3 0)] [.own (api_Int.c v1), .own (api_Int.c v3), .own [aB false, nS], .own [aB false, nS]] <| .seq <| .seq <| .r3 fine 54 [(2, .hp 0 0), (3, .hp 1 0), (4, .hp 2 0), (5, .hp 3 0), (17, aB (((v3.Groups.length : Int) : Int) == 0))] ?_
 refine .cd hr (fun hb5 hr => ?_) (fun hb5 hr => ?_)
 ·refine .seq <| .r3 fine 54 [(4, .hp 2 0), (5, .hp 3 0), (6, aI64 14)] <| .ret ?_
  obtain rfl := oi hr
  exact FinQ.ret (vs := [.agg [aB false, nS], .agg [aB false, nS], aI64 14]) (by kernel_rfl) (Sn.tup (SnL.cons (Sn.agg (SnL.cons (Sn.pure rfl) (SnL.cons Sn.nilsl SnL.nil))) (SnL.cons (Sn.agg (SnL.cons (Sn.pure rfl) (SnL.cons Sn.nilsl SnL.nil))) (SnL.cons (Sn.pure rfl) SnL.nil))))
 ·refine .skip <| .seq ?_
  obtain ⟨v6, hc7, hr⟩ := bd hr
  refine .g1 fine (ok0 (fiducialref01_parts_ok n v1.Groups v3.Groups v6 hc7)) <| .mu 4 <| .ca cf0 <| .mu 5 <| .done <| .n2 54 [(2, .hp 0 0), (3, .hp 1 0), (4, .hp 2 0), (5, .hp 3 0), (7, sU32 v6.1), (8, sU32 v6.2)] [.own (api_Int.c v1), .own (api_Int.c v3), .own [aB false, nS], .own [aB false, nS]] <| .seq ?_
  obtain ⟨v8, hc9, hr⟩ := bd hr
  refine .g1 fine (ok0 (fiducialref01_made_ok n (v1.Negative != v3.Negative) v6.1 v8 hc9)) <| .mu 6 <| .ca cf0 <| .mu 2 <| .done <| .n2 54 [(2, .hp 0 0), (3, .hp 1 0), (4, .hp 2 0), (5, .hp 3 0), (8, sU32 v6.2), (9, .hp 4 0)] [.own (api_Int.c v1), .own (api_Int.c v3), .own [aB false, nS], .own [aB false, nS], .own (api_Int.c v8)] <| .seq <| .seq ?_
  rcases Bool.eq_false_or_eq_true (v1.Negative != v3.Negative) with hb10 | hb10
  ·replace hr := cd_t hb10 hr
   refine .r0 fine <| .mu 4 <| .p0 (v := aB true) (eB hb10) <| .mu 5 <| .done <| .n2 54 [(2, .hp 0 0), (3, .hp 1 0), (4, .hp 2 0), (5, .hp 3 0), (9, .hp 4 0), (44, aB (decide ((v6.2.length : Int) > 0)))] [.own (api_Int.c v1), .own (api_Int.c v3), .own [aB false, nS], .own [aB false, nS], .own (api_Int.c v8)] ?_
   refine .cd hr (fun hb11 hr => ?_) (fun hb11 hr => ?_)
   ·obtain ⟨v12, hc13, v14, hc15, hr⟩ := bd2 hr
    refine .tn fine (ca1 (ok0 (fiducialref01_Of_ok n 1 v12 hc13)) (ca3 (ok0 (fiducialref01_Sub_ok n v8 v12 v14 hc15)))) <| .mu 1 <| .ca cf0 <| .ca (cfF cf0) <| .mu 1 ?_
    refine .done ⟨by kernel_rfl, ?_⟩
    refine .n2 54 [(2, .hp 0 0), (3, .hp 1 0), (4, .hp 2 0), (5, .hp 3 0), (9, .hp 4 0)] [.own (api_Int.c v1), .own (api_Int.c v3), .own [aB false, nS], .own [aB false, nS], .own (api_Int.c v14)] <| .seq ?_
    obtain ⟨v16, hc17, v18, hc19, hr⟩ := bd2 hr
    refine .tn fine (ca1 (ok0 (fiducialref01_Mul_ok n v14 v3 v16 hc17)) (ca3 (ok0 (fiducialref01_Sub_ok n v1 v16 v18 hc19)))) <| .mu 4 <| .ca cf0 <| .ca (cfF cf0) <| .mu 3 ?_
    refine .done ⟨by kernel_rfl, ?_⟩
    refine .n2 54 [(4, .hp 2 0), (5, .hp 3 0), (6, aI64 0)] [.own (api_Int.c v1), .own (api_Int.c v3), .own (api_Int.c v14), .own (api_Int.c v18), .own (api_Int.c v14)] <| .ret ?_
    obtain rfl := oi hr
    exact FinQ.ret (vs := [.agg (api_Int.c v14), .agg (api_Int.c v18), aI64 0]) (by kernel_rfl) (Sn.tup (SnL.cons (Sn.pure rfl) (SnL.cons (Sn.pure rfl) (SnL.cons (Sn.pure rfl) SnL.nil))))
   ·refine .skip <| .seq ?_
    obtain ⟨v20, hc21, v22, hc23, hr⟩ := bd2 hr
    refine .tn fine (ca1 (ok0 (fiducialref01_Mul_ok n v8 v3 v20 hc21)) (ca3 (ok0 (fiducialref01_Sub_ok n v1 v20 v22 hc23)))) <| .mu 4 <| .ca cf0 <| .ca (cfF cf0) <| .mu 3 ?_
    refine .done ⟨by kernel_rfl, ?_⟩
    refine .n2 54 [(4, .hp 2 0), (5, .hp 3 0), (6, aI64 0)] [.own (api_Int.c v1), .own (api_Int.c v3), .own (api_Int.c v8), .own (api_Int.c v22), .own (api_Int.c v8)] <| .ret ?_
    obtain rfl := oi hr
    exact FinQ.ret (vs := [.agg (api_Int.c v8), .agg (api_Int.c v22), aI64 0]) (by kernel_rfl) (Sn.tup (SnL.cons (Sn.pure rfl) (SnL.cons (Sn.pure rfl) (SnL.cons (Sn.pure rfl) SnL.nil))))
  ·replace hr := cd_f hb10 hr
   refine .r0 fine <| .mu 4 <| .p0 (v := aB false) (eB hb10) <| .mu 5 <| .done <| .n2 54 [(2, .hp 0 0), (3, .hp 1 0), (4, .hp 2 0), (5, .hp 3 0), (9, .hp 4 0), (44, aB false)] [.own (api_Int.c v1), .own (api_Int.c v3), .own [aB false, nS], .own [aB false, nS], .own (api_Int.c v8)] <| .cF (by kernel_rfl) <| .skip <| .seq ?_
   obtain ⟨v24, hc25, v26, hc27, hr⟩ := bd2 hr
   refine .tn fine (ca1 (ok0 (fiducialref01_Mul_ok n v8 v3 v24 hc25)) (ca3 (ok0 (fiducialref01_Sub_ok n v1 v24 v26 hc27)))) <| .mu 4 <| .ca cf0 <| .ca (cfF cf0) <| .mu 3 ?_
   refine .done ⟨by kernel_rfl, ?_⟩
   refine .n2 54 [(4, .hp 2 0), (5, .hp 3 0), (6, aI64 0)] [.own (api_Int.c v1), .own (api_Int.c v3), .own (api_Int.c v8), .own (api_Int.c v26), .own (api_Int.c v8)] <| .ret ?_
   obtain rfl := oi hr
   exact FinQ.ret (vs := [.agg (api_Int.c v8), .agg (api_Int.c v26), aI64 0]) (by kernel_rfl) (Sn.tup (SnL.cons (Sn.pure rfl) (SnL.cons (Sn.pure rfl) (SnL.cons (Sn.pure rfl) SnL.nil))))

theorem fiducialref02_reduced_ok (n : Nat) (num : api_Int) (den : api_Int) (r : api_Rat) (hr : fiducialref02_reduced n num den = some r) : FnOk Tryz.prog 92 [.agg (api_Int.c num), .agg (api_Int.c den)] (.agg (api_Rat.c r)) := by
 unfold fiducialref02_reduced at hr
 refine FnOk.bd fine Tryz.func92 [.cell 4 40] ?_
 unfold Tryz.f92
 simp only [Option.getD_some]
 refine .seq <| .r2 fine 37 [(2, .hp 0 0), (3, .hp 1 0), (4, .hp 2 0)] [.own (api_Int.c num), .own (api_Int.c den), .own [aB false, nS, aB false, nS]] <| .seq ?_
 obtain ⟨v1, hc2, hr⟩ := bd hr
 refine .g1 fine (ok0 (fiducialref01_Gcd_ok n num den v1 hc2)) <| .mu 2 <| .ca cf0 <| .mu 2 <| .done <| .n2 37 [(2, .hp 0 0), (3, .hp 1 0), (4, .hp 2 0), (5, .hp 3 0)] [.own (api_Int.c num), .own (api_Int.c den), .own [aB false, nS, aB false, nS], .own (api_Int.c v1)] <| .seq <| .seq ?_
 obtain ⟨v3, hc4, hr⟩ := bd hr
 refine .g1 fine (ok0 (fiducialref01_Sign_ok n den v3 hc4)) <| .mu 1 <| .ca cf0 <| .mu 1 <| .done <| .n2 37 [(2, .hp 0 0), (3, .hp 1 0), (4, .hp 2 0), (5, .hp 3 0), (17, aB (decide (v3 < 0)))] [.own (api_Int.c num), .own (api_Int.c den), .own [aB false, nS, aB false, nS], .own (api_Int.c v1)] ?_
 refine .cd hr (fun hb5 hr => ?_) (fun hb5 hr => ?_)
 ·obtain ⟨v6, hc7, hr⟩ := bd hr
  refine .g1 fine (ok0 (fiducialref01_Neg_ok n v1 v6 hc7)) <| .mu 1 <| .ca cf0 <| .mu 1 <| .done <| .n2 37 [(2, .hp 0 0), (3, .hp 1 0), (4, .hp 2 0), (5, .hp 3 0)] [.own (api_Int.c num), .own (api_Int.c den), .own [aB false, nS, aB false, nS], .own (api_Int.c v6)] <| .seq ?_
  obtain ⟨v8, hc9, hr⟩ := bd hr
  refine .g1 fine (ok0 (fiducialref01_Divide_ok n num v6 v8 hc9)) <| .mu 2 <| .ca cf0 <| .mu 9 <| .done <| .n2 37 [(3, .hp 1 0), (4, .hp 2 0), (5, .hp 3 0), (6, .hp 4 0)] [.own (api_Int.c num), .own (api_Int.c den), .own [aB false, nS, aB false, nS], .own (api_Int.c v6), .own (api_Int.c v8.1), .own (api_Int.c v8.2.1)] <| .seq ?_
  obtain ⟨v10, hc11, hr⟩ := bd hr
  refine .g1 fine (ok0 (fiducialref01_Divide_ok n den v6 v10 hc11)) <| .mu 2 <| .ca cf0 <| .mu 9 <| .done <| .n2 37 [(4, .hp 2 0), (6, .hp 4 0), (9, .hp 6 0)] [.own (api_Int.c num), .own (api_Int.c den), .own [aB false, nS, aB false, nS], .own (api_Int.c v6), .own (api_Int.c v8.1), .own (api_Int.c v8.2.1), .own (api_Int.c v10.1), .own (api_Int.c v10.2.1)] <| .seq <| .r2 fine 37 [(4, .hp 2 0)] [.own (api_Int.c num), .own (api_Int.c den), .own [aB v8.1.Negative, sU32 v8.1.Groups, aB v10.1.Negative, sU32 v10.1.Groups], .own (api_Int.c v6), .own (api_Int.c v8.1), .own (api_Int.c v8.2.1), .own (api_Int.c v10.1), .own (api_Int.c v10.2.1)] <| .ret ?_
  obtain rfl := oi hr
  exact FinQ.r1 [.agg [aB v8.1.Negative, sU32 v8.1.Groups, aB v10.1.Negative, sU32 v10.1.Groups]]
 ·refine .skip <| .seq ?_
  obtain ⟨v12, hc13, hr⟩ := bd hr
  refine .g1 fine (ok0 (fiducialref01_Divide_ok n num v1 v12 hc13)) <| .mu 2 <| .ca cf0 <| .mu 9 <| .done <| .n2 37 [(3, .hp 1 0), (4, .hp 2 0), (5, .hp 3 0), (6, .hp 4 0)] [.own (api_Int.c num), .own (api_Int.c den), .own [aB false, nS, aB false, nS], .own (api_Int.c v1), .own (api_Int.c v12.1), .own (api_Int.c v12.2.1)] <| .seq ?_
  obtain ⟨v14, hc15, hr⟩ := bd hr
  refine .g1 fine (ok0 (fiducialref01_Divide_ok n den v1 v14 hc15)) <| .mu 2 <| .ca cf0 <| .mu 9 <| .done <| .n2 37 [(4, .hp 2 0), (6, .hp 4 0), (9, .hp 6 0)] [.own (api_Int.c num), .own (api_Int.c den), .own [aB false, nS, aB false, nS], .own (api_Int.c v1), .own (api_Int.c v12.1), .own (api_Int.c v12.2.1), .own (api_Int.c v14.1), .own (api_Int.c v14.2.1)] <| .seq <| .r2 fine 37 [(4, .hp 2 0)] [.own (api_Int.c num), .own (api_Int.c den), .own [aB v12.1.Negative, sU32 v12.1.Groups, aB v14.1.Negative, sU32 v14.1.Groups], .own (api_Int.c v1), .own (api_Int.c v12.1), .own (api_Int.c v12.2.1), .own (api_Int.c v14.1), .own (api_Int.c v14.2.1)] <| .ret ?_
  obtain rfl := oi hr
  exact FinQ.r1 [.agg [aB v12.1.Negative, sU32 v12.1.Groups, aB v14.1.Negative, sU32 v14.1.Groups]]

theorem fiducialref02_New_ok (n : Nat) (num : api_Int) (den : api_Int) (r : api_Rat × Int) (hr : fiducialref02_New n num den = some r) : FnOk Tryz.prog 81 [.agg (api_Int.c num), .agg (api_Int.c den)] (.tup [.agg (api_Rat.c r.1), aI64 r.2]) := by
 unfold fiducialref02_New at hr
 refine FnOk.bd fine Tryz.func81 [.cell 4 40, .tmp 5] ?_
 unfold Tryz.f81
 simp only [Option.getD_some]
 refine .seq <| .r2 fine 13 [(2, .hp 0 0), (3, .hp 1 0), (4, .hp 2 0)] [.own (api_Int.c num), .own (api_Int.c den), .own [aB false, nS, aB false, nS]] <| .seq <| .seq ?_
 obtain ⟨v1, hc2, hr⟩ := bd hr
 refine .g1 fine (ok0 (fiducialref01_Sign_ok n den v1 hc2)) <| .mu 1 <| .ca cf0 <| .mu 1 <| .done <| .n2 13 [(2, .hp 0 0), (3, .hp 1 0), (4, .hp 2 0), (8, aB ((v1 : Int) == 0))] [.own (api_Int.c num), .own (api_Int.c den), .own [aB false, nS, aB false, nS]] ?_
 refine .cd hr (fun hb3 hr => ?_) (fun hb3 hr => ?_)
 ·refine .seq <| .r3 fine 13 [(4, .hp 2 0), (5, aI64 14)] <| .ret ?_
  obtain rfl := oi hr
  exact FinQ.ret (vs := [.agg [aB false, nS, aB false, nS], aI64 14]) (by kernel_rfl) (Sn.tup (SnL.cons (Sn.agg (SnL.cons (Sn.pure rfl) (SnL.cons Sn.nilsl (SnL.cons (Sn.pure rfl) (SnL.cons Sn.nilsl SnL.nil))))) (SnL.cons (Sn.pure rfl) SnL.nil)))
 ·refine .skip <| .seq ?_
  obtain ⟨v4, hc5, hr⟩ := bd hr
  refine .g1 fine (ok0 (fiducialref02_reduced_ok n num den v4 hc5)) <| .mu 2 <| .ca cf0 <| .mu 2 <| .done <| .n2 13 [(4, .hp 2 0), (5, aI64 0)] [.own (api_Int.c num), .own (api_Int.c den), .own (api_Rat.c v4)] <| .ret ?_
  obtain rfl := oi hr
  exact FinQ.ret (vs := [.agg (api_Rat.c v4), aI64 0]) (by kernel_rfl) (Sn.tup (SnL.cons (Sn.pure rfl) (SnL.cons (Sn.pure rfl) SnL.nil)))

theorem fiducialref02_Of_ok (n : Nat) (n' : Int) (d : Int) (r : api_Rat × Int) (hr : fiducialref02_Of n n' d = some r) : FnOk Tryz.prog 43 [aI64 n', aI64 d] (.tup [.agg (api_Rat.c r.1), aI64 r.2]) := by
 unfold fiducialref02_Of at hr
 refine FnOk.bd fine Tryz.func43 [.cell 4 40, .tmp 5] ?_
 unfold Tryz.f43
 simp only [Option.getD_some]
 refine .seq <| .r2 fine 13 [(0, aI64 n'), (1, aI64 d), (4, .hp 0 0)] [.own [aB false, nS, aB false, nS]] <| .seq ?_
 obtain ⟨v1, hc2, v3, hc4, v5, hc6, hr⟩ := bd3 hr
 refine .gn fine (ca1 (ok0 (fiducialref02_whole_ok n n' v1 hc2)) (ca1 (ok0 (fiducialref02_whole_ok n d v3 hc4)) (ca3 (ok0 (fiducialref02_New_ok n v1 v3 v5 hc6))))) <| .mu 1 <| .ca cf0 <| .mu 1 <| .ca (cfA (fun h => by rw [sv hc4 hc2 (fiducialref02_whole_cg n h)]) cf0) <| .ca (cfF (cfF cf0)) <| .mu 4 <| .done <| .n2 13 [(4, .hp 0 0), (5, aI64 v5.2)] [.own (api_Rat.c v5.1)] <| .ret ?_
 obtain rfl := oi hr
 exact FinQ.ret (vs := [.agg (api_Rat.c v5.1), aI64 v5.2]) (by kernel_rfl) (Sn.tup (SnL.cons (Sn.pure rfl) (SnL.cons (Sn.pure rfl) SnL.nil)))

theorem fiduciallaw55_size_ok (n : Nat) (s : api_Survey) (height : Int) (ground : Int) (r : api_Rat × api_Rat) (hr : fiduciallaw55_size n s height ground = some r) : FnOk Tryz.prog 17 [.agg (api_Survey.c s), aI64 height, aI64 ground] (.tup [.agg (api_Rat.c r.1), .agg (api_Rat.c r.2)]) := by
 unfold fiduciallaw55_size at hr
 refine FnOk.bd fine Tryz.func17 [.cell 6 40, .cell 7 40] ?_
 unfold Tryz.f17
 simp only [Option.getD_some]
 refine .seq <| .r2 fine 38 [(1, aI64 height), (2, aI64 ground), (3, .hp 0 0), (6, .hp 1 0), (7, .hp 2 0)] [.own (api_Survey.c s), .own [aB false, nS, aB false, nS], .own [aB false, nS, aB false, nS]] <| .seq ?_
 obtain ⟨v1, hc2, hr⟩ := bd hr
 refine .g1 fine (ok0 (fiducialref02_Of_ok n (wrapF .i64 (s.Along * (wrapF .i64 (height - ground)))) s.Focal v1 hc2)) <| .mu 8 <| .ca cf0 <| .mu 6 <| .done <| .n2 38 [(1, aI64 height), (2, aI64 ground), (3, .hp 0 0), (6, .hp 1 0), (7, .hp 2 0), (8, .hp 3 0)] [.own (api_Survey.c s), .own [aB false, nS, aB false, nS], .own [aB false, nS, aB false, nS], .own (api_Rat.c v1.1)] <| .seq ?_
 obtain ⟨v3, hc4, hr⟩ := bd hr
 refine .g1 fine (ok0 (fiducialref02_Of_ok n (wrapF .i64 (s.Across * (wrapF .i64 (height - ground)))) s.Focal v3 hc4)) <| .mu 8 <| .ca cf0 <| .mu 6 <| .done <| .n2 38 [(6, .hp 1 0), (7, .hp 2 0), (8, .hp 3 0), (10, .hp 4 0)] [.own (api_Survey.c s), .own [aB false, nS, aB false, nS], .own [aB false, nS, aB false, nS], .own (api_Rat.c v1.1), .own (api_Rat.c v3.1)] <| .seq <| .regionT fine callOf_nil <| .mu 4 ?_
 refine .done ⟨by kernel_rfl, ?_⟩
 refine .n2 38 [(6, .hp 1 0), (7, .hp 2 0)] [.own (api_Survey.c s), .own (api_Rat.c v1.1), .own (api_Rat.c v3.1), .own (api_Rat.c v1.1), .own (api_Rat.c v3.1)] <| .ret ?_
 obtain rfl := oi hr
 exact FinQ.ret (vs := [.agg (api_Rat.c v1.1), .agg (api_Rat.c v3.1)]) (by kernel_rfl) (Sn.tup (SnL.cons (Sn.pure rfl) (SnL.cons (Sn.pure rfl) SnL.nil)))

theorem fiducialref02_Divide_ok (n : Nat) (x' : api_Rat) (y : api_Rat) (r : api_Rat × Int) (hr : fiducialref02_Divide n x' y = some r) : FnOk Tryz.prog 102 [.agg (api_Rat.c x'), .agg (api_Rat.c y)] (.tup [.agg (api_Rat.c r.1), aI64 r.2]) := by
 unfold fiducialref02_Divide at hr
 refine FnOk.bd fine Tryz.func102 [.cell 4 40, .tmp 5] ?_
 unfold Tryz.f102
 simp only [Option.getD_some]
 refine .seq <| .r2 fine 25 [(2, .hp 0 0), (3, .hp 1 0), (4, .hp 2 0)] [.own (api_Rat.c x'), .own (api_Rat.c y), .own [aB false, nS, aB false, nS]] <| .seq ?_
 obtain ⟨v1, hc2, hr⟩ := bd hr
 refine .g1 fine (ok0 (fiducialref02_Value_ok n x' v1 hc2)) <| .mu 1 <| .ca cf0 <| .mu 2 <| .done <| .n2 25 [(3, .hp 1 0), (4, .hp 2 0), (6, .hp 3 0)] [.own (api_Rat.c x'), .own (api_Rat.c y), .own [aB false, nS, aB false, nS], .own (api_Rat.c v1)] <| .seq ?_
 obtain ⟨v3, hc4, hr⟩ := bd hr
 refine .g1 fine (ok0 (fiducialref02_Value_ok n y v3 hc4)) <| .mu 1 <| .ca cf0 <| .mu 2 <| .done <| .n2 25 [(4, .hp 2 0), (6, .hp 3 0), (7, .hp 4 0)] [.own (api_Rat.c x'), .own (api_Rat.c y), .own [aB false, nS, aB false, nS], .own (api_Rat.c v1), .own (api_Rat.c v3)] <| .seq ?_
 obtain ⟨v5, hc6, v7, hc8, v9, hc10, hr⟩ := bd3 hr
 refine .tn fine (ca1 (ok0 (fiducialref01_Mul_ok n v1.Num v3.Den v5 hc6)) (ca1 (ok0 (fiducialref01_Mul_ok n v1.Den v3.Num v7 hc8)) (ca3 (ok0 (fiducialref02_New_ok n v5 v7 v9 hc10))))) <| .mu 4 <| .ca cf0 <| .mu 4 <| .ca (cfA (fun h => by rw [sv hc8 hc6 (fiducialref01_Mul_cg n h)]) cf0) <| .ca (cfF (cfF cf0)) <| .mu 4 ?_
 refine .done ⟨by kernel_rfl, ?_⟩
 refine .n2 25 [(4, .hp 2 0), (5, aI64 v9.2)] [.own (api_Rat.c x'), .own (api_Rat.c y), .own (api_Rat.c v9.1), .own (api_Rat.c v1), .own (api_Rat.c v3)] <| .ret ?_
 obtain rfl := oi hr
 exact FinQ.ret (vs := [.agg (api_Rat.c v9.1), aI64 v9.2]) (by kernel_rfl) (Sn.tup (SnL.cons (Sn.pure rfl) (SnL.cons (Sn.pure rfl) SnL.nil)))

theorem fiducialref02_Neg_ok (n : Nat) (x' : api_Rat) (r : api_Rat) (hr : fiducialref02_Neg n x' = some r) : FnOk Tryz.prog 106 [.agg (api_Rat.c x')] (.agg (api_Rat.c r)) := by
 unfold fiducialref02_Neg at hr
 refine FnOk.bd fine Tryz.func106 [.cell 2 40] ?_
 unfold Tryz.f106
 simp only [Option.getD_some]
 refine .seq <| .r2 fine 12 [(1, .hp 0 0), (2, .hp 1 0)] [.own (api_Rat.c x'), .own [aB false, nS, aB false, nS]] <| .seq ?_
 obtain ⟨v1, hc2, hr⟩ := bd hr
 refine .g1 fine (ok0 (fiducialref02_Value_ok n x' v1 hc2)) <| .mu 1 <| .ca cf0 <| .mu 2 <| .done <| .n2 12 [(2, .hp 1 0), (3, .hp 2 0)] [.own (api_Rat.c x'), .own [aB false, nS, aB false, nS], .own (api_Rat.c v1)] <| .seq ?_
 obtain ⟨v3, hc4, hr⟩ := bd hr
 refine .t1 fine (ok0 (fiducialref01_Neg_ok n v1.Num v3 hc4)) <| .mu 2 <| .ca cf0 <| .mu 4 ?_
 refine .done ⟨by kernel_rfl, ?_⟩
 refine .n2 12 [(2, .hp 1 0)] [.own (api_Rat.c x'), .own [aB v3.Negative, sU32 v3.Groups, aB v1.Den.Negative, sU32 v1.Den.Groups], .own (api_Rat.c v1)] <| .ret ?_
 obtain rfl := oi hr
 exact FinQ.r1 [.agg [aB v3.Negative, sU32 v3.Groups, aB v1.Den.Negative, sU32 v1.Den.Groups]]

theorem fiducialref02_Add_ok (n : Nat) (x' : api_Rat) (y : api_Rat) (r : api_Rat) (hr : fiducialref02_Add n x' y = some r) : FnOk Tryz.prog 91 [.agg (api_Rat.c x'), .agg (api_Rat.c y)] (.agg (api_Rat.c r)) := by
 unfold fiducialref02_Add at hr
 refine FnOk.bd fine Tryz.func91 [.cell 4 40] ?_
 unfold Tryz.f91
 simp only [Option.getD_some]
 refine .seq <| .r2 fine 28 [(2, .hp 0 0), (3, .hp 1 0), (4, .hp 2 0)] [.own (api_Rat.c x'), .own (api_Rat.c y), .own [aB false, nS, aB false, nS]] <| .seq ?_
 obtain ⟨v1, hc2, hr⟩ := bd hr
 refine .g1 fine (ok0 (fiducialref02_Value_ok n x' v1 hc2)) <| .mu 1 <| .ca cf0 <| .mu 2 <| .done <| .n2 28 [(3, .hp 1 0), (4, .hp 2 0), (5, .hp 3 0)] [.own (api_Rat.c x'), .own (api_Rat.c y), .own [aB false, nS, aB false, nS], .own (api_Rat.c v1)] <| .seq ?_
 obtain ⟨v3, hc4, hr⟩ := bd hr
 refine .g1 fine (ok0 (fiducialref02_Value_ok n y v3 hc4)) <| .mu 1 <| .ca cf0 <| .mu 2 <| .done <| .n2 28 [(4, .hp 2 0), (5, .hp 3 0), (6, .hp 4 0)] [.own (api_Rat.c x'), .own (api_Rat.c y), .own [aB false, nS, aB false, nS], .own (api_Rat.c v1), .own (api_Rat.c v3)] <| .seq ?_
 obtain ⟨v5, hc6, v7, hc8, v9, hc10, hr⟩ := bd3 hr
 obtain ⟨v11, hc12, v13, hc14, hr⟩ := bd2 hr
 refine .tn fine (ca1 (ok0 (fiducialref01_Mul_ok n v1.Num v3.Den v5 hc6)) (ca1 (ok0 (fiducialref01_Mul_ok n v3.Num v1.Den v7 hc8)) (ca1 (ok0 (fiducialref01_Add_ok n v5 v7 v9 hc10)) (ca1 (ok0 (fiducialref01_Mul_ok n v1.Den v3.Den v11 hc12)) (ca3 (ok0 (fiducialref02_reduced_ok n v9 v11 v13 hc14))))))) <| .mu 4 <| .ca cf0 <| .mu 4 <| .ca (cfA (fun h => by rw [sv hc8 hc6 (fiducialref01_Mul_cg n h)]) cf0) <| .ca (cfF (cfF cf0)) <| .mu 4 <| .ca (cfA (fun h => by rw [sv hc12 hc6 (fiducialref01_Mul_cg n h)]) (cfA (fun h => by rw [sv hc12 hc8 (fiducialref01_Mul_cg n h)]) (cfF cf0))) <| .ca (cfF (cfF (cfF (cfF cf0)))) <| .mu 1 ?_
 refine .done ⟨by kernel_rfl, ?_⟩
 refine .n2 28 [(4, .hp 2 0)] [.own (api_Rat.c x'), .own (api_Rat.c y), .own (api_Rat.c v13), .own (api_Rat.c v1), .own (api_Rat.c v3)] <| .ret ?_
 obtain rfl := oi hr
 exact FinQ.r1 [.agg (api_Rat.c v13)]

theorem fiducialref02_Sub_ok (n : Nat) (x' : api_Rat) (y : api_Rat) (r : api_Rat) (hr : fiducialref02_Sub n x' y = some r) : FnOk Tryz.prog 83 [.agg (api_Rat.c x'), .agg (api_Rat.c y)] (.agg (api_Rat.c r)) := by
 unfold fiducialref02_Sub at hr
 refine FnOk.bd fine Tryz.func83 [.cell 4 40] ?_
 unfold Tryz.f83
 simp only [Option.getD_some]
 refine .seq <| .r2 fine 9 [(2, .hp 0 0), (3, .hp 1 0), (4, .hp 2 0)] [.own (api_Rat.c x'), .own (api_Rat.c y), .own [aB false, nS, aB false, nS]] <| .seq ?_
 obtain ⟨v1, hc2, v3, hc4, hr⟩ := bd2 hr
 refine .tn fine (ca1 (ok0 (fiducialref02_Neg_ok n y v1 hc2)) (ca3 (ok0 (fiducialref02_Add_ok n x' v1 v3 hc4)))) <| .mu 2 <| .ca cf0 <| .ca (cfF cf0) <| .mu 1 ?_
 refine .done ⟨by kernel_rfl, ?_⟩
 refine .n2 9 [(4, .hp 2 0)] [.own (api_Rat.c x'), .own (api_Rat.c y), .own (api_Rat.c v3)] <| .ret ?_
 obtain rfl := oi hr
 exact FinQ.r1 [.agg (api_Rat.c v3)]

theorem fiduciallaw55_overlap_ok (n : Nat) (l : List Int) (length : api_Rat) (r : api_Rat) (hr : fiduciallaw55_overlap n l length = some r) : FnOk Tryz.prog 79 [sI64 l, .agg (api_Rat.c length)] (.agg (api_Rat.c r)) := by
 unfold fiduciallaw55_overlap at hr
 refine FnOk.bd fine Tryz.func79 [.cell 4 40] ?_
 unfold Tryz.f79
 simp only [Option.getD_some]
 refine .seq <| .r2 fine 32 [(0, sI64 l), (3, .hp 0 0), (4, .hp 1 0)] [.own (api_Rat.c length), .own [aB false, nS, aB false, nS]] <| .seq <| .r3 fine 32 [(0, sI64 l), (3, .hp 0 0), (4, .hp 1 0), (5, aI64 0)] <| .seq <| .seq <| .r3 fine 32 [(3, .hp 0 0), (4, .hp 1 0), (5, aI64 0), (10, sI64 l), (11, aI64 (l.length : Int)), (12, aI64 0)] <| .block ?_
 replace hr := bd hr; obtain ⟨top_16, hL21, hr⟩ := hr
 refine .loopO (σ := fun z0 => match z0 with | (top_12, x_13) => ⟨mkS 32 0 [(3, .hp 0 0), (4, .hp 1 0), (5, aI64 top_12), (10, sI64 l), (11, aI64 (l.length : Int)), (12, aI64 x_13)], [.own (api_Rat.c length), .own [aB false, nS, aB false, nS]]⟩) (Q := fun x st' => x = .exit 0 ∧ Wk 0 st' ⟨mkS 32 0 [(3, .hp 0 0), (4, .hp 1 0), (5, aI64 top_16)], [.own (api_Rat.c length), .own [aB false, nS, aB false, nS]]⟩) hL21 ((Wk.gc [3, 4, 5, 10, 11, 12] [(0, true), (1, true)] rfl trivial).to (by kernel_rfl)) ?_ ?_
 ·clear hr
  rintro m ⟨top_12, x_13⟩ hr
  show CQ _ _ _ _ _ ⟨_, _⟩
  refine .seq <| .r3 fine 32 [(3, .hp 0 0), (4, .hp 1 0), (5, aI64 top_12), (10, sI64 l), (11, aI64 (l.length : Int)), (12, aI64 x_13), (13, aB (decide (x_13 < (l.length : Int))))] <| .seq ?_
  refine .cd hr (fun hb18 hr => ?_) (fun hb18 hr => ?_)
  ·refine .skip <| .seq <| .block <| .seq ?_
   obtain ⟨hg19, hr⟩ := gd hr
   refine .r0 fine <| .p0 (v := .pp (l.flatMap (iC .i64)) (x_13.toNat * 1)) (tr (ofP_guard hg19)) <| .p0 (v := aI64 (gt l x_13)) (tr (ofP_some (flat_get (iC_len .i64) (inR_lt hg19) (by decide : 0 < 1) (by omega : x_13.toNat * 1 = x_13.toNat * 1 + 0) (by kernel_rfl)))) <| .mu 1 <| .done <| .n2 32 [(3, .hp 0 0), (4, .hp 1 0), (5, aI64 top_12), (7, aI64 (gt l x_13)), (10, sI64 l), (11, aI64 (l.length : Int)), (12, aI64 x_13)] [.own (api_Rat.c length), .own [aB false, nS, aB false, nS]] <| .r0 fine <| .mu 3 <| .p0 (v := aI64 (wrapF .i64 (0 - (gt l x_13)))) (Eq.trans (b := some (.pure (aI64 (IntKind.wrap .i64 (0 - (gt l x_13)))))) (by kernel_rfl) wrap_at) <| .mu 2 <| .done <| .pop <| .ru fine ?_
   exact loopF_back (mx (mx top_12 (gt l x_13)) (wrapF .i64 (0 - (gt l x_13))), wrapF .i64 (x_13 + 1)) hr ((Wk.gc [3, 4, 5, 10, 11, 12] [(0, true), (1, true)] rfl trivial).to (by kernel_rfl))
  ·refine .leave rfl ?_
   obtain rfl := oi hr
   exact ⟨rfl, ((Wk.gc [3, 4, 5] [(0, true), (1, true)] rfl trivial).to (by kernel_rfl))⟩
 ·rintro x st' hq22
  clear hL21
  obtain ⟨rfl, hq22⟩ := hq22
  refine CQ_exit _ rfl <| .wk hq22 <| .seq ?_
  obtain ⟨v23, hc24, v25, hc26, hr⟩ := bd2 hr
  refine .tn fine (ca1 (ok0 (fiducialref02_Whole_ok n top_16 v23 hc24)) (ca3 (ok0 (fiducialref02_Divide_ok n v23 length v25 hc26)))) <| .mu 1 <| .ca cf0 <| .mu 1 <| .ca (cfF cf0) <| .mu 6 ?_
  refine .done ⟨by kernel_rfl, ?_⟩
  refine .n2 32 [(4, .hp 1 0), (8, .hp 2 0)] [.own (api_Rat.c length), .own [aB false, nS, aB false, nS], .own (api_Rat.c v25.1)] <| .seq ?_
  obtain ⟨v27, hc28, v29, hc30, hr⟩ := bd2 hr
  refine .tn fine (ca1 (ok0 (fiducialref02_Whole_ok n 1 v27 hc28)) (ca3 (ok0 (fiducialref02_Sub_ok n v27 v25.1 v29 hc30)))) <| .ca cf0 <| .mu 1 <| .ca (cfF cf0) <| .mu 1 ?_
  refine .done ⟨by kernel_rfl, ?_⟩
  refine .n2 32 [(4, .hp 1 0)] [.own (api_Rat.c length), .own (api_Rat.c v29), .own (api_Rat.c v25.1)] <| .ret ?_
  obtain rfl := oi hr
  exact FinQ.r1 [.agg (api_Rat.c v29)]

theorem fiduciallaw55_overlaps_ok (n : Nat) (s : api_Survey) (f : api_Flight) (ground : Int) (r : api_Rat × api_Rat) (hr : fiduciallaw55_overlaps n s f ground = some r) : FnOk Tryz.prog 41 [.agg (api_Survey.c s), .agg (api_Flight.c f), aI64 ground] (.tup [.agg (api_Rat.c r.1), .agg (api_Rat.c r.2)]) := by
 unfold fiduciallaw55_overlaps at hr
 refine FnOk.bd fine Tryz.func41 [.cell 6 40, .cell 7 40] ?_
 unfold Tryz.f41
 simp only [Option.getD_some]
 refine .seq <| .r2 fine 80 [(2, aI64 ground), (3, .hp 0 0), (4, .hp 1 0), (6, .hp 2 0), (7, .hp 3 0)] [.own (api_Survey.c s), .own (api_Flight.c f), .own [aB false, nS, aB false, nS], .own [aB false, nS, aB false, nS]] <| .seq ?_
 obtain ⟨v1, hc2, hr⟩ := bd hr
 refine .g1 fine (ok0 (fiduciallaw55_size_ok n s f.Height ground v1 hc2)) <| .mu 4 <| .ca cf0 <| .mu 7 <| .done <| .n2 80 [(4, .hp 1 0), (6, .hp 2 0), (7, .hp 3 0), (8, .hp 4 0), (9, .hp 5 0)] [.own (api_Survey.c s), .own (api_Flight.c f), .own [aB false, nS, aB false, nS], .own [aB false, nS, aB false, nS], .own (api_Rat.c v1.1), .own (api_Rat.c v1.2)] <| .seq <| .r2 fine 80 [(4, .hp 1 0), (6, .hp 2 0), (7, .hp 3 0), (8, .hp 4 0), (9, .hp 5 0), (10, .hs 6 0 0 1), (11, .hs 7 0 0 1)] [.own (api_Survey.c s), .own (api_Flight.c f), .own [aB false, nS, aB false, nS], .own [aB false, nS, aB false, nS], .own (api_Rat.c v1.1), .own (api_Rat.c v1.2), .own [], .own []] <| .seq <| .seq <| .r3 fine 80 [(4, .hp 1 0), (6, .hp 2 0), (7, .hp 3 0), (8, .hp 4 0), (9, .hp 5 0), (10, .hs 6 0 0 1), (11, .hs 7 0 0 1), (26, slT (slC api_Pix.c) f.Strips), (27, aI64 (f.Strips.length : Int)), (28, aI64 0)] <| .block ?_
 replace hr := bd hr; obtain ⟨o103, hL104, hr⟩ := hr
 refine .loopO (σ := fun z0 => match z0 with | (xs_3, ys_4, x_5) => ⟨mkS 80 0 [(4, .hp 0 0), (6, .hp 1 0), (7, .hp 2 0), (8, .hp 3 0), (9, .hp 4 0), (10, .hs 5 0 xs_3.length 1), (11, .hs 6 0 ys_4.length 1), (26, slT (slC api_Pix.c) f.Strips), (27, aI64 (f.Strips.length : Int)), (28, aI64 x_5)], [.own (api_Flight.c f), .own [aB false, nS, aB false, nS], .own [aB false, nS, aB false, nS], .own (api_Rat.c v1.1), .own (api_Rat.c v1.2), .own (xs_3.flatMap (iC .i64)), .own (ys_4.flatMap (iC .i64))]⟩) (Q := fun x st' => match (generalizing := false) o103 with | (xs_53, ys_54) => x = .exit 0 ∧ Wk 0 st' ⟨mkS 80 0 [(6, .hp 0 0), (7, .hp 1 0), (8, .hp 2 0), (9, .hp 3 0), (10, .hs 4 0 xs_53.length 1), (11, .hs 5 0 ys_54.length 1)], [.own [aB false, nS, aB false, nS], .own [aB false, nS, aB false, nS], .own (api_Rat.c v1.1), .own (api_Rat.c v1.2), .own (xs_53.flatMap (iC .i64)), .own (ys_54.flatMap (iC .i64))]⟩) hL104 ((Wk.gc [4, 6, 7, 8, 9, 10, 11, 26, 27, 28] [(1, true), (2, true), (3, true), (4, true), (5, true), (6, false), (7, false)] rfl (pKt (pKt (pKt (pKt (pKt (pKc (pKc trivial)))))))).to (by kernel_rfl)) ?_ ?_
 ·clear hr
  rintro m ⟨xs_3, ys_4, x_5⟩ hr
  show CQ _ _ _ _ _ ⟨_, _⟩
  refine .seq <| .r3 fine 80 [(4, .hp 0 0), (6, .hp 1 0), (7, .hp 2 0), (8, .hp 3 0), (9, .hp 4 0), (10, .hs 5 0 xs_3.length 1), (11, .hs 6 0 ys_4.length 1), (26, slT (slC api_Pix.c) f.Strips), (27, aI64 (f.Strips.length : Int)), (28, aI64 x_5), (29, aB (decide (x_5 < (f.Strips.length : Int))))] <| .seq ?_
  refine .cd hr (fun hb57 hr => ?_) (fun hb57 hr => ?_)
  ·refine .skip <| .seq <| .block <| .seq ?_
   obtain ⟨hg58, hr⟩ := gd hr
   refine .r0 fine <| .mu 1 <| .p0 (v := .pp (f.Strips.flatMap (slC api_Pix.c)) (x_5.toNat * 1)) (tr (ofP_guard hg58)) <| .p0 (v := slT api_Pix.c (gt f.Strips x_5)) (tr (ofP_some (flat_get (slC_len api_Pix.c) (inR_lt hg58) (by decide : 0 < 1) (by omega : x_5.toNat * 1 = x_5.toNat * 1 + 0) (by kernel_rfl)))) <| .mu 2 <| .done <| .n2 80 [(4, .hp 0 0), (6, .hp 1 0), (7, .hp 2 0), (8, .hp 3 0), (9, .hp 4 0), (10, .hs 5 0 xs_3.length 1), (11, .hs 6 0 ys_4.length 1), (12, aI64 x_5), (13, slT api_Pix.c (gt f.Strips x_5)), (26, slT (slC api_Pix.c) f.Strips), (27, aI64 (f.Strips.length : Int)), (28, aI64 x_5)] [.own (api_Flight.c f), .own [aB false, nS, aB false, nS], .own [aB false, nS, aB false, nS], .own (api_Rat.c v1.1), .own (api_Rat.c v1.2), .own (xs_3.flatMap (iC .i64)), .own (ys_4.flatMap (iC .i64))] <| .seq <| .seq <| .r3 fine 80 [(4, .hp 0 0), (6, .hp 1 0), (7, .hp 2 0), (8, .hp 3 0), (9, .hp 4 0), (10, .hs 5 0 xs_3.length 1), (11, .hs 6 0 ys_4.length 1), (12, aI64 x_5), (13, slT api_Pix.c (gt f.Strips x_5)), (14, aI64 1), (26, slT (slC api_Pix.c) f.Strips), (27, aI64 (f.Strips.length : Int)), (28, aI64 x_5)] <| .block ?_
   replace hr := bd hr; obtain ⟨xs_86, hL95, hr⟩ := hr
   refine .loopO (σ := fun z0 => match z0 with | (xs_78, k_79) => ⟨mkS 80 0 [(4, .hp 0 0), (6, .hp 1 0), (7, .hp 2 0), (8, .hp 3 0), (9, .hp 4 0), (10, .hs 5 0 xs_78.length 1), (11, .hs 6 0 ys_4.length 1), (12, aI64 x_5), (13, slT api_Pix.c (gt f.Strips x_5)), (14, aI64 k_79), (26, slT (slC api_Pix.c) f.Strips), (27, aI64 (f.Strips.length : Int)), (28, aI64 x_5)], [.own (api_Flight.c f), .own [aB false, nS, aB false, nS], .own [aB false, nS, aB false, nS], .own (api_Rat.c v1.1), .own (api_Rat.c v1.2), .own (xs_78.flatMap (iC .i64)), .own (ys_4.flatMap (iC .i64))]⟩) (Q := fun x st' => x = .exit 2 ∧ Wk 0 st' ⟨mkS 80 0 [(4, .hp 0 0), (6, .hp 1 0), (7, .hp 2 0), (8, .hp 3 0), (9, .hp 4 0), (10, .hs 5 0 xs_86.length 1), (11, .hs 6 0 ys_4.length 1), (12, aI64 x_5), (13, slT api_Pix.c (gt f.Strips x_5)), (26, slT (slC api_Pix.c) f.Strips), (27, aI64 (f.Strips.length : Int)), (28, aI64 x_5)], [.own (api_Flight.c f), .own [aB false, nS, aB false, nS], .own [aB false, nS, aB false, nS], .own (api_Rat.c v1.1), .own (api_Rat.c v1.2), .own (xs_86.flatMap (iC .i64)), .own (ys_4.flatMap (iC .i64))]⟩) hL95 ((Wk.gc [4, 6, 7, 8, 9, 10, 11, 12, 13, 14, 26, 27, 28] [(0, true), (1, true), (2, true), (3, true), (4, true), (5, false), (6, false)] rfl (pKt (pKt (pKt (pKt (pKt (pKo (iC .i64) (iC_pure _) xs_3 (pKo (iC .i64) (iC_pure _) ys_4 trivial)))))))).to (by kernel_rfl)) ?_ ?_
   ·clear hr
    rintro m ⟨xs_78, k_79⟩ hr
    show CQ _ _ _ _ _ ⟨_, _⟩
    refine .seq <| .seq <| .r3 fine 80 [(4, .hp 0 0), (6, .hp 1 0), (7, .hp 2 0), (8, .hp 3 0), (9, .hp 4 0), (10, .hs 5 0 xs_78.length 1), (11, .hs 6 0 ys_4.length 1), (12, aI64 x_5), (13, slT api_Pix.c (gt f.Strips x_5)), (14, aI64 k_79), (26, slT (slC api_Pix.c) f.Strips), (27, aI64 (f.Strips.length : Int)), (28, aI64 x_5), (36, aB (decide (k_79 < ((gt f.Strips x_5).length : Int))))] ?_
    refine .cd hr (fun hb89 hr => ?_) (fun hb89 hr => ?_)
    ·refine .skip <| .seq <| .block ?_
     obtain ⟨hg90, hg91, hg92, hr⟩ := gd3 hr
     obtain ⟨hg93, hr⟩ := gd hr
     refine .regionT fine callOf_nil <| .mu 3 <| .pure (v := .pp ((gt f.Strips x_5).flatMap api_Pix.c) (k_79.toNat * 2)) (by kernel_rfl) (tr (ofP_guard hg90)) (by kernel_rfl) <| .mu 1 <| .pure (v := aI64 (gt (gt f.Strips x_5) k_79).X) (by kernel_rfl) (tr (ofP_some (flat_get api_Pix.len (inR_lt hg90) (by decide : 0 < 2) (by omega : k_79.toNat * 2 + 0 = k_79.toNat * 2 + 0) (by kernel_rfl)))) (by kernel_rfl) <| .mu 3 <| .pure (v := .pp ((gt f.Strips x_5).flatMap api_Pix.c) ((wrapF .i64 (k_79 - 1)).toNat * 2)) (by kernel_rfl) (tr (ofP_guard hg91)) (by kernel_rfl) <| .mu 1 <| .pure (v := aI64 (gt (gt f.Strips x_5) (wrapF .i64 (k_79 - 1))).X) (by kernel_rfl) (tr (ofP_some (flat_get api_Pix.len (inR_lt hg91) (by decide : 0 < 2) (by omega : (wrapF .i64 (k_79 - 1)).toNat * 2 + 0 = (wrapF .i64 (k_79 - 1)).toNat * 2 + 0) (by kernel_rfl)))) (by kernel_rfl) <| .mu 2 <| .eff (v := .hs 8 0 (xs_78 ++ [wrapF .i64 ((gt (gt f.Strips x_5) k_79).X - (gt (gt f.Strips x_5) (wrapF .i64 (k_79 - 1))).X)]).length 1) (ws := [(5, .dead), (8, .own ((xs_78 ++ [wrapF .i64 ((gt (gt f.Strips x_5) k_79).X - (gt (gt f.Strips x_5) (wrapF .i64 (k_79 - 1))).X)]).flatMap (iC .i64)))]) (by kernel_rfl) (tr (app_own (new := [aI64 (wrapF .i64 ((gt (gt f.Strips x_5) k_79).X - (gt (gt f.Strips x_5) (wrapF .i64 (k_79 - 1))).X))]) (l := xs_78) (xs := [wrapF .i64 ((gt (gt f.Strips x_5) k_79).X - (gt (gt f.Strips x_5) (wrapF .i64 (k_79 - 1))).X)]) (iC_len .i64) rfl rfl (by kernel_rfl) hg92 hg93)) (by kernel_rfl) <| .mu 1 ?_
     refine .done ⟨by kernel_rfl, ?_⟩
     refine .pop <| .ru fine ?_
     exact loopF_back (xs_78 ++ [wrapF .i64 ((gt (gt f.Strips x_5) k_79).X - (gt (gt f.Strips x_5) (wrapF .i64 (k_79 - 1))).X)], wrapF .i64 (k_79 + 1)) hr ((Wk.gc [4, 6, 7, 8, 9, 10, 11, 12, 13, 14, 26, 27, 28] [(0, true), (1, true), (2, true), (3, true), (4, true), (8, false), (6, false)] rfl (pKt (pKt (pKt (pKt (pKt (pKo (iC .i64) (iC_pure _) (xs_78 ++ [wrapF .i64 ((gt (gt f.Strips x_5) k_79).X - (gt (gt f.Strips x_5) (wrapF .i64 (k_79 - 1))).X)]) (pKo (iC .i64) (iC_pure _) ys_4 trivial)))))))).to (by kernel_rfl))
    ·refine .leave rfl ?_
     obtain rfl := oi hr
     exact ⟨rfl, ((Wk.gc [4, 6, 7, 8, 9, 10, 11, 12, 13, 26, 27, 28] [(0, true), (1, true), (2, true), (3, true), (4, true), (5, false), (6, false)] rfl (pKt (pKt (pKt (pKt (pKt (pKo (iC .i64) (iC_pure _) xs_78 (pKo (iC .i64) (iC_pure _) ys_4 trivial)))))))).to (by kernel_rfl))⟩
   ·rintro x st' hq96
    clear hL95
    obtain ⟨rfl, hq96⟩ := hq96
    refine CQ_exit _ rfl <| .wk hq96 <| .seq <| .r3 fine 80 [(4, .hp 0 0), (6, .hp 1 0), (7, .hp 2 0), (8, .hp 3 0), (9, .hp 4 0), (10, .hs 5 0 xs_86.length 1), (11, .hs 6 0 ys_4.length 1), (12, aI64 x_5), (13, slT api_Pix.c (gt f.Strips x_5)), (26, slT (slC api_Pix.c) f.Strips), (27, aI64 (f.Strips.length : Int)), (28, aI64 x_5), (55, aB (decide (x_5 > 0)))] ?_
    refine .cd hr (fun hb97 hr => ?_) (fun hb97 hr => ?_)
    ·obtain ⟨hg98, hg99, hg100, hr⟩ := gd3 hr
     obtain ⟨hg101, hg102, hr⟩ := gd2 hr
     refine .regionT fine callOf_nil <| .mu 2 <| .pure (v := .pp ((gt f.Strips x_5).flatMap api_Pix.c) ((0 : Int).toNat * 2)) (by kernel_rfl) (tr (ofP_guard hg98)) (by kernel_rfl) <| .mu 1 <| .pure (v := aI64 (gt (gt f.Strips x_5) 0).Y) (by kernel_rfl) (tr (ofP_some (flat_get api_Pix.len (inR_lt hg98) (by decide : 1 < 2) (by omega : (0 : Int).toNat * 2 + 1 = (0 : Int).toNat * 2 + 1) (by kernel_rfl)))) (by kernel_rfl) <| .mu 4 <| .pure (v := .pp (f.Strips.flatMap (slC api_Pix.c)) ((wrapF .i64 (x_5 - 1)).toNat * 1)) (by kernel_rfl) (tr (ofP_guard hg99)) (by kernel_rfl) <| .pure (v := slT api_Pix.c (gt f.Strips (wrapF .i64 (x_5 - 1)))) (by kernel_rfl) (tr (ofP_some (flat_get (slC_len api_Pix.c) (inR_lt hg99) (by decide : 0 < 1) (by omega : (wrapF .i64 (x_5 - 1)).toNat * 1 = (wrapF .i64 (x_5 - 1)).toNat * 1 + 0) (by kernel_rfl)))) (by kernel_rfl) <| .pure (v := .pp ((gt f.Strips (wrapF .i64 (x_5 - 1))).flatMap api_Pix.c) ((0 : Int).toNat * 2)) (by kernel_rfl) (tr (ofP_guard hg100)) (by kernel_rfl) <| .mu 1 <| .pure (v := aI64 (gt (gt f.Strips (wrapF .i64 (x_5 - 1))) 0).Y) (by kernel_rfl) (tr (ofP_some (flat_get api_Pix.len (inR_lt hg100) (by decide : 1 < 2) (by omega : (0 : Int).toNat * 2 + 1 = (0 : Int).toNat * 2 + 1) (by kernel_rfl)))) (by kernel_rfl) <| .mu 2 <| .eff (v := .hs 8 0 (ys_4 ++ [wrapF .i64 ((gt (gt f.Strips x_5) 0).Y - (gt (gt f.Strips (wrapF .i64 (x_5 - 1))) 0).Y)]).length 1) (ws := [(6, .dead), (8, .own ((ys_4 ++ [wrapF .i64 ((gt (gt f.Strips x_5) 0).Y - (gt (gt f.Strips (wrapF .i64 (x_5 - 1))) 0).Y)]).flatMap (iC .i64)))]) (by kernel_rfl) (tr (app_own (new := [aI64 (wrapF .i64 ((gt (gt f.Strips x_5) 0).Y - (gt (gt f.Strips (wrapF .i64 (x_5 - 1))) 0).Y))]) (l := ys_4) (xs := [wrapF .i64 ((gt (gt f.Strips x_5) 0).Y - (gt (gt f.Strips (wrapF .i64 (x_5 - 1))) 0).Y)]) (iC_len .i64) rfl rfl (by kernel_rfl) hg101 hg102)) (by kernel_rfl) <| .mu 1 ?_
     refine .done ⟨by kernel_rfl, ?_⟩
     refine .pop <| .ru fine ?_
     exact loopF_back (xs_86, ys_4 ++ [wrapF .i64 ((gt (gt f.Strips x_5) 0).Y - (gt (gt f.Strips (wrapF .i64 (x_5 - 1))) 0).Y)], wrapF .i64 (x_5 + 1)) hr ((Wk.gc [4, 6, 7, 8, 9, 10, 11, 26, 27, 28] [(0, true), (1, true), (2, true), (3, true), (4, true), (5, false), (8, false)] rfl (pKt (pKt (pKt (pKt (pKt (pKo (iC .i64) (iC_pure _) xs_86 (pKo (iC .i64) (iC_pure _) (ys_4 ++ [wrapF .i64 ((gt (gt f.Strips x_5) 0).Y - (gt (gt f.Strips (wrapF .i64 (x_5 - 1))) 0).Y)]) trivial)))))))).to (by kernel_rfl))
    ·refine .skip <| .pop <| .ru fine ?_
     exact loopF_back (xs_86, ys_4, wrapF .i64 (x_5 + 1)) hr ((Wk.gc [4, 6, 7, 8, 9, 10, 11, 26, 27, 28] [(0, true), (1, true), (2, true), (3, true), (4, true), (5, false), (6, false)] rfl (pKt (pKt (pKt (pKt (pKt (pKo (iC .i64) (iC_pure _) xs_86 (pKo (iC .i64) (iC_pure _) ys_4 trivial)))))))).to (by kernel_rfl))
  ·refine .leave rfl ?_
   obtain rfl := oi hr
   exact ⟨rfl, ((Wk.gc [6, 7, 8, 9, 10, 11] [(1, true), (2, true), (3, true), (4, true), (5, false), (6, false)] rfl (pKt (pKt (pKt (pKt (pKo (iC .i64) (iC_pure _) xs_3 (pKo (iC .i64) (iC_pure _) ys_4 trivial))))))).to (by kernel_rfl))⟩
 ·rcases o103 with ⟨xs_53, ys_54⟩
  rintro x st' hq105
  clear hL104
  obtain ⟨rfl, hq105⟩ := hq105
  refine CQ_exit _ rfl <| .wk hq105 <| .seq <| .wk (((Wk.fix 4 (cs := (xs_53.flatMap (iC .i64))) (by kernel_rfl)).trans (Wk.fix 5 (cs := (ys_54.flatMap (iC .i64))) (by kernel_rfl))).to (c := ⟨mkS 80 0 [(6, .hp 0 0), (7, .hp 1 0), (8, .hp 2 0), (9, .hp 3 0), (10, .hs 4 0 xs_53.length 1), (11, .hs 5 0 ys_54.length 1)], [.own [aB false, nS, aB false, nS], .own [aB false, nS, aB false, nS], .own (api_Rat.c v1.1), .own (api_Rat.c v1.2), .fix (xs_53.flatMap (iC .i64)), .fix (ys_54.flatMap (iC .i64))]⟩) (by kernel_rfl)) ?_
  obtain ⟨v106, hc107, v108, hc109, hr⟩ := bd2 hr
  refine .tn fine (ca1 (callOk_ref (args := [.hs 4 0 xs_53.length 1, .agg (api_Rat.c v1.1)]) (l := [4]) (SnL.cons (Sn.hs rfl (.inr rfl) (SnC.pure (ids_flat (iC_pure _) _)) (fun h => flat_nil0 h)) (SnL.cons (Sn.pure rfl) SnL.nil)) (fiduciallaw55_overlap_ok n xs_53 v1.1 v106 hc107)) (ca3 (callOk_ref (args := [.hs 5 0 ys_54.length 1, .agg (api_Rat.c v1.2)]) (l := [5]) (SnL.cons (Sn.hs rfl (.inr rfl) (SnC.pure (ids_flat (iC_pure _) _)) (fun h => flat_nil0 h)) (SnL.cons (Sn.pure rfl) SnL.nil)) (fiduciallaw55_overlap_ok n ys_54 v1.2 v108 hc109)))) <| .mu 2 <| .ca cf0 <| .mu 2 <| .ca (cfA (fun h => by simp at h) cf0) <| .mu 2 ?_
  refine .done ⟨by kernel_rfl, ?_⟩
  refine .n2 80 [(6, .hp 0 0), (7, .hp 1 0)] [.own (api_Rat.c v106), .own (api_Rat.c v108), .own (api_Rat.c v1.1), .own (api_Rat.c v1.2), .fix (xs_53.flatMap (iC .i64)), .fix (ys_54.flatMap (iC .i64))] <| .ret ?_
  obtain rfl := oi hr
  exact FinQ.ret (vs := [.agg (api_Rat.c v106), .agg (api_Rat.c v108)]) (by kernel_rfl) (Sn.tup (SnL.cons (Sn.pure rfl) (SnL.cons (Sn.pure rfl) SnL.nil)))

theorem fiducialref02_Compare_ok (n : Nat) (x' : api_Rat) (y : api_Rat) (r : Int) (hr : fiducialref02_Compare n x' y = some r) : FnOk Tryz.prog 44 [.agg (api_Rat.c x'), .agg (api_Rat.c y)] (aI64 r) := by
 unfold fiducialref02_Compare at hr
 refine FnOk.bd fine Tryz.func44 [.tmp 4] ?_
 unfold Tryz.f44
 simp only [Option.getD_some]
 refine .seq <| .r2 fine 9 [(2, .hp 0 0), (3, .hp 1 0)] [.own (api_Rat.c x'), .own (api_Rat.c y)] <| .seq ?_
 obtain ⟨v1, hc2, v3, hc4, hr⟩ := bd2 hr
 refine .gn fine (ca1 (ok0 (fiducialref02_Sub_ok n x' y v1 hc2)) (ca3 (ok0 (fiducialref02_Sign_ok n v1 v3 hc4)))) <| .mu 2 <| .ca cf0 <| .ca (cfF cf0) <| .mu 1 <| .done <| .ret ?_
 obtain rfl := oi hr
 exact FinQ.r1 [aI64 v3]

theorem fiducialref02_Same_ok (n : Nat) (x' : api_Rat) (y : api_Rat) (r : Bool) (hr : fiducialref02_Same n x' y = some r) : FnOk Tryz.prog 47 [.agg (api_Rat.c x'), .agg (api_Rat.c y)] (aB r) := by
 unfold fiducialref02_Same at hr
 refine FnOk.bd fine Tryz.func47 [.tmp 4] ?_
 unfold Tryz.f47
 simp only [Option.getD_some]
 refine .seq <| .r2 fine 17 [(2, .hp 0 0), (3, .hp 1 0)] [.own (api_Rat.c x'), .own (api_Rat.c y)] <| .seq ?_
 obtain ⟨v1, hc2, hr⟩ := bd hr
 rcases Bool.eq_false_or_eq_true v1 with hb3 | hb3
 ·subst hb3
  replace hr := cd_t rfl hr
  obtain ⟨v4, hc5, hr⟩ := bd hr
  rcases Bool.eq_false_or_eq_true v4 with hb6 | hb6
  ·subst hb6
   replace hr := cd_t rfl hr
   obtain ⟨v7, hc8, hr⟩ := bd hr
   refine .gn fine (ca1 (ok0 (fiducialref02_Valid_ok n x' true hc2)) (ca1 (ok0 (fiducialref02_Valid_ok n y true hc5)) (ca3 (ok0 (fiducialref02_Compare_ok n x' y v7 hc8))))) <| .mu 1 <| .ca cf0 <| .mu 2 <| .ca (cfA (fun h => by rw [sv hc5 hc2 (fiducialref02_Valid_cg n h)]) cf0) <| .mu 4 <| .ca (cfF (cfF cf0)) <| .mu 3 <| .done <| .ret ?_
   obtain rfl := oi hr
   exact FinQ.r1 [aB ((v7 : Int) == 0)]
  ·subst hb6
   replace hr := cd_f rfl hr
   refine .gn fine (ca1 (ok0 (fiducialref02_Valid_ok n x' true hc2)) (ca3 (ok0 (fiducialref02_Valid_ok n y false hc5)))) <| .mu 1 <| .ca cf0 <| .mu 2 <| .ca (cfA (fun h => by rw [sv hc5 hc2 (fiducialref02_Valid_cg n h)]) cf0) <| .mu 8 <| .done <| .ret ?_
   obtain rfl := oi hr
   exact FinQ.r1 [aB false]
 ·subst hb3
  replace hr := cd_f rfl hr
  refine .g1 fine (ok0 (fiducialref02_Valid_ok n x' false hc2)) <| .mu 1 <| .ca cf0 <| .mu 11 <| .done <| .ret ?_
  obtain rfl := oi hr
  exact FinQ.r1 [aB false]

theorem fiduciallaw55_number_inj {x' : api_Rat} {e : Int} {want : api_Rat} {c : Int} {x'_ : api_Rat} {e_ : Int} {want_ : api_Rat} {c_ : Int} (h : ([.agg [.at (.bool x'.Num.Negative), slT (iC .u32) x'.Num.Groups, .at (.bool x'.Den.Negative), slT (iC .u32) x'.Den.Groups], .at (.int .i64 e), .agg [.at (.bool want.Num.Negative), slT (iC .u32) want.Num.Groups, .at (.bool want.Den.Negative), slT (iC .u32) want.Den.Groups], .at (.int .i64 c)] : List AV) = [.agg [.at (.bool x'_.Num.Negative), slT (iC .u32) x'_.Num.Groups, .at (.bool x'_.Den.Negative), slT (iC .u32) x'_.Den.Groups], .at (.int .i64 e_), .agg [.at (.bool want_.Num.Negative), slT (iC .u32) want_.Num.Groups, .at (.bool want_.Den.Negative), slT (iC .u32) want_.Den.Groups], .at (.int .i64 c_)]) : x' = x'_ ∧ e = e_ ∧ want = want_ ∧ c = c_ := by
 obtain ⟨⟨_, _⟩, ⟨_, _⟩⟩ := x'
 obtain ⟨⟨_, _⟩, ⟨_, _⟩⟩ := x'_
 obtain ⟨⟨_, _⟩, ⟨_, _⟩⟩ := want
 obtain ⟨⟨_, _⟩, ⟨_, _⟩⟩ := want_
 simp only [List.cons.injEq, AV.agg.injEq, AV.at.injEq, Value.int.injEq, Value.bool.injEq, AV.fn.injEq, AV.pp.injEq, true_and, and_true, slT_inj_int] at h
 simp_all
theorem fiduciallaw55_number_cg (n : Nat) {x' : api_Rat} {e : Int} {want : api_Rat} {c : Int} {x'_ : api_Rat} {e_ : Int} {want_ : api_Rat} {c_ : Int} (h : ([.agg [.at (.bool x'.Num.Negative), slT (iC .u32) x'.Num.Groups, .at (.bool x'.Den.Negative), slT (iC .u32) x'.Den.Groups], .at (.int .i64 e), .agg [.at (.bool want.Num.Negative), slT (iC .u32) want.Num.Groups, .at (.bool want.Den.Negative), slT (iC .u32) want.Den.Groups], .at (.int .i64 c)] : List AV) = [.agg [.at (.bool x'_.Num.Negative), slT (iC .u32) x'_.Num.Groups, .at (.bool x'_.Den.Negative), slT (iC .u32) x'_.Den.Groups], .at (.int .i64 e_), .agg [.at (.bool want_.Num.Negative), slT (iC .u32) want_.Num.Groups, .at (.bool want_.Den.Negative), slT (iC .u32) want_.Den.Groups], .at (.int .i64 c_)]) : fiduciallaw55_number n x' e want c = fiduciallaw55_number n x'_ e_ want_ c_ := by
 obtain ⟨rfl, rfl, rfl, rfl⟩ := fiduciallaw55_number_inj h
 rfl
theorem fiduciallaw55_number_ok (n : Nat) (x' : api_Rat) (e : Int) (want : api_Rat) (c : Int) (r : Bool) (hr : fiduciallaw55_number n x' e want c = some r) : FnOk Tryz.prog 25 [.agg (api_Rat.c x'), aI64 e, .agg (api_Rat.c want), aI64 c] (aB r) := by
 unfold fiduciallaw55_number at hr
 refine FnOk.bd fine Tryz.func25 [.tmp 8] ?_
 unfold Tryz.f25
 simp only [Option.getD_some]
 refine .seq <| .r2 fine 25 [(1, aI64 e), (3, aI64 c), (4, .hp 0 0), (6, .hp 1 0)] [.own (api_Rat.c x'), .own (api_Rat.c want)] <| .seq <| .seq <| .r3 fine 25 [(1, aI64 e), (3, aI64 c), (4, .hp 0 0), (6, .hp 1 0), (10, aB ((c : Int) != 0))] ?_
 refine .cd hr (fun hb1 hr => ?_) (fun hb1 hr => ?_)
 ·refine .seq ?_
  rcases Bool.eq_false_or_eq_true ((e : Int) == c) with hb2 | hb2
  ·replace hr := cd_t hb2 hr
   obtain ⟨v3, hc4, hr⟩ := bd hr
   refine .g1 fine (ok0 (fiducialref02_Zero_ok n x' v3 hc4)) <| .mu 2 <| .p0 (v := aB true) (eB hb2) <| .mu 2 <| .ca cf0 <| .mu 2 <| .done <| .ret ?_
   obtain rfl := oi hr
   exact FinQ.r1 [aB v3]
  ·replace hr := cd_f hb2 hr
   refine .r0 fine <| .mu 2 <| .p0 (v := aB false) (eB hb2) <| .mu 5 <| .done <| .ret ?_
   obtain rfl := oi hr
   exact FinQ.r1 [aB false]
 ·refine .skip <| .seq ?_
  rcases Bool.eq_false_or_eq_true ((e : Int) == 0) with hb5 | hb5
  ·replace hr := cd_t hb5 hr
   obtain ⟨v6, hc7, hr⟩ := bd hr
   refine .g1 fine (ok0 (fiducialref02_Same_ok n x' want v6 hc7)) <| .mu 1 <| .p0 (v := aB true) (eB hb5) <| .mu 3 <| .ca cf0 <| .mu 2 <| .done <| .ret ?_
   obtain rfl := oi hr
   exact FinQ.r1 [aB v6]
  ·replace hr := cd_f hb5 hr
   refine .r0 fine <| .mu 1 <| .p0 (v := aB false) (eB hb5) <| .mu 6 <| .done <| .ret ?_
   obtain rfl := oi hr
   exact FinQ.r1 [aB false]

theorem fiduciallaw55_PlanOverlaps_ok (n : Nat) (s : api_Survey) (f : api_Flight) (ground : Int) (r : Bool) (hr : fiduciallaw55_PlanOverlaps n s f ground = some r) : FnOk Tryz.prog 9 [.agg (api_Survey.c s), .agg (api_Flight.c f), aI64 ground] (aB r) := by
 unfold fiduciallaw55_PlanOverlaps at hr
 refine FnOk.bd fine Tryz.func9 [.tmp 6] ?_
 unfold Tryz.f9
 simp only [Option.getD_some]
 refine .seq <| .r2 fine 79 [(2, aI64 ground), (3, .hp 0 0), (4, .hp 1 0)] [.own (api_Survey.c s), .own (api_Flight.c f)] <| .seq <| .seq ?_
 obtain ⟨v1, hc2, hr⟩ := bd hr
 refine .g1 fine (ok0 (fiduciallaw55_known_ok n v1 hc2)) <| .ca cf0 <| .mu 1 <| .done <| .n2 79 [(2, aI64 ground), (3, .hp 0 0), (4, .hp 1 0), (14, aB (!v1))] [.own (api_Survey.c s), .own (api_Flight.c f)] ?_
 refine .cd hr (fun hb4 hr => ?_) (fun hb4 hr => ?_)
 ·refine .seq <| .ru fine <| .ret ?_
  obtain rfl := oi hr
  exact FinQ.r1 [aB false]
 ·refine .skip <| .seq <| .seq ?_
  obtain ⟨v5, hc6, hr⟩ := bd hr
  refine .g1 fine (ok0 (fiduciallaw55_few_ok n f 40 v5 hc6)) <| .mu 1 <| .ca cf0 <| .mu 1 <| .done <| .n2 79 [(2, aI64 ground), (3, .hp 0 0), (4, .hp 1 0), (17, aB (!v5))] [.own (api_Survey.c s), .own (api_Flight.c f)] ?_
  refine .cd hr (fun hb8 hr => ?_) (fun hb8 hr => ?_)
  ·refine .seq <| .ru fine <| .ret ?_
   obtain rfl := oi hr
   exact FinQ.r1 [aB true]
  ·refine .skip <| .seq ?_
   obtain ⟨v9, hc10, hr⟩ := bd hr
   refine .g1 fine (ok0 (plan_Overlaps_ok n s f ground v9 hc10)) <| .mu 3 <| .ca cf0 <| .mu 9 <| .done <| .n2 79 [(2, aI64 ground), (3, .hp 0 0), (4, .hp 1 0), (7, .hp 2 0), (8, .hp 3 0), (9, aI64 v9.2.2)] [.own (api_Survey.c s), .own (api_Flight.c f), .own (api_Rat.c v9.1), .own (api_Rat.c v9.2.1)] <| .seq ?_
   obtain ⟨v11, hc12, hr⟩ := bd hr
   refine .g1 fine (ok0 (fiduciallaw55_asked_ok n s f ground v11 hc12)) <| .mu 3 <| .ca cf0 <| .mu 1 <| .done <| .n2 79 [(2, aI64 ground), (3, .hp 0 0), (4, .hp 1 0), (7, .hp 2 0), (8, .hp 3 0), (9, aI64 v9.2.2), (10, aI64 v11)] [.own (api_Survey.c s), .own (api_Flight.c f), .own (api_Rat.c v9.1), .own (api_Rat.c v9.2.1)] <| .seq <| .seq ?_
   replace hr := bd hr; obtain ⟨c_13, hL25, hr⟩ := hr
   refine .app2 (Q := fun x st' => x = .normal ∧ Wk 0 st' ⟨mkS 79 0 [(2, aI64 ground), (3, .hp 0 0), (4, .hp 1 0), (7, .hp 2 0), (8, .hp 3 0), (9, aI64 v9.2.2), (10, aI64 c_13)], [.own (api_Survey.c s), .own (api_Flight.c f), .own (api_Rat.c v9.1), .own (api_Rat.c v9.2.1)]⟩) ?_ ?_
   ·clear hr
    have hr := hL25
    clear hL25
    rcases Bool.eq_false_or_eq_true ((v11 : Int) == 0) with hb14 | hb14
    ·replace hr := cd_t hb14 hr
     rcases Bool.eq_false_or_eq_true (((f.Strips.length : Int) : Int) == 0) with hb15 | hb15
     ·replace hr := cd_t hb15 hr
      refine .r0 fine <| .mu 1 <| .p0 (v := aB true) (eB hb14) <| .mu 8 <| .pure (v := aB true) (by kernel_rfl) (eB hb15) <| .mu 6 <| .done <| .n2 79 [(2, aI64 ground), (3, .hp 0 0), (4, .hp 1 0), (7, .hp 2 0), (8, .hp 3 0), (9, aI64 v9.2.2), (10, aI64 v11), (46, aB true)] [.own (api_Survey.c s), .own (api_Flight.c f), .own (api_Rat.c v9.1), .own (api_Rat.c v9.2.1)] <| .cT (by kernel_rfl) <| .ru fine ?_
      obtain rfl := oi hr
      exact ⟨rfl, ((Wk.gc [2, 3, 4, 7, 8, 9, 10] [(0, true), (1, true), (2, true), (3, true)] rfl trivial).to (by kernel_rfl))⟩
     ·replace hr := cd_f hb15 hr
      obtain ⟨v16, hc17, hr⟩ := bd hr
      refine .g1 fine (ok0 (slices_ContainsFunc_fiducial_api_Pix_fiducial_api_Pix_of_fiduciallaw55_PlanOverlaps_1_ok n f.Strips v16 hc17)) <| .mu 1 <| .p0 (v := aB true) (eB hb14) <| .mu 8 <| .pure (v := aB false) (by kernel_rfl) (eB hb15) <| .mu 3 <| .ca cf0 <| .mu 2 <| .done <| .n2 79 [(2, aI64 ground), (3, .hp 0 0), (4, .hp 1 0), (7, .hp 2 0), (8, .hp 3 0), (9, aI64 v9.2.2), (10, aI64 v11), (46, aB v16)] [.own (api_Survey.c s), .own (api_Flight.c f), .own (api_Rat.c v9.1), .own (api_Rat.c v9.2.1)] ?_
      refine .cd hr (fun hb18 hr => ?_) (fun hb18 hr => ?_)
      ·refine .ru fine ?_
       obtain rfl := oi hr
       exact ⟨rfl, ((Wk.gc [2, 3, 4, 7, 8, 9, 10] [(0, true), (1, true), (2, true), (3, true)] rfl trivial).to (by kernel_rfl))⟩
      ·refine .skip ?_
       obtain rfl := oi hr
       exact ⟨rfl, ((Wk.gc [2, 3, 4, 7, 8, 9, 10] [(0, true), (1, true), (2, true), (3, true)] rfl trivial).to (by kernel_rfl))⟩
    ·replace hr := cd_f hb14 hr
     rcases Bool.eq_false_or_eq_true ((v11 : Int) == 20) with hb19 | hb19
     ·replace hr := cd_t hb19 hr
      rcases Bool.eq_false_or_eq_true (((f.Strips.length : Int) : Int) == 0) with hb20 | hb20
      ·replace hr := cd_t hb20 hr
       refine .r0 fine <| .mu 1 <| .p0 (v := aB false) (eB hb14) <| .mu 2 <| .pure (v := aB true) (by kernel_rfl) (eB hb19) <| .mu 5 <| .pure (v := aB true) (by kernel_rfl) (eB hb20) <| .mu 6 <| .done <| .n2 79 [(2, aI64 ground), (3, .hp 0 0), (4, .hp 1 0), (7, .hp 2 0), (8, .hp 3 0), (9, aI64 v9.2.2), (10, aI64 v11), (46, aB true)] [.own (api_Survey.c s), .own (api_Flight.c f), .own (api_Rat.c v9.1), .own (api_Rat.c v9.2.1)] <| .cT (by kernel_rfl) <| .ru fine ?_
       obtain rfl := oi hr
       exact ⟨rfl, ((Wk.gc [2, 3, 4, 7, 8, 9, 10] [(0, true), (1, true), (2, true), (3, true)] rfl trivial).to (by kernel_rfl))⟩
      ·replace hr := cd_f hb20 hr
       obtain ⟨v21, hc22, hr⟩ := bd hr
       refine .g1 fine (ok0 (slices_ContainsFunc_fiducial_api_Pix_fiducial_api_Pix_of_fiduciallaw55_PlanOverlaps_1_ok n f.Strips v21 hc22)) <| .mu 1 <| .p0 (v := aB false) (eB hb14) <| .mu 2 <| .pure (v := aB true) (by kernel_rfl) (eB hb19) <| .mu 5 <| .pure (v := aB false) (by kernel_rfl) (eB hb20) <| .mu 3 <| .ca cf0 <| .mu 2 <| .done <| .n2 79 [(2, aI64 ground), (3, .hp 0 0), (4, .hp 1 0), (7, .hp 2 0), (8, .hp 3 0), (9, aI64 v9.2.2), (10, aI64 v11), (46, aB v21)] [.own (api_Survey.c s), .own (api_Flight.c f), .own (api_Rat.c v9.1), .own (api_Rat.c v9.2.1)] ?_
       refine .cd hr (fun hb23 hr => ?_) (fun hb23 hr => ?_)
       ·refine .ru fine ?_
        obtain rfl := oi hr
        exact ⟨rfl, ((Wk.gc [2, 3, 4, 7, 8, 9, 10] [(0, true), (1, true), (2, true), (3, true)] rfl trivial).to (by kernel_rfl))⟩
       ·refine .skip ?_
        obtain rfl := oi hr
        exact ⟨rfl, ((Wk.gc [2, 3, 4, 7, 8, 9, 10] [(0, true), (1, true), (2, true), (3, true)] rfl trivial).to (by kernel_rfl))⟩
     ·replace hr := cd_f hb19 hr
      refine .r0 fine <| .mu 1 <| .p0 (v := aB false) (eB hb14) <| .mu 2 <| .pure (v := aB false) (by kernel_rfl) (eB hb19) <| .mu 12 <| .done <| .n2 79 [(2, aI64 ground), (3, .hp 0 0), (4, .hp 1 0), (7, .hp 2 0), (8, .hp 3 0), (9, aI64 v9.2.2), (10, aI64 v11), (46, aB false)] [.own (api_Survey.c s), .own (api_Flight.c f), .own (api_Rat.c v9.1), .own (api_Rat.c v9.2.1)] <| .cF (by kernel_rfl) <| .skip ?_
      obtain rfl := oi hr
      exact ⟨rfl, ((Wk.gc [2, 3, 4, 7, 8, 9, 10] [(0, true), (1, true), (2, true), (3, true)] rfl trivial).to (by kernel_rfl))⟩
   ·rintro x st' hq26
    clear hL25
    obtain ⟨rfl, hq26⟩ := hq26
    refine .wk hq26 <| .seq <| .seq <| .r3 fine 79 [(2, aI64 ground), (3, .hp 0 0), (4, .hp 1 0), (7, .hp 2 0), (8, .hp 3 0), (9, aI64 v9.2.2), (10, aI64 c_13), (48, aB ((c_13 : Int) != 0))] ?_
    refine .cd hr (fun hb34 hr => ?_) (fun hb34 hr => ?_)
    ·refine .seq ?_
     replace hr := bd hr; obtain ⟨x_35, hL43, hr⟩ := hr
     refine .app1 (Q := fun x st' => x = .normal ∧ Wk 0 st' ⟨mkS 79 0 [(6, aB x_35)], []⟩) ?_ ?_
     ·clear hr
      have hr := hL43
      clear hL43
      rcases Bool.eq_false_or_eq_true ((v9.2.2 : Int) == c_13) with hb36 | hb36
      ·replace hr := cd_t hb36 hr
       obtain ⟨v37, hc38, hr⟩ := bd hr
       rcases Bool.eq_false_or_eq_true v37 with hb39 | hb39
       ·subst hb39
        replace hr := cd_t rfl hr
        obtain ⟨v40, hc41, hr⟩ := bd hr
        refine .gn fine (ca1 (ok0 (fiducialref02_Zero_ok n v9.1 true hc38)) (ca3 (ok0 (fiducialref02_Zero_ok n v9.2.1 v40 hc41)))) <| .mu 2 <| .p0 (v := aB true) (eB hb36) <| .mu 2 <| .ca cf0 <| .mu 3 <| .ca (cfA (fun h => by rw [sv hc41 hc38 (fiducialref02_Zero_cg n h)]) cf0) <| .mu 2 <| .done ?_
        obtain rfl := oi hr
        exact ⟨rfl, ((Wk.gc [6] [] rfl pK0).to (by kernel_rfl))⟩
       ·subst hb39
        replace hr := cd_f rfl hr
        refine .g1 fine (ok0 (fiducialref02_Zero_ok n v9.1 false hc38)) <| .mu 2 <| .p0 (v := aB true) (eB hb36) <| .mu 2 <| .ca cf0 <| .mu 6 <| .done ?_
        obtain rfl := oi hr
        exact ⟨rfl, ((Wk.gc [6] [] rfl pK0).to (by kernel_rfl))⟩
      ·replace hr := cd_f hb36 hr
       refine .r0 fine <| .mu 2 <| .p0 (v := aB false) (eB hb36) <| .mu 9 <| .done ?_
       obtain rfl := oi hr
       exact ⟨rfl, ((Wk.gc [6] [] rfl pK0).to (by kernel_rfl))⟩
     ·rintro x st' hq44
      clear hL43
      obtain ⟨rfl, hq44⟩ := hq44
      refine .wk hq44 <| .ret ?_
      obtain rfl := oi hr
      exact FinQ.r1 [aB x_35]
    ·refine .skip <| .seq ?_
     obtain ⟨v45, hc46, hr⟩ := bd hr
     refine .g1 fine (ok0 (fiduciallaw55_overlaps_ok n s f ground v45 hc46)) <| .mu 3 <| .ca cf0 <| .mu 7 <| .done <| .n2 79 [(7, .hp 2 0), (8, .hp 3 0), (9, aI64 v9.2.2), (10, aI64 c_13), (11, .hp 4 0), (12, .hp 5 0)] [.own (api_Survey.c s), .own (api_Flight.c f), .own (api_Rat.c v9.1), .own (api_Rat.c v9.2.1), .own (api_Rat.c v45.1), .own (api_Rat.c v45.2)] <| .seq ?_
     obtain ⟨v47, hc48, hr⟩ := bd hr
     rcases Bool.eq_false_or_eq_true v47 with hb49 | hb49
     ·subst hb49
      replace hr := cd_t rfl hr
      obtain ⟨v50, hc51, hr⟩ := bd hr
      refine .gn fine (ca1 (ok0 (fiduciallaw55_number_ok n v9.1 v9.2.2 v45.1 c_13 true hc48)) (ca3 (ok0 (fiduciallaw55_number_ok n v9.2.1 v9.2.2 v45.2 c_13 v50 hc51)))) <| .mu 4 <| .ca cf0 <| .mu 5 <| .ca (cfA (fun h => by rw [sv hc51 hc48 (fiduciallaw55_number_cg n h)]) cf0) <| .mu 2 <| .done <| .ret ?_
      obtain rfl := oi hr
      exact FinQ.r1 [aB v50]
     ·subst hb49
      replace hr := cd_f rfl hr
      refine .g1 fine (ok0 (fiduciallaw55_number_ok n v9.1 v9.2.2 v45.1 c_13 false hc48)) <| .mu 4 <| .ca cf0 <| .mu 8 <| .done <| .ret ?_
      obtain rfl := oi hr
      exact FinQ.r1 [aB false]
end Go.L
