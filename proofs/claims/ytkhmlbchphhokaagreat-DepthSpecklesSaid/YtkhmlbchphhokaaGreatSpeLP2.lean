/- The program's functions compute what the plain Lean programs compute, part 2; printed by a program. -/
import Derived.Test.YtkhmlbchphhokaaGreatSpeLP1
import Derived.Test.YtkhmlbchphhokaaGreatL0maifdjme
import Derived.Test.YtkhmlbchphhokaaGreatSmalleafclaai
import Derived.Test.YtkhmlbchphhokaaGreatChecked
import Derived.KernelRfl
set_option linter.unusedVariables false
set_option linter.unusedSimpArgs false
set_option maxRecDepth 100000
set_option maxHeartbeats 4000000
namespace Go.L
open Go Go.Eng Go.Proofs
theorem integer_Gcd_ok (n : Nat) (x' : api_Int) (y : api_Int) (r : api_Int) (hr : integer_Gcd n x' y = some r) : FnOk Tryz.prog 173 [.agg (api_Int.c x'), .agg (api_Int.c y)] (.agg (api_Int.c r)) := by
 unfold integer_Gcd at hr
 refine FnOk.bd fine Tryz.func173 [.cell 4 72] ?_
 unfold Tryz.f173
 simp only [Option.getD_some]
 refine .seq <| .r2 fine 54 [(2, .hp 0 0), (3, .hp 1 0), (4, .hp 2 0)] [.own (api_Int.c x'), .own (api_Int.c y), .own [aB false, nS]] <| .seq ?_
 obtain ⟨v1, hc2, v3, hc4, hr⟩ := bd2 hr
 refine .tn fine (ca1 (ok0 (integer_groups_ok n x' v1 hc2)) (ca3 (ok0 (integer_groups_ok n y v3 hc4)))) <| .mu 1 <| .ca cf0 <| .mu 1 <| .ca (cfA (fun h => by rw [sv hc4 hc2 (integer_groups_cg n h)]) cf0) <| .mu 2 ?_
 refine .done ⟨by kernel_rfl, ?_⟩
 refine .n2 54 [(4, .hp 2 0), (5, sU32 v1), (6, sU32 v3)] [.own (api_Int.c x'), .own (api_Int.c y), .own [aB false, nS]] <| .seq <| .block ?_
 replace hr := bd hr; obtain ⟨o61, hL62, hr⟩ := hr
 refine .loopO (σ := fun z0 => match z0 with | (a_5, b_6) => ⟨mkS 54 0 [(4, .hp 0 0), (5, sU32 a_5), (6, sU32 b_6)], [.own [aB false, nS]]⟩) (Q := fun x st' => match (generalizing := false) o61 with | .inl a_33 => x = .exit 0 ∧ Wk 0 st' ⟨mkS 54 0 [(4, .hp 0 0), (5, sU32 a_33)], [.own [aB false, nS]]⟩ | .inr (r0) => x = .ret ∧ FinQ Tryz.prog [.cell 4 72] (.agg (api_Int.c r0)) .ret st') hL62 ((Wk.gc [4, 5, 6] [(2, true)] rfl trivial).to (by kernel_rfl)) ?_ ?_
 ·clear hr
  rintro m ⟨a_5, b_6⟩ hr
  show CQ _ _ _ _ _ ⟨_, _⟩
  refine .seq <| .seq <| .r3 fine 54 [(4, .hp 0 0), (5, sU32 a_5), (6, sU32 b_6), (19, aB (decide ((b_6.length : Int) > 0)))] ?_
  refine .cd hr (fun hb35 hr => ?_) (fun hb35 hr => ?_)
  ·refine .skip <| .block <| .seq ?_
   obtain ⟨v36, hc37, hr⟩ := bd hr
   refine .g1 fine (ok0 (integer_word_ok n a_5 v36 hc37)) <| .mu 1 <| .ca cf0 <| .mu 5 <| .done <| .n2 54 [(4, .hp 0 0), (5, sU32 a_5), (6, sU32 b_6), (7, aU64 v36.1), (8, aB v36.2)] [.own [aB false, nS]] <| .seq ?_
   obtain ⟨v38, hc39, hr⟩ := bd hr
   refine .g1 fine (ok0 (integer_word_ok n b_6 v38 hc39)) <| .mu 1 <| .ca cf0 <| .mu 5 <| .done <| .n2 54 [(4, .hp 0 0), (5, sU32 a_5), (6, sU32 b_6), (7, aU64 v36.1), (8, aB v36.2), (9, aU64 v38.1), (10, aB v38.2)] [.own [aB false, nS]] <| .seq <| .seq ?_
   rcases Bool.eq_false_or_eq_true v36.2 with hb40 | hb40
   ·replace hr := cd_t hb40 hr
    refine .r0 fine <| .p0 (v := aB true) (Eq.trans (b := some (.pure (aB v36.2))) (by kernel_rfl) (by rw [hb40])) <| .mu 3 <| .done <| .n2 54 [(4, .hp 0 0), (5, sU32 a_5), (6, sU32 b_6), (7, aU64 v36.1), (9, aU64 v38.1), (33, aB v38.2)] [.own [aB false, nS]] ?_
    refine .cd hr (fun hb41 hr => ?_) (fun hb41 hr => ?_)
    ·refine .seq <| .block ?_
     replace hr := bd hr; obtain ⟨m_46, hL51, hr⟩ := hr
     refine .loopO (σ := fun z0 => match z0 with | (m_42, n_43) => ⟨mkS 54 0 [(4, .hp 0 0), (7, aU64 m_42), (9, aU64 n_43)], [.own [aB false, nS]]⟩) (Q := fun x st' => x = .exit 2 ∧ Wk 0 st' ⟨mkS 54 0 [(4, .hp 0 0), (7, aU64 m_46)], [.own [aB false, nS]]⟩) hL51 ((Wk.gc [4, 7, 9] [(0, true)] rfl trivial).to (by kernel_rfl)) ?_ ?_
     ·clear hr
      rintro m ⟨m_42, n_43⟩ hr
      show CQ _ _ _ _ _ ⟨_, _⟩
      refine .seq <| .seq <| .r3 fine 54 [(4, .hp 0 0), (7, aU64 m_42), (9, aU64 n_43), (35, aB (decide (n_43 > 0)))] ?_
      refine .cd hr (fun hb48 hr => ?_) (fun hb48 hr => ?_)
      ·refine .skip <| .block ?_
       obtain ⟨hg49, hr⟩ := gd hr
       refine .regionT fine callOf_nil <| .mu 3 <| .pure (v := aU64 (m_42.tmod n_43)) (by kernel_rfl) (op_rem (x := m_42) (y := n_43) (by kernel_rfl) (by kernel_rfl) hg49) (by kernel_rfl) <| .mu 2 ?_
       refine .done ⟨by kernel_rfl, ?_⟩
       refine .pop ?_
       exact loopF_back (n_43, m_42.tmod n_43) hr ((Wk.gc [4, 7, 9] [(0, true)] rfl trivial).to (by kernel_rfl))
      ·refine .leave rfl ?_
       obtain rfl := Option.some.inj hr
       exact ⟨rfl, ((Wk.gc [4, 7] [(0, true)] rfl trivial).to (by kernel_rfl))⟩
     ·rintro x st' hq52
      clear hL51
      obtain ⟨rfl, hq52⟩ := hq52
      refine CQ_exit _ rfl <| .wk hq52 <| .seq ?_
      obtain ⟨v53, hc54, v55, hc56, hr⟩ := bd2 hr
      refine .gn fine (ca1 (ok0 (integer_split_ok n m_46 v53 hc54)) (ca3 (ok0 (integer_made_ok n false v53 v55 hc56)))) <| .mu 1 <| .ca cf0 <| .ca (cfF cf0) <| .mu 1 <| .done <| .n2 54 [(4, .hp 0 0)] [.own (api_Int.c v55)] <| .ret ?_
      obtain rfl := Option.some.inj hr
      exact ⟨rfl, FinQ.ret (vs := [.agg (api_Int.c v55)]) (by kernel_rfl) (Sn.pure rfl)⟩
    ·refine .skip <| .seq ?_
     obtain ⟨v57, hc58, hr⟩ := bd hr
     refine .g1 fine (ok0 (integer_over_ok n a_5 b_6 v57 hc58)) <| .mu 2 <| .ca cf0 <| .mu 5 <| .done <| .n2 54 [(4, .hp 0 0), (6, sU32 b_6), (12, sU32 v57.2)] [.own [aB false, nS]] <| .ru fine <| .pop ?_
     exact loopF_back (b_6, v57.2) hr ((Wk.gc [4, 5, 6] [(0, true)] rfl trivial).to (by kernel_rfl))
   ·replace hr := cd_f hb40 hr
    refine .r0 fine <| .p0 (v := aB false) (Eq.trans (b := some (.pure (aB v36.2))) (by kernel_rfl) (by rw [hb40])) <| .mu 3 <| .done <| .n2 54 [(4, .hp 0 0), (5, sU32 a_5), (6, sU32 b_6), (7, aU64 v36.1), (9, aU64 v38.1), (33, aB false)] [.own [aB false, nS]] <| .cF (by kernel_rfl) <| .skip <| .seq ?_
    obtain ⟨v59, hc60, hr⟩ := bd hr
    refine .g1 fine (ok0 (integer_over_ok n a_5 b_6 v59 hc60)) <| .mu 2 <| .ca cf0 <| .mu 5 <| .done <| .n2 54 [(4, .hp 0 0), (6, sU32 b_6), (12, sU32 v59.2)] [.own [aB false, nS]] <| .ru fine <| .pop ?_
    exact loopF_back (b_6, v59.2) hr ((Wk.gc [4, 5, 6] [(0, true)] rfl trivial).to (by kernel_rfl))
  ·refine .leave rfl ?_
   obtain rfl := Option.some.inj hr
   exact ⟨rfl, ((Wk.gc [4, 5] [(0, true)] rfl trivial).to (by kernel_rfl))⟩
 ·rcases o61 with a_33 | r0
  ·rintro x st' hq63
   clear hL62
   obtain ⟨rfl, hq63⟩ := hq63
   refine CQ_exit _ rfl <| .wk hq63 <| .seq ?_
   obtain ⟨v64, hc65, v66, hc67, hr⟩ := bd2 hr
   refine .gn fine (ca1 (ok0 (slices_Clone_uint32_uint32_ok n a_33 v64 hc65)) (ca3 (ok0 (integer_made_ok n false v64 v66 hc67)))) <| .mu 1 <| .ca cf0 <| .ca (cfF cf0) <| .mu 1 <| .done <| .n2 54 [(4, .hp 0 0)] [.own (api_Int.c v66)] <| .ret ?_
   obtain rfl := Option.some.inj hr
   exact FinQ.r1 [.agg (api_Int.c v66)]
  ·rintro x st' hq63
   clear hL62
   obtain ⟨rfl, hq63⟩ := hq63
   obtain rfl := Option.some.inj hr
   exact CQ_ret _ hq63

theorem integer_plus_ok (n : Nat) (a : List Int) (b : List Int) (r : List Int) (hr : integer_plus n a b = some r) : FnOk Tryz.prog 170 [sU32 a, sU32 b] (sU32 r) := by
 unfold integer_plus at hr
 refine FnOk.bd fine Tryz.func170 [.tmp 4] ?_
 unfold Tryz.f170
 simp only [Option.getD_some]
 refine .seq <| .r3 fine 41 [(0, sU32 a), (1, sU32 b)] <| .seq ?_
 obtain ⟨hg1, hg2, hg3, hr⟩ := gd3 hr
 refine .r0 fine <| .mu 6 <| .e0 (v := .hs 0 0 (List.replicate (wrapF .i64 ((mx (a.length : Int) (b.length : Int)) + 1)).toNat ((0 : Int) : Int)).length 1) (ws := [(0, .own ((List.replicate (wrapF .i64 ((mx (a.length : Int) (b.length : Int)) + 1)).toNat ((0 : Int) : Int)).flatMap (iC .u32)))]) (Eq.trans (b := guardO (decide (0 ≤ (wrapF .i64 ((mx (a.length : Int) (b.length : Int)) + 1))) && decide ((wrapF .i64 ((mx (a.length : Int) (b.length : Int)) + 1)) ≤ (wrapF .i64 ((mx (a.length : Int) (b.length : Int)) + 1))) && decide ((4 : Int) * (wrapF .i64 ((mx (a.length : Int) (b.length : Int)) + 1)) ≤ 281474976710656) && decide ((wrapF .i64 ((mx (a.length : Int) (b.length : Int)) + 1)) ≤ 9223372036854775807) && true && true && true) (some (.eff (.hs 0 0 (wrapF .i64 ((mx (a.length : Int) (b.length : Int)) + 1)).toNat 1) [(0, .own (zerosA [aU32 0] (wrapF .i64 ((mx (a.length : Int) (b.length : Int)) + 1)).toNat))]))) (by kernel_rfl) (make_own (c := (iC .u32)) (z := (0 : Int)) (n := wrapF .i64 ((mx (a.length : Int) (b.length : Int)) + 1)) (by_ := 4) rfl hg1 hg2 hg3)) <| .mu 1 <| .done <| .n2 41 [(0, sU32 a), (1, sU32 b), (5, .hs 0 0 (List.replicate (wrapF .i64 ((mx (a.length : Int) (b.length : Int)) + 1)).toNat ((0 : Int) : Int)).length 1)] [.own ((List.replicate (wrapF .i64 ((mx (a.length : Int) (b.length : Int)) + 1)).toNat ((0 : Int) : Int)).flatMap (iC .u32))] <| .seq <| .r3 fine 41 [(0, sU32 a), (1, sU32 b), (5, .hs 0 0 (List.replicate (wrapF .i64 ((mx (a.length : Int) (b.length : Int)) + 1)).toNat ((0 : Int) : Int)).length 1), (6, aU32 0)] <| .seq <| .seq <| .r3 fine 41 [(0, sU32 a), (1, sU32 b), (5, .hs 0 0 (List.replicate (wrapF .i64 ((mx (a.length : Int) (b.length : Int)) + 1)).toNat ((0 : Int) : Int)).length 1), (6, aU32 0), (17, aI64 ((List.replicate (wrapF .i64 ((mx (a.length : Int) (b.length : Int)) + 1)).toNat ((0 : Int) : Int)).length : Int)), (18, aI64 0)] <| .block ?_
 replace hr := bd hr; obtain ⟨out_15, hL26, hr⟩ := hr
 refine .loopO (σ := fun z0 => match z0 with | (out_4, carry_5, x_6) => ⟨mkS 41 0 [(0, sU32 a), (1, sU32 b), (5, .hs 0 0 out_4.length 1), (6, aU32 carry_5), (17, aI64 ((List.replicate (wrapF .i64 ((mx (a.length : Int) (b.length : Int)) + 1)).toNat ((0 : Int) : Int)).length : Int)), (18, aI64 x_6)], [.own (out_4.flatMap (iC .u32))]⟩) (Q := fun x st' => x = .exit 0 ∧ Wk 0 st' ⟨mkS 41 0 [(5, .hs 0 0 out_15.length 1)], [.own (out_15.flatMap (iC .u32))]⟩) hL26 ((Wk.gc [0, 1, 5, 6, 17, 18] [(0, false)] rfl (pKo (iC .u32) (iC_pure _) (List.replicate (wrapF .i64 ((mx (a.length : Int) (b.length : Int)) + 1)).toNat ((0 : Int) : Int)) trivial)).to (by kernel_rfl)) ?_ ?_
 ·clear hr
  rintro m ⟨out_4, carry_5, x_6⟩ hr
  show CQ _ _ _ _ _ ⟨_, _⟩
  refine .seq <| .r3 fine 41 [(0, sU32 a), (1, sU32 b), (5, .hs 0 0 out_4.length 1), (6, aU32 carry_5), (17, aI64 ((List.replicate (wrapF .i64 ((mx (a.length : Int) (b.length : Int)) + 1)).toNat ((0 : Int) : Int)).length : Int)), (18, aI64 x_6), (19, aB (decide (x_6 < ((List.replicate (wrapF .i64 ((mx (a.length : Int) (b.length : Int)) + 1)).toNat ((0 : Int) : Int)).length : Int))))] <| .seq ?_
  refine .cd hr (fun hb17 hr => ?_) (fun hb17 hr => ?_)
  ·refine .skip <| .seq <| .block <| .seq <| .r3 fine 41 [(0, sU32 a), (1, sU32 b), (5, .hs 0 0 out_4.length 1), (6, aU32 carry_5), (7, aI64 x_6), (17, aI64 ((List.replicate (wrapF .i64 ((mx (a.length : Int) (b.length : Int)) + 1)).toNat ((0 : Int) : Int)).length : Int)), (18, aI64 x_6)] <| .seq ?_
   obtain ⟨v18, hc19, v20, hc21, hr⟩ := bd2 hr
   refine .gn fine (ca1 (ok0 (integer_at_ok n a x_6 v18 hc19)) (ca3 (ok0 (integer_at_ok n b x_6 v20 hc21)))) <| .mu 2 <| .ca cf0 <| .mu 2 <| .ca (cfA (fun h => by rw [sv hc21 hc19 (integer_at_cg n h)]) cf0) <| .mu 4 <| .done <| .n2 41 [(0, sU32 a), (1, sU32 b), (5, .hs 0 0 out_4.length 1), (7, aI64 x_6), (8, aU32 (wrapF .u32 ((wrapF .u32 (v18 + v20)) + carry_5))), (17, aI64 ((List.replicate (wrapF .i64 ((mx (a.length : Int) (b.length : Int)) + 1)).toNat ((0 : Int) : Int)).length : Int)), (18, aI64 x_6)] [.own (out_4.flatMap (iC .u32))] <| .seq <| .r3 fine 41 [(0, sU32 a), (1, sU32 b), (5, .hs 0 0 out_4.length 1), (6, aU32 0), (7, aI64 x_6), (8, aU32 (wrapF .u32 ((wrapF .u32 (v18 + v20)) + carry_5))), (17, aI64 ((List.replicate (wrapF .i64 ((mx (a.length : Int) (b.length : Int)) + 1)).toNat ((0 : Int) : Int)).length : Int)), (18, aI64 x_6)] <| .seq <| .seq <| .r3 fine 41 [(0, sU32 a), (1, sU32 b), (5, .hs 0 0 out_4.length 1), (6, aU32 0), (7, aI64 x_6), (8, aU32 (wrapF .u32 ((wrapF .u32 (v18 + v20)) + carry_5))), (17, aI64 ((List.replicate (wrapF .i64 ((mx (a.length : Int) (b.length : Int)) + 1)).toNat ((0 : Int) : Int)).length : Int)), (18, aI64 x_6), (31, aB (decide ((wrapF .u32 ((wrapF .u32 (v18 + v20)) + carry_5)) ≥ 1000000000)))] ?_
   refine .cd hr (fun hb22 hr => ?_) (fun hb22 hr => ?_)
   ·refine .r3 fine 41 [(0, sU32 a), (1, sU32 b), (5, .hs 0 0 out_4.length 1), (6, aU32 1), (7, aI64 x_6), (8, aU32 (wrapF .u32 ((wrapF .u32 ((wrapF .u32 (v18 + v20)) + carry_5)) - 1000000000))), (17, aI64 ((List.replicate (wrapF .i64 ((mx (a.length : Int) (b.length : Int)) + 1)).toNat ((0 : Int) : Int)).length : Int)), (18, aI64 x_6)] ?_
    obtain ⟨hg23, hr⟩ := gd hr
    refine .r0 fine <| .mu 3 <| .p0 (v := .hp 0 (0 + x_6.toNat * 1)) (Eq.trans (b := ORes.ofP (guardV (inR x_6 out_4.length) (.hp 0 (0 + x_6.toNat * 1)))) (by kernel_rfl) (ofP_guard hg23)) <| .e0 (v := .unk) (ws := [(0, .own ((out_4.set x_6.toNat (wrapF .u32 ((wrapF .u32 ((wrapF .u32 (v18 + v20)) + carry_5)) - 1000000000))).flatMap (iC .u32)))]) (Eq.trans (b := stO (decide ((0 + x_6.toNat * 1) + 1 ≤ (out_4.flatMap (iC .u32)).length) && true) [(0, .own (setCells (out_4.flatMap (iC .u32)) (0 + x_6.toNat * 1) [aU32 (wrapF .u32 ((wrapF .u32 ((wrapF .u32 (v18 + v20)) + carry_5)) - 1000000000))]))]) (by kernel_rfl) (stO_t (and_t (flat_fits (iC_len _) (inR_lt hg23) (Nat.le_of_ble_eq_true rfl) (by omega : 0 + x_6.toNat * 1 = x_6.toNat * 1 + 0))) (congrArg Blk.own (flat_set (iC_len _) (inR_lt hg23) (Nat.le_of_ble_eq_true rfl) (by omega : 0 + x_6.toNat * 1 = x_6.toNat * 1 + 0) (by kernel_rfl))))) <| .done <| .pop <| .ru fine ?_
    exact loopF_back (out_4.set x_6.toNat (wrapF .u32 ((wrapF .u32 ((wrapF .u32 (v18 + v20)) + carry_5)) - 1000000000)), 1, wrapF .i64 (x_6 + 1)) hr ((Wk.relen 5 (b := 0) (es := 1) (len := out_4.length) (out_4.set x_6.toNat (wrapF .u32 ((wrapF .u32 ((wrapF .u32 (v18 + v20)) + carry_5)) - 1000000000))).length (by kernel_rfl) (Eq.symm (List.length_set.trans rfl))).trans ((Wk.gc [0, 1, 5, 6, 17, 18] [(0, false)] rfl (pKo (iC .u32) (iC_pure _) (out_4.set x_6.toNat (wrapF .u32 ((wrapF .u32 ((wrapF .u32 (v18 + v20)) + carry_5)) - 1000000000))) trivial)).to (by kernel_rfl)))
   ·refine .skip ?_
    obtain ⟨hg24, hr⟩ := gd hr
    refine .r0 fine <| .mu 3 <| .p0 (v := .hp 0 (0 + x_6.toNat * 1)) (Eq.trans (b := ORes.ofP (guardV (inR x_6 out_4.length) (.hp 0 (0 + x_6.toNat * 1)))) (by kernel_rfl) (ofP_guard hg24)) <| .e0 (v := .unk) (ws := [(0, .own ((out_4.set x_6.toNat (wrapF .u32 ((wrapF .u32 (v18 + v20)) + carry_5))).flatMap (iC .u32)))]) (Eq.trans (b := stO (decide ((0 + x_6.toNat * 1) + 1 ≤ (out_4.flatMap (iC .u32)).length) && true) [(0, .own (setCells (out_4.flatMap (iC .u32)) (0 + x_6.toNat * 1) [aU32 (wrapF .u32 ((wrapF .u32 (v18 + v20)) + carry_5))]))]) (by kernel_rfl) (stO_t (and_t (flat_fits (iC_len _) (inR_lt hg24) (Nat.le_of_ble_eq_true rfl) (by omega : 0 + x_6.toNat * 1 = x_6.toNat * 1 + 0))) (congrArg Blk.own (flat_set (iC_len _) (inR_lt hg24) (Nat.le_of_ble_eq_true rfl) (by omega : 0 + x_6.toNat * 1 = x_6.toNat * 1 + 0) (by kernel_rfl))))) <| .done <| .pop <| .ru fine ?_
    exact loopF_back (out_4.set x_6.toNat (wrapF .u32 ((wrapF .u32 (v18 + v20)) + carry_5)), 0, wrapF .i64 (x_6 + 1)) hr ((Wk.relen 5 (b := 0) (es := 1) (len := out_4.length) (out_4.set x_6.toNat (wrapF .u32 ((wrapF .u32 (v18 + v20)) + carry_5))).length (by kernel_rfl) (Eq.symm (List.length_set.trans rfl))).trans ((Wk.gc [0, 1, 5, 6, 17, 18] [(0, false)] rfl (pKo (iC .u32) (iC_pure _) (out_4.set x_6.toNat (wrapF .u32 ((wrapF .u32 (v18 + v20)) + carry_5))) trivial)).to (by kernel_rfl)))
  ·refine .leave rfl ?_
   obtain rfl := Option.some.inj hr
   exact ⟨rfl, ((Wk.gc [5] [(0, false)] rfl (pKo (iC .u32) (iC_pure _) out_4 trivial)).to (by kernel_rfl))⟩
 ·rintro x st' hq27
  clear hL26
  obtain ⟨rfl, hq27⟩ := hq27
  refine CQ_exit _ rfl <| .wk hq27 <| .seq ?_
  obtain ⟨v28, hc29, hr⟩ := bd hr
  refine .g1 fine (callOk_ref (args := [.hs 0 0 out_15.length 1]) (l := [0]) (SnL.cons (Sn.hs rfl (.inl rfl) (SnC.pure (ids_flat (iC_pure _) _)) (fun h => flat_nil0 h)) SnL.nil) (integer_trim_ok n out_15 v28 hc29)) <| .mu 1 <| .ca cf0 <| .mu 1 <| .done <| .ret ?_
  obtain rfl := Option.some.inj hr
  exact FinQ.r1 [sU32 v28]

theorem integer_minus_ok (n : Nat) (a : List Int) (b : List Int) (r : List Int) (hr : integer_minus n a b = some r) : FnOk Tryz.prog 171 [sU32 a, sU32 b] (sU32 r) := by
 unfold integer_minus at hr
 refine FnOk.bd fine Tryz.func171 [.tmp 4] ?_
 unfold Tryz.f171
 simp only [Option.getD_some]
 refine .seq <| .r3 fine 50 [(0, sU32 a), (1, sU32 b)] <| .seq ?_
 obtain ⟨hg1, hg2, hg3, hr⟩ := gd3 hr
 refine .r0 fine <| .mu 2 <| .e0 (v := .hs 0 0 (List.replicate (a.length : Int).toNat ((0 : Int) : Int)).length 1) (ws := [(0, .own ((List.replicate (a.length : Int).toNat ((0 : Int) : Int)).flatMap (iC .u32)))]) (Eq.trans (b := guardO (decide (0 ≤ (a.length : Int)) && decide ((a.length : Int) ≤ (a.length : Int)) && decide ((4 : Int) * (a.length : Int) ≤ 281474976710656) && decide ((a.length : Int) ≤ 9223372036854775807) && true && true && true) (some (.eff (.hs 0 0 (a.length : Int).toNat 1) [(0, .own (zerosA [aU32 0] (a.length : Int).toNat))]))) (by kernel_rfl) (make_own (c := (iC .u32)) (z := (0 : Int)) (n := (a.length : Int)) (by_ := 4) rfl hg1 hg2 hg3)) <| .mu 1 <| .done <| .n2 50 [(0, sU32 a), (1, sU32 b), (5, .hs 0 0 (List.replicate (a.length : Int).toNat ((0 : Int) : Int)).length 1)] [.own ((List.replicate (a.length : Int).toNat ((0 : Int) : Int)).flatMap (iC .u32))] <| .seq <| .r3 fine 50 [(0, sU32 a), (1, sU32 b), (5, .hs 0 0 (List.replicate (a.length : Int).toNat ((0 : Int) : Int)).length 1), (6, aU32 0)] <| .seq <| .seq <| .r3 fine 50 [(0, sU32 a), (1, sU32 b), (5, .hs 0 0 (List.replicate (a.length : Int).toNat ((0 : Int) : Int)).length 1), (6, aU32 0), (13, aI64 ((List.replicate (a.length : Int).toNat ((0 : Int) : Int)).length : Int)), (14, aI64 0)] <| .block ?_
 replace hr := bd hr; obtain ⟨out_14, hL24, hr⟩ := hr
 refine .loopO (σ := fun z0 => match z0 with | (out_4, borrow_5, x_6) => ⟨mkS 50 0 [(0, sU32 a), (1, sU32 b), (5, .hs 0 0 out_4.length 1), (6, aU32 borrow_5), (13, aI64 ((List.replicate (a.length : Int).toNat ((0 : Int) : Int)).length : Int)), (14, aI64 x_6)], [.own (out_4.flatMap (iC .u32))]⟩) (Q := fun x st' => x = .exit 0 ∧ Wk 0 st' ⟨mkS 50 0 [(5, .hs 0 0 out_14.length 1)], [.own (out_14.flatMap (iC .u32))]⟩) hL24 ((Wk.gc [0, 1, 5, 6, 13, 14] [(0, false)] rfl (pKo (iC .u32) (iC_pure _) (List.replicate (a.length : Int).toNat ((0 : Int) : Int)) trivial)).to (by kernel_rfl)) ?_ ?_
 ·clear hr
  rintro m ⟨out_4, borrow_5, x_6⟩ hr
  show CQ _ _ _ _ _ ⟨_, _⟩
  refine .seq <| .r3 fine 50 [(0, sU32 a), (1, sU32 b), (5, .hs 0 0 out_4.length 1), (6, aU32 borrow_5), (13, aI64 ((List.replicate (a.length : Int).toNat ((0 : Int) : Int)).length : Int)), (14, aI64 x_6), (15, aB (decide (x_6 < ((List.replicate (a.length : Int).toNat ((0 : Int) : Int)).length : Int))))] <| .seq ?_
  refine .cd hr (fun hb16 hr => ?_) (fun hb16 hr => ?_)
  ·refine .skip <| .seq <| .block <| .seq <| .r3 fine 50 [(0, sU32 a), (1, sU32 b), (5, .hs 0 0 out_4.length 1), (6, aU32 borrow_5), (7, aI64 x_6), (13, aI64 ((List.replicate (a.length : Int).toNat ((0 : Int) : Int)).length : Int)), (14, aI64 x_6)] <| .seq ?_
   obtain ⟨v17, hc18, hr⟩ := bd hr
   refine .g1 fine (ok0 (integer_at_ok n b x_6 v17 hc18)) <| .mu 2 <| .ca cf0 <| .mu 3 <| .done <| .n2 50 [(0, sU32 a), (1, sU32 b), (5, .hs 0 0 out_4.length 1), (7, aI64 x_6), (8, aU32 (wrapF .u32 (v17 + borrow_5))), (13, aI64 ((List.replicate (a.length : Int).toNat ((0 : Int) : Int)).length : Int)), (14, aI64 x_6)] [.own (out_4.flatMap (iC .u32))] <| .seq <| .r3 fine 50 [(0, sU32 a), (1, sU32 b), (5, .hs 0 0 out_4.length 1), (6, aU32 0), (7, aI64 x_6), (8, aU32 (wrapF .u32 (v17 + borrow_5))), (13, aI64 ((List.replicate (a.length : Int).toNat ((0 : Int) : Int)).length : Int)), (14, aI64 x_6)] <| .seq ?_
   obtain ⟨hg19, hr⟩ := gd hr
   refine .r0 fine <| .mu 2 <| .p0 (v := .pp (a.flatMap (iC .u32)) (x_6.toNat * 1)) (Eq.trans (b := ORes.ofP (guardV (inR x_6 a.length) (.pp (a.flatMap (iC .u32)) (x_6.toNat * 1)))) (by kernel_rfl) (ofP_guard hg19)) <| .p0 (v := aU32 (gt a x_6)) (Eq.trans (b := ORes.ofP ((a.flatMap (iC .u32))[x_6.toNat * 1]?)) (by kernel_rfl) (ofP_some (flat_get (iC_len _) (inR_lt hg19) (by decide : 0 < 1) (by omega : x_6.toNat * 1 = x_6.toNat * 1 + 0) (by kernel_rfl)))) <| .mu 2 <| .done <| .n2 50 [(0, sU32 a), (1, sU32 b), (5, .hs 0 0 out_4.length 1), (6, aU32 0), (7, aI64 x_6), (8, aU32 (wrapF .u32 (v17 + borrow_5))), (13, aI64 ((List.replicate (a.length : Int).toNat ((0 : Int) : Int)).length : Int)), (14, aI64 x_6), (27, aB (decide ((gt a x_6) < (wrapF .u32 (v17 + borrow_5)))))] [.own (out_4.flatMap (iC .u32))] ?_
   refine .cd hr (fun hb20 hr => ?_) (fun hb20 hr => ?_)
   ·obtain ⟨hg21, hr⟩ := gd hr
    refine .r0 fine <| .mu 4 <| .p0 (v := .pp (a.flatMap (iC .u32)) (x_6.toNat * 1)) (Eq.trans (b := ORes.ofP (guardV (inR x_6 a.length) (.pp (a.flatMap (iC .u32)) (x_6.toNat * 1)))) (by kernel_rfl) (ofP_guard hg19)) <| .p0 (v := aU32 (gt a x_6)) (Eq.trans (b := ORes.ofP ((a.flatMap (iC .u32))[x_6.toNat * 1]?)) (by kernel_rfl) (ofP_some (flat_get (iC_len _) (inR_lt hg19) (by decide : 0 < 1) (by omega : x_6.toNat * 1 = x_6.toNat * 1 + 0) (by kernel_rfl)))) <| .mu 3 <| .p0 (v := .hp 0 (0 + x_6.toNat * 1)) (Eq.trans (b := ORes.ofP (guardV (inR x_6 out_4.length) (.hp 0 (0 + x_6.toNat * 1)))) (by kernel_rfl) (ofP_guard hg21)) <| .e0 (v := .unk) (ws := [(0, .own ((out_4.set x_6.toNat (wrapF .u32 ((wrapF .u32 ((gt a x_6) + 1000000000)) - (wrapF .u32 (v17 + borrow_5))))).flatMap (iC .u32)))]) (Eq.trans (b := stO (decide ((0 + x_6.toNat * 1) + 1 ≤ (out_4.flatMap (iC .u32)).length) && true) [(0, .own (setCells (out_4.flatMap (iC .u32)) (0 + x_6.toNat * 1) [aU32 (wrapF .u32 ((wrapF .u32 ((gt a x_6) + 1000000000)) - (wrapF .u32 (v17 + borrow_5))))]))]) (by kernel_rfl) (stO_t (and_t (flat_fits (iC_len _) (inR_lt hg21) (Nat.le_of_ble_eq_true rfl) (by omega : 0 + x_6.toNat * 1 = x_6.toNat * 1 + 0))) (congrArg Blk.own (flat_set (iC_len _) (inR_lt hg21) (Nat.le_of_ble_eq_true rfl) (by omega : 0 + x_6.toNat * 1 = x_6.toNat * 1 + 0) (by kernel_rfl))))) <| .mu 1 <| .done <| .pop <| .ru fine ?_
    exact loopF_back (out_4.set x_6.toNat (wrapF .u32 ((wrapF .u32 ((gt a x_6) + 1000000000)) - (wrapF .u32 (v17 + borrow_5)))), 1, wrapF .i64 (x_6 + 1)) hr ((Wk.relen 5 (b := 0) (es := 1) (len := out_4.length) (out_4.set x_6.toNat (wrapF .u32 ((wrapF .u32 ((gt a x_6) + 1000000000)) - (wrapF .u32 (v17 + borrow_5))))).length (by kernel_rfl) (Eq.symm (List.length_set.trans rfl))).trans ((Wk.gc [0, 1, 5, 6, 13, 14] [(0, false)] rfl (pKo (iC .u32) (iC_pure _) (out_4.set x_6.toNat (wrapF .u32 ((wrapF .u32 ((gt a x_6) + 1000000000)) - (wrapF .u32 (v17 + borrow_5))))) trivial)).to (by kernel_rfl)))
   ·obtain ⟨hg22, hr⟩ := gd hr
    refine .r0 fine <| .mu 4 <| .p0 (v := .pp (a.flatMap (iC .u32)) (x_6.toNat * 1)) (Eq.trans (b := ORes.ofP (guardV (inR x_6 a.length) (.pp (a.flatMap (iC .u32)) (x_6.toNat * 1)))) (by kernel_rfl) (ofP_guard hg19)) <| .p0 (v := aU32 (gt a x_6)) (Eq.trans (b := ORes.ofP ((a.flatMap (iC .u32))[x_6.toNat * 1]?)) (by kernel_rfl) (ofP_some (flat_get (iC_len _) (inR_lt hg19) (by decide : 0 < 1) (by omega : x_6.toNat * 1 = x_6.toNat * 1 + 0) (by kernel_rfl)))) <| .mu 2 <| .p0 (v := .hp 0 (0 + x_6.toNat * 1)) (Eq.trans (b := ORes.ofP (guardV (inR x_6 out_4.length) (.hp 0 (0 + x_6.toNat * 1)))) (by kernel_rfl) (ofP_guard hg22)) <| .e0 (v := .unk) (ws := [(0, .own ((out_4.set x_6.toNat (wrapF .u32 ((gt a x_6) - (wrapF .u32 (v17 + borrow_5))))).flatMap (iC .u32)))]) (Eq.trans (b := stO (decide ((0 + x_6.toNat * 1) + 1 ≤ (out_4.flatMap (iC .u32)).length) && true) [(0, .own (setCells (out_4.flatMap (iC .u32)) (0 + x_6.toNat * 1) [aU32 (wrapF .u32 ((gt a x_6) - (wrapF .u32 (v17 + borrow_5))))]))]) (by kernel_rfl) (stO_t (and_t (flat_fits (iC_len _) (inR_lt hg22) (Nat.le_of_ble_eq_true rfl) (by omega : 0 + x_6.toNat * 1 = x_6.toNat * 1 + 0))) (congrArg Blk.own (flat_set (iC_len _) (inR_lt hg22) (Nat.le_of_ble_eq_true rfl) (by omega : 0 + x_6.toNat * 1 = x_6.toNat * 1 + 0) (by kernel_rfl))))) <| .done <| .pop <| .ru fine ?_
    exact loopF_back (out_4.set x_6.toNat (wrapF .u32 ((gt a x_6) - (wrapF .u32 (v17 + borrow_5)))), 0, wrapF .i64 (x_6 + 1)) hr ((Wk.relen 5 (b := 0) (es := 1) (len := out_4.length) (out_4.set x_6.toNat (wrapF .u32 ((gt a x_6) - (wrapF .u32 (v17 + borrow_5))))).length (by kernel_rfl) (Eq.symm (List.length_set.trans rfl))).trans ((Wk.gc [0, 1, 5, 6, 13, 14] [(0, false)] rfl (pKo (iC .u32) (iC_pure _) (out_4.set x_6.toNat (wrapF .u32 ((gt a x_6) - (wrapF .u32 (v17 + borrow_5))))) trivial)).to (by kernel_rfl)))
  ·refine .leave rfl ?_
   obtain rfl := Option.some.inj hr
   exact ⟨rfl, ((Wk.gc [5] [(0, false)] rfl (pKo (iC .u32) (iC_pure _) out_4 trivial)).to (by kernel_rfl))⟩
 ·rintro x st' hq25
  clear hL24
  obtain ⟨rfl, hq25⟩ := hq25
  refine CQ_exit _ rfl <| .wk hq25 <| .seq ?_
  obtain ⟨v26, hc27, hr⟩ := bd hr
  refine .g1 fine (callOk_ref (args := [.hs 0 0 out_14.length 1]) (l := [0]) (SnL.cons (Sn.hs rfl (.inl rfl) (SnC.pure (ids_flat (iC_pure _) _)) (fun h => flat_nil0 h)) SnL.nil) (integer_trim_ok n out_14 v26 hc27)) <| .mu 1 <| .ca cf0 <| .mu 1 <| .done <| .ret ?_
  obtain rfl := Option.some.inj hr
  exact FinQ.r1 [sU32 v26]

theorem integer_Divide_ok (n : Nat) (x' : api_Int) (y : api_Int) (r : api_Int × api_Int × Int) (hr : integer_Divide n x' y = some r) : FnOk Tryz.prog 130 [.agg (api_Int.c x'), .agg (api_Int.c y)] (.tup [.agg (api_Int.c r.1), .agg (api_Int.c r.2.1), aI64 r.2.2]) := by
 unfold integer_Divide at hr
 refine FnOk.bd fine Tryz.func130 [.cell 4 72, .cell 5 72, .tmp 6] ?_
 unfold Tryz.f130
 simp only [Option.getD_some]
 refine .seq <| .r2 fine 55 [(2, .hp 0 0), (3, .hp 1 0), (4, .hp 2 0), (5, .hp 3 0)] [.own (api_Int.c x'), .own (api_Int.c y), .own [aB false, nS], .own [aB false, nS]] <| .seq ?_
 obtain ⟨v1, hc2, v3, hc4, hr⟩ := bd2 hr
 refine .tn fine (ca1 (ok0 (integer_groups_ok n x' v1 hc2)) (ca3 (ok0 (integer_groups_ok n y v3 hc4)))) <| .mu 1 <| .ca cf0 <| .mu 1 <| .ca (cfA (fun h => by rw [sv hc4 hc2 (integer_groups_cg n h)]) cf0) <| .mu 2 ?_
 refine .done ⟨by kernel_rfl, ?_⟩
 refine .n2 55 [(2, .hp 0 0), (3, .hp 1 0), (4, .hp 2 0), (5, .hp 3 0), (7, sU32 v1), (8, sU32 v3)] [.own (api_Int.c x'), .own (api_Int.c y), .own [aB false, nS], .own [aB false, nS]] <| .seq <| .seq <| .r3 fine 55 [(2, .hp 0 0), (3, .hp 1 0), (4, .hp 2 0), (5, .hp 3 0), (7, sU32 v1), (8, sU32 v3), (17, aB (((v3.length : Int) : Int) == 0))] ?_
 refine .cd hr (fun hb5 hr => ?_) (fun hb5 hr => ?_)
 ·refine .seq <| .r3 fine 55 [(4, .hp 2 0), (5, .hp 3 0), (6, aI64 14)] <| .ret ?_
  obtain rfl := Option.some.inj hr
  exact FinQ.ret (vs := [.agg [aB false, nS], .agg [aB false, nS], aI64 14]) (by kernel_rfl) (Sn.tup (SnL.cons (Sn.agg (SnL.cons (Sn.pure rfl) (SnL.cons Sn.nilsl SnL.nil))) (SnL.cons (Sn.agg (SnL.cons (Sn.pure rfl) (SnL.cons Sn.nilsl SnL.nil))) (SnL.cons (Sn.pure rfl) SnL.nil))))
 ·refine .skip <| .seq ?_
  obtain ⟨v6, hc7, hr⟩ := bd hr
  refine .g1 fine (ok0 (integer_over_ok n v1 v3 v6 hc7)) <| .mu 2 <| .ca cf0 <| .mu 5 <| .done <| .n2 55 [(2, .hp 0 0), (3, .hp 1 0), (4, .hp 2 0), (5, .hp 3 0), (8, sU32 v3), (9, sU32 v6.1), (10, sU32 v6.2)] [.own (api_Int.c x'), .own (api_Int.c y), .own [aB false, nS], .own [aB false, nS]] <| .seq ?_
  obtain ⟨v8, hc9, hr⟩ := bd hr
  refine .g1 fine (ok0 (slices_Clone_uint32_uint32_ok n v6.2 v8 hc9)) <| .mu 1 <| .ca cf0 <| .mu 1 <| .done <| .n2 55 [(2, .hp 0 0), (3, .hp 1 0), (4, .hp 2 0), (5, .hp 3 0), (8, sU32 v3), (9, sU32 v6.1), (10, sU32 v8)] [.own (api_Int.c x'), .own (api_Int.c y), .own [aB false, nS], .own [aB false, nS]] <| .seq <| .seq ?_
  rcases Bool.eq_false_or_eq_true (decide ((v8.length : Int) > 0)) with hb10 | hb10
  ·replace hr := cd_t hb10 hr
   refine .r0 fine <| .mu 2 <| .p0 (v := aB true) (Eq.trans (b := some (.pure (aB (decide ((v8.length : Int) > 0))))) (by kernel_rfl) (by rw [hb10])) <| .mu 7 <| .done <| .n2 55 [(2, .hp 0 0), (3, .hp 1 0), (4, .hp 2 0), (5, .hp 3 0), (8, sU32 v3), (9, sU32 v6.1), (10, sU32 v8), (37, aB (x'.Negative != y.Negative))] [.own (api_Int.c x'), .own (api_Int.c y), .own [aB false, nS], .own [aB false, nS]] ?_
   refine .cd hr (fun hb11 hr => ?_) (fun hb11 hr => ?_)
   ·obtain ⟨v12, hc13, v14, hc15, hr⟩ := bd2 hr
    refine .gn fine (ca2 [.own (api_Int.c x'), .own (api_Int.c y), .own [aB false, nS], .own [aB false, nS], .own [aU32 1]] (callOk_ref (args := [sU32 v6.1, .hs 4 0 1 1]) (l := [4]) (SnL.cons (Sn.pure rfl) (SnL.cons (Sn.hs rfl (.inl rfl) (SnC.cons (Sn.pure rfl) SnC.nil) (fun h => nomatch h)) SnL.nil)) (integer_plus_ok n v6.1 [(1 : Int)] v12 hc13)) (ca4 [.own (api_Int.c x'), .own (api_Int.c y), .own [aB false, nS], .own [aB false, nS], .fix [aU32 1]] (ok0 (integer_minus_ok n v3 v8 v14 hc15)))) <| .mu 2 <| .ca cf0 <| .mu 2 <| .ca (cfF cf0) <| .mu 2 <| .done <| .n2 55 [(2, .hp 0 0), (3, .hp 1 0), (4, .hp 2 0), (5, .hp 3 0), (9, sU32 v12), (10, sU32 v14)] [.own (api_Int.c x'), .own (api_Int.c y), .own [aB false, nS], .own [aB false, nS], .fix [aU32 1]] <| .seq ?_
    obtain ⟨v16, hc17, v18, hc19, hr⟩ := bd2 hr
    refine .tn fine (ca1 (ok0 (integer_made_ok n true v12 v16 hc17)) (ca3 (ok0 (integer_made_ok n y.Negative v14 v18 hc19)))) <| .mu 4 <| .pure (v := aB true) (by kernel_rfl) (Eq.trans (b := some (.pure (aB (x'.Negative != y.Negative)))) (by kernel_rfl) (by rw [hb11])) (by kernel_rfl) <| .mu 1 <| .ca cf0 <| .mu 3 <| .ca (cfA (fun h => by rw [sv hc19 hc17 (integer_made_cg n h)]) cf0) <| .mu 3 ?_
    refine .done ⟨by kernel_rfl, ?_⟩
    refine .n2 55 [(4, .hp 2 0), (5, .hp 3 0), (6, aI64 0)] [.own (api_Int.c x'), .own (api_Int.c y), .own (api_Int.c v16), .own (api_Int.c v18), .fix [aU32 1]] <| .ret ?_
    obtain rfl := Option.some.inj hr
    exact FinQ.ret (vs := [.agg (api_Int.c v16), .agg (api_Int.c v18), aI64 0]) (by kernel_rfl) (Sn.tup (SnL.cons (Sn.pure rfl) (SnL.cons (Sn.pure rfl) (SnL.cons (Sn.pure rfl) SnL.nil))))
   ·refine .skip <| .seq ?_
    obtain ⟨v20, hc21, v22, hc23, hr⟩ := bd2 hr
    refine .tn fine (ca1 (ok0 (integer_made_ok n false v6.1 v20 hc21)) (ca3 (ok0 (integer_made_ok n y.Negative v8 v22 hc23)))) <| .mu 4 <| .pure (v := aB false) (by kernel_rfl) (Eq.trans (b := some (.pure (aB (x'.Negative != y.Negative)))) (by kernel_rfl) (by rw [hb11])) (by kernel_rfl) <| .mu 1 <| .ca cf0 <| .mu 3 <| .ca (cfA (fun h => by rw [sv hc23 hc21 (integer_made_cg n h)]) cf0) <| .mu 3 ?_
    refine .done ⟨by kernel_rfl, ?_⟩
    refine .n2 55 [(4, .hp 2 0), (5, .hp 3 0), (6, aI64 0)] [.own (api_Int.c x'), .own (api_Int.c y), .own (api_Int.c v20), .own (api_Int.c v22)] <| .ret ?_
    obtain rfl := Option.some.inj hr
    exact FinQ.ret (vs := [.agg (api_Int.c v20), .agg (api_Int.c v22), aI64 0]) (by kernel_rfl) (Sn.tup (SnL.cons (Sn.pure rfl) (SnL.cons (Sn.pure rfl) (SnL.cons (Sn.pure rfl) SnL.nil))))
  ·replace hr := cd_f hb10 hr
   refine .r0 fine <| .mu 2 <| .p0 (v := aB false) (Eq.trans (b := some (.pure (aB (decide ((v8.length : Int) > 0))))) (by kernel_rfl) (by rw [hb10])) <| .mu 7 <| .done <| .n2 55 [(2, .hp 0 0), (3, .hp 1 0), (4, .hp 2 0), (5, .hp 3 0), (8, sU32 v3), (9, sU32 v6.1), (10, sU32 v8), (37, aB false)] [.own (api_Int.c x'), .own (api_Int.c y), .own [aB false, nS], .own [aB false, nS]] <| .cF (by kernel_rfl) <| .skip <| .seq ?_
   obtain ⟨v24, hc25, v26, hc27, hr⟩ := bd2 hr
   refine .tn fine (ca1 (ok0 (integer_made_ok n (x'.Negative != y.Negative) v6.1 v24 hc25)) (ca3 (ok0 (integer_made_ok n y.Negative v8 v26 hc27)))) <| .mu 6 <| .ca cf0 <| .mu 3 <| .ca (cfA (fun h => by rw [sv hc27 hc25 (integer_made_cg n h)]) cf0) <| .mu 3 ?_
   refine .done ⟨by kernel_rfl, ?_⟩
   refine .n2 55 [(4, .hp 2 0), (5, .hp 3 0), (6, aI64 0)] [.own (api_Int.c x'), .own (api_Int.c y), .own (api_Int.c v24), .own (api_Int.c v26)] <| .ret ?_
   obtain rfl := Option.some.inj hr
   exact FinQ.ret (vs := [.agg (api_Int.c v24), .agg (api_Int.c v26), aI64 0]) (by kernel_rfl) (Sn.tup (SnL.cons (Sn.pure rfl) (SnL.cons (Sn.pure rfl) (SnL.cons (Sn.pure rfl) SnL.nil))))

theorem fraction_reduced_ok (n : Nat) (num : api_Int) (den : api_Int) (r : api_Rat) (hr : fraction_reduced n num den = some r) : FnOk Tryz.prog 131 [.agg (api_Int.c num), .agg (api_Int.c den)] (.agg (api_Rat.c r)) := by
 unfold fraction_reduced at hr
 refine FnOk.bd fine Tryz.func131 [.cell 4 74] ?_
 unfold Tryz.f131
 simp only [Option.getD_some]
 refine .seq <| .r2 fine 33 [(2, .hp 0 0), (3, .hp 1 0), (4, .hp 2 0)] [.own (api_Int.c num), .own (api_Int.c den), .own [aB false, nS, aB false, nS]] <| .seq <| .seq ?_
 obtain ⟨v1, hc2, hr⟩ := bd hr
 refine .g1 fine (ok0 (integer_Sign_ok n den v1 hc2)) <| .mu 1 <| .ca cf0 <| .mu 1 <| .done <| .n2 33 [(2, .hp 0 0), (3, .hp 1 0), (4, .hp 2 0), (8, aB (decide (v1 < 0)))] [.own (api_Int.c num), .own (api_Int.c den), .own [aB false, nS, aB false, nS]] ?_
 refine .cd hr (fun hb3 hr => ?_) (fun hb3 hr => ?_)
 ·obtain ⟨v4, hc5, v6, hc7, hr⟩ := bd2 hr
  refine .tn fine (ca1 (ok0 (integer_Neg_ok n num v4 hc5)) (ca3 (ok0 (integer_Neg_ok n den v6 hc7)))) <| .mu 1 <| .ca cf0 <| .mu 1 <| .ca (cfA (fun h => by rw [sv hc7 hc5 (integer_Neg_cg n h)]) cf0) <| .mu 2 ?_
  refine .done ⟨by kernel_rfl, ?_⟩
  refine .n2 33 [(2, .hp 0 0), (3, .hp 1 0), (4, .hp 2 0)] [.own (api_Int.c v4), .own (api_Int.c v6), .own [aB false, nS, aB false, nS]] <| .seq ?_
  obtain ⟨v8, hc9, hr⟩ := bd hr
  refine .g1 fine (ok0 (integer_Gcd_ok n v4 v6 v8 hc9)) <| .mu 2 <| .ca cf0 <| .mu 2 <| .done <| .n2 33 [(2, .hp 0 0), (3, .hp 1 0), (4, .hp 2 0), (5, .hp 3 0)] [.own (api_Int.c v4), .own (api_Int.c v6), .own [aB false, nS, aB false, nS], .own (api_Int.c v8)] <| .seq ?_
  obtain ⟨v10, hc11, hr⟩ := bd hr
  refine .g1 fine (ok0 (integer_Divide_ok n v4 v8 v10 hc11)) <| .mu 2 <| .ca cf0 <| .mu 5 <| .done <| .n2 33 [(2, .hp 0 0), (3, .hp 1 0), (4, .hp 2 0), (5, .hp 3 0)] [.own (api_Int.c v10.1), .own (api_Int.c v6), .own [aB false, nS, aB false, nS], .own (api_Int.c v8)] <| .seq ?_
  obtain ⟨v12, hc13, hr⟩ := bd hr
  refine .g1 fine (ok0 (integer_Divide_ok n v6 v8 v12 hc13)) <| .mu 2 <| .ca cf0 <| .mu 5 <| .done <| .n2 33 [(2, .hp 0 0), (3, .hp 1 0), (4, .hp 2 0)] [.own (api_Int.c v10.1), .own (api_Int.c v12.1), .own [aB false, nS, aB false, nS], .own (api_Int.c v8)] <| .seq <| .r2 fine 33 [(4, .hp 2 0)] [.own (api_Int.c v10.1), .own (api_Int.c v12.1), .own [aB v10.1.Negative, sU32 v10.1.Groups, aB v12.1.Negative, sU32 v12.1.Groups], .own (api_Int.c v8)] <| .ret ?_
  obtain rfl := Option.some.inj hr
  exact FinQ.r1 [.agg [aB v10.1.Negative, sU32 v10.1.Groups, aB v12.1.Negative, sU32 v12.1.Groups]]
 ·refine .skip <| .seq ?_
  obtain ⟨v14, hc15, hr⟩ := bd hr
  refine .g1 fine (ok0 (integer_Gcd_ok n num den v14 hc15)) <| .mu 2 <| .ca cf0 <| .mu 2 <| .done <| .n2 33 [(2, .hp 0 0), (3, .hp 1 0), (4, .hp 2 0), (5, .hp 3 0)] [.own (api_Int.c num), .own (api_Int.c den), .own [aB false, nS, aB false, nS], .own (api_Int.c v14)] <| .seq ?_
  obtain ⟨v16, hc17, hr⟩ := bd hr
  refine .g1 fine (ok0 (integer_Divide_ok n num v14 v16 hc17)) <| .mu 2 <| .ca cf0 <| .mu 5 <| .done <| .n2 33 [(2, .hp 0 0), (3, .hp 1 0), (4, .hp 2 0), (5, .hp 3 0)] [.own (api_Int.c v16.1), .own (api_Int.c den), .own [aB false, nS, aB false, nS], .own (api_Int.c v14)] <| .seq ?_
  obtain ⟨v18, hc19, hr⟩ := bd hr
  refine .g1 fine (ok0 (integer_Divide_ok n den v14 v18 hc19)) <| .mu 2 <| .ca cf0 <| .mu 5 <| .done <| .n2 33 [(2, .hp 0 0), (3, .hp 1 0), (4, .hp 2 0)] [.own (api_Int.c v16.1), .own (api_Int.c v18.1), .own [aB false, nS, aB false, nS], .own (api_Int.c v14)] <| .seq <| .r2 fine 33 [(4, .hp 2 0)] [.own (api_Int.c v16.1), .own (api_Int.c v18.1), .own [aB v16.1.Negative, sU32 v16.1.Groups, aB v18.1.Negative, sU32 v18.1.Groups], .own (api_Int.c v14)] <| .ret ?_
  obtain rfl := Option.some.inj hr
  exact FinQ.r1 [.agg [aB v16.1.Negative, sU32 v16.1.Groups, aB v18.1.Negative, sU32 v18.1.Groups]]

theorem fraction_New_ok (n : Nat) (num : api_Int) (den : api_Int) (r : api_Rat × Int) (hr : fraction_New n num den = some r) : FnOk Tryz.prog 126 [.agg (api_Int.c num), .agg (api_Int.c den)] (.tup [.agg (api_Rat.c r.1), aI64 r.2]) := by
 unfold fraction_New at hr
 refine FnOk.bd fine Tryz.func126 [.cell 4 74, .tmp 5] ?_
 unfold Tryz.f126
 simp only [Option.getD_some]
 refine .seq <| .r2 fine 17 [(2, .hp 0 0), (3, .hp 1 0), (4, .hp 2 0)] [.own (api_Int.c num), .own (api_Int.c den), .own [aB false, nS, aB false, nS]] <| .seq ?_
 obtain ⟨v1, hc2, v3, hc4, hr⟩ := bd2 hr
 refine .tn fine (ca1 (ok0 (fraction_counted_ok n num v1 hc2)) (ca3 (ok0 (fraction_counted_ok n den v3 hc4)))) <| .mu 1 <| .ca cf0 <| .mu 1 <| .ca (cfA (fun h => by rw [sv hc4 hc2 (fraction_counted_cg n h)]) cf0) <| .mu 2 ?_
 refine .done ⟨by kernel_rfl, ?_⟩
 refine .n2 17 [(2, .hp 0 0), (3, .hp 1 0), (4, .hp 2 0)] [.own (api_Int.c v1), .own (api_Int.c v3), .own [aB false, nS, aB false, nS]] <| .seq <| .seq ?_
 obtain ⟨v5, hc6, hr⟩ := bd hr
 refine .g1 fine (ok0 (integer_Sign_ok n v3 v5 hc6)) <| .mu 1 <| .ca cf0 <| .mu 1 <| .done <| .n2 17 [(2, .hp 0 0), (3, .hp 1 0), (4, .hp 2 0), (12, aB ((v5 : Int) == 0))] [.own (api_Int.c v1), .own (api_Int.c v3), .own [aB false, nS, aB false, nS]] ?_
 refine .cd hr (fun hb7 hr => ?_) (fun hb7 hr => ?_)
 ·refine .seq <| .r3 fine 17 [(4, .hp 2 0), (5, aI64 14)] <| .ret ?_
  obtain rfl := Option.some.inj hr
  exact FinQ.ret (vs := [.agg [aB false, nS, aB false, nS], aI64 14]) (by kernel_rfl) (Sn.tup (SnL.cons (Sn.agg (SnL.cons (Sn.pure rfl) (SnL.cons Sn.nilsl (SnL.cons (Sn.pure rfl) (SnL.cons Sn.nilsl SnL.nil))))) (SnL.cons (Sn.pure rfl) SnL.nil)))
 ·refine .skip <| .seq ?_
  obtain ⟨v8, hc9, hr⟩ := bd hr
  refine .g1 fine (ok0 (fraction_reduced_ok n v1 v3 v8 hc9)) <| .mu 2 <| .ca cf0 <| .mu 2 <| .done <| .n2 17 [(4, .hp 2 0), (5, aI64 0)] [.own (api_Int.c v1), .own (api_Int.c v3), .own (api_Rat.c v8)] <| .ret ?_
  obtain rfl := Option.some.inj hr
  exact FinQ.ret (vs := [.agg (api_Rat.c v8), aI64 0]) (by kernel_rfl) (Sn.tup (SnL.cons (Sn.pure rfl) (SnL.cons (Sn.pure rfl) SnL.nil)))

theorem fraction_Of_ok (n : Nat) (n' : Int) (d : Int) (r : api_Rat × Int) (hr : fraction_Of n n' d = some r) : FnOk Tryz.prog 85 [aI64 n', aI64 d] (.tup [.agg (api_Rat.c r.1), aI64 r.2]) := by
 unfold fraction_Of at hr
 refine FnOk.bd fine Tryz.func85 [.cell 4 74, .tmp 5] ?_
 unfold Tryz.f85
 simp only [Option.getD_some]
 refine .seq <| .r2 fine 13 [(0, aI64 n'), (1, aI64 d), (4, .hp 0 0)] [.own [aB false, nS, aB false, nS]] <| .seq ?_
 obtain ⟨v1, hc2, v3, hc4, v5, hc6, hr⟩ := bd3 hr
 refine .gn fine (ca1 (ok0 (integer_Of_ok n n' v1 hc2)) (ca1 (ok0 (integer_Of_ok n d v3 hc4)) (ca3 (ok0 (fraction_New_ok n v1 v3 v5 hc6))))) <| .mu 1 <| .ca cf0 <| .mu 1 <| .ca (cfA (fun h => by rw [sv hc4 hc2 (integer_Of_cg n h)]) cf0) <| .ca (cfF (cfF cf0)) <| .mu 4 <| .done <| .n2 13 [(4, .hp 0 0), (5, aI64 v5.2)] [.own (api_Rat.c v5.1)] <| .ret ?_
 obtain rfl := Option.some.inj hr
 exact FinQ.ret (vs := [.agg (api_Rat.c v5.1), aI64 v5.2]) (by kernel_rfl) (Sn.tup (SnL.cons (Sn.pure rfl) (SnL.cons (Sn.pure rfl) SnL.nil)))

theorem cmp_isNaN_int_ok (n : Nat) (x' : Int) (r : Bool) (hr : cmp_isNaN_int n x' = some r) : FnOk Tryz.prog 122 [aI64 x'] (aB r) := by
 unfold cmp_isNaN_int at hr
 refine FnOk.bd fine Tryz.func122 [.tmp 2] ?_
 unfold Tryz.f122
 simp only [Option.getD_some]
 refine .seq <| .r3 fine 6 [(0, aI64 x')] <| .seq <| .ru fine <| .ret ?_
 obtain rfl := Option.some.inj hr
 exact FinQ.r1 [aB ((x' : Int) != x')]

theorem cmp_Compare_int_ok (n : Nat) (x' : Int) (y : Int) (r : Int) (hr : cmp_Compare_int n x' y = some r) : FnOk Tryz.prog 72 [aI64 x', aI64 y] (aI64 r) := by
 unfold cmp_Compare_int at hr
 refine FnOk.bd fine Tryz.func72 [.tmp 4] ?_
 unfold Tryz.f72
 simp only [Option.getD_some]
 refine .seq <| .r3 fine 20 [(0, aI64 x'), (1, aI64 y)] <| .seq ?_
 obtain ⟨v1, hc2, hr⟩ := bd hr
 refine .g1 fine (ok0 (cmp_isNaN_int_ok n x' v1 hc2)) <| .mu 1 <| .ca cf0 <| .mu 1 <| .done <| .n2 20 [(0, aI64 x'), (1, aI64 y), (5, aB v1)] [] <| .seq ?_
 obtain ⟨v3, hc4, hr⟩ := bd hr
 refine .g1 fine (ok0 (cmp_isNaN_int_ok n y v3 hc4)) <| .mu 1 <| .ca cf0 <| .mu 1 <| .done <| .n2 20 [(0, aI64 x'), (1, aI64 y), (5, aB v1), (6, aB v3)] [] <| .seq <| .seq <| .r3 fine 20 [(0, aI64 x'), (1, aI64 y), (6, aB v3), (11, aB v1)] ?_
 refine .cd hr (fun hb5 hr => ?_) (fun hb5 hr => ?_)
 ·refine .seq <| .seq <| .r3 fine 20 [(12, aB v3)] ?_
  refine .cd hr (fun hb6 hr => ?_) (fun hb6 hr => ?_)
  ·refine .seq <| .ru fine <| .ret ?_
   obtain rfl := Option.some.inj hr
   exact FinQ.r1 [aI64 0]
  ·refine .skip <| .seq <| .ru fine <| .ret ?_
   obtain rfl := Option.some.inj hr
   exact FinQ.r1 [aI64 (-1)]
 ·refine .skip <| .seq <| .seq <| .r3 fine 20 [(0, aI64 x'), (1, aI64 y), (13, aB v3)] ?_
  refine .cd hr (fun hb7 hr => ?_) (fun hb7 hr => ?_)
  ·refine .seq <| .ru fine <| .ret ?_
   obtain rfl := Option.some.inj hr
   exact FinQ.r1 [aI64 1]
  ·refine .skip <| .seq <| .seq <| .r3 fine 20 [(0, aI64 x'), (1, aI64 y), (16, aB (decide (x' < y)))] ?_
   refine .cd hr (fun hb8 hr => ?_) (fun hb8 hr => ?_)
   ·refine .seq <| .ru fine <| .ret ?_
    obtain rfl := Option.some.inj hr
    exact FinQ.r1 [aI64 (-1)]
   ·refine .skip <| .seq <| .seq <| .r3 fine 20 [(19, aB (decide (x' > y)))] ?_
    refine .cd hr (fun hb9 hr => ?_) (fun hb9 hr => ?_)
    ·refine .seq <| .ru fine <| .ret ?_
     obtain rfl := Option.some.inj hr
     exact FinQ.r1 [aI64 1]
    ·refine .skip <| .seq <| .ru fine <| .ret ?_
     obtain rfl := Option.some.inj hr
     exact FinQ.r1 [aI64 0]

theorem integer_Compare_ok (n : Nat) (x' : api_Int) (y : api_Int) (r : Int) (hr : integer_Compare n x' y = some r) : FnOk Tryz.prog 206 [.agg (api_Int.c x'), .agg (api_Int.c y)] (aI64 r) := by
 unfold integer_Compare at hr
 refine FnOk.bd fine Tryz.func206 [.tmp 4] ?_
 unfold Tryz.f206
 simp only [Option.getD_some]
 refine .seq <| .r2 fine 28 [(2, .hp 0 0), (3, .hp 1 0)] [.own (api_Int.c x'), .own (api_Int.c y)] <| .seq <| .seq ?_
 obtain ⟨v1, hc2, v3, hc4, hr⟩ := bd2 hr
 refine .tn fine (ca1 (ok0 (integer_Sign_ok n x' v1 hc2)) (ca3 (ok0 (integer_Sign_ok n y v3 hc4)))) <| .mu 1 <| .ca cf0 <| .mu 1 <| .ca (cfA (fun h => by rw [sv hc4 hc2 (integer_Sign_cg n h)]) cf0) <| .mu 2 ?_
 refine .done ⟨by kernel_rfl, ?_⟩
 refine .n2 28 [(2, .hp 0 0), (3, .hp 1 0), (5, aI64 v1), (6, aI64 v3)] [.own (api_Int.c x'), .own (api_Int.c y)] <| .seq <| .r3 fine 28 [(2, .hp 0 0), (3, .hp 1 0), (5, aI64 v1), (6, aI64 v3), (14, aB ((v1 : Int) != v3))] ?_
 refine .cd hr (fun hb5 hr => ?_) (fun hb5 hr => ?_)
 ·refine .seq ?_
  obtain ⟨v6, hc7, hr⟩ := bd hr
  refine .g1 fine (ok0 (cmp_Compare_int_ok n v1 v3 v6 hc7)) <| .mu 2 <| .ca cf0 <| .mu 1 <| .done <| .ret ?_
  obtain rfl := Option.some.inj hr
  exact FinQ.r1 [aI64 v6]
 ·refine .skip <| .seq ?_
  obtain ⟨v8, hc9, v10, hc11, v12, hc13, hr⟩ := bd3 hr
  refine .tn fine (ca1 (ok0 (integer_groups_ok n x' v8 hc9)) (ca1 (ok0 (integer_groups_ok n y v10 hc11)) (ca3 (ok0 (integer_compare_ok n v8 v10 v12 hc13))))) <| .mu 1 <| .ca cf0 <| .mu 1 <| .ca (cfA (fun h => by rw [sv hc11 hc9 (integer_groups_cg n h)]) cf0) <| .ca (cfF (cfF cf0)) <| .mu 1 ?_
  refine .done ⟨by kernel_rfl, ?_⟩
  refine .n2 28 [(2, .hp 0 0), (7, aI64 v12)] [.own (api_Int.c x'), .own (api_Int.c y)] <| .seq <| .seq <| .r3 fine 28 [(7, aI64 v12), (24, aB x'.Negative)] ?_
  refine .cd hr (fun hb14 hr => ?_) (fun hb14 hr => ?_)
  ·refine .seq <| .r0 fine <| .mu 1 <| .p0 (v := aI64 (wrapF .i64 (0 - v12))) (Eq.trans (b := some (.pure (aI64 (IntKind.wrap .i64 (0 - v12))))) (by kernel_rfl) wrap_at) <| .mu 1 <| .done <| .ret ?_
   obtain rfl := Option.some.inj hr
   exact FinQ.r1 [aI64 (wrapF .i64 (0 - v12))]
  ·refine .skip <| .seq <| .ru fine <| .ret ?_
   obtain rfl := Option.some.inj hr
   exact FinQ.r1 [aI64 v12]

theorem fraction_Valid_ok (n : Nat) (x' : api_Rat) (r : Bool) (hr : fraction_Valid n x' = some r) : FnOk Tryz.prog 166 [.agg (api_Rat.c x')] (aB r) := by
 unfold fraction_Valid at hr
 refine FnOk.bd fine Tryz.func166 [.tmp 2] ?_
 unfold Tryz.f166
 simp only [Option.getD_some]
 refine .seq <| .r2 fine 27 [(1, .hp 0 0)] [.own (api_Rat.c x')] <| .seq <| .seq ?_
 obtain ⟨v1, hc2, hr⟩ := bd hr
 rcases Bool.eq_false_or_eq_true (!v1) with hb3 | hb3
 ·replace hr := cd_t hb3 hr
  refine .g1 fine (ok0 (integer_Valid_ok n x'.Num v1 hc2)) <| .mu 2 <| .ca cf0 <| .p0 (v := aB true) (Eq.trans (b := some (.pure (aB (!v1)))) (by kernel_rfl) (by rw [hb3])) <| .mu 12 <| .done <| .n2 27 [(1, .hp 0 0), (18, aB true)] [.own (api_Rat.c x')] <| .cT (by kernel_rfl) <| .seq <| .ru fine <| .ret ?_
  obtain rfl := Option.some.inj hr
  exact FinQ.r1 [aB false]
 ·replace hr := cd_f hb3 hr
  obtain ⟨v4, hc5, hr⟩ := bd hr
  rcases Bool.eq_false_or_eq_true (!v4) with hb6 | hb6
  ·replace hr := cd_t hb6 hr
   refine .gn fine (ca1 (ok0 (integer_Valid_ok n x'.Num v1 hc2)) (ca3 (ok0 (integer_Valid_ok n x'.Den v4 hc5)))) <| .mu 2 <| .ca cf0 <| .p0 (v := aB false) (Eq.trans (b := some (.pure (aB (!v1)))) (by kernel_rfl) (by rw [hb3])) <| .mu 3 <| .ca (cfA (fun h => by rw [sv hc5 hc2 (integer_Valid_cg n h)]) cf0) <| .pure (v := aB true) (by kernel_rfl) (Eq.trans (b := some (.pure (aB (!v4)))) (by kernel_rfl) (by rw [hb6])) <| .mu 7 <| .done <| .n2 27 [(1, .hp 0 0), (18, aB true)] [.own (api_Rat.c x')] <| .cT (by kernel_rfl) <| .seq <| .ru fine <| .ret ?_
   obtain rfl := Option.some.inj hr
   exact FinQ.r1 [aB false]
  ·replace hr := cd_f hb6 hr
   obtain ⟨v7, hc8, hr⟩ := bd hr
   refine .gn fine (ca1 (ok0 (integer_Valid_ok n x'.Num v1 hc2)) (ca1 (ok0 (integer_Valid_ok n x'.Den v4 hc5)) (ca3 (ok0 (integer_Sign_ok n x'.Den v7 hc8))))) <| .mu 2 <| .ca cf0 <| .p0 (v := aB false) (Eq.trans (b := some (.pure (aB (!v1)))) (by kernel_rfl) (by rw [hb3])) <| .mu 3 <| .ca (cfA (fun h => by rw [sv hc5 hc2 (integer_Valid_cg n h)]) cf0) <| .pure (v := aB false) (by kernel_rfl) (Eq.trans (b := some (.pure (aB (!v4)))) (by kernel_rfl) (by rw [hb6])) <| .mu 4 <| .ca (cfF (cfF cf0)) <| .mu 2 <| .done <| .n2 27 [(1, .hp 0 0), (18, aB (decide (v7 ≤ 0)))] [.own (api_Rat.c x')] ?_
   refine .cd hr (fun hb9 hr => ?_) (fun hb9 hr => ?_)
   ·refine .seq <| .ru fine <| .ret ?_
    obtain rfl := Option.some.inj hr
    exact FinQ.r1 [aB false]
   ·refine .skip <| .seq ?_
    obtain ⟨v10, hc11, v12, hc13, v14, hc15, hr⟩ := bd3 hr
    refine .gn fine (ca1 (ok0 (integer_Gcd_ok n x'.Num x'.Den v10 hc11)) (ca1 (ok0 (integer_Of_ok n 1 v12 hc13)) (ca3 (ok0 (integer_Compare_ok n v10 v12 v14 hc15))))) <| .mu 4 <| .ca cf0 <| .ca (cfF cf0) <| .ca (cfF (cfF cf0)) <| .mu 2 <| .done <| .ret ?_
    obtain rfl := Option.some.inj hr
    exact FinQ.r1 [aB ((v14 : Int) == 0)]

theorem fraction_copied_ok (n : Nat) (x' : api_Rat) (r : api_Rat) (hr : fraction_copied n x' = some r) : FnOk Tryz.prog 167 [.agg (api_Rat.c x')] (.agg (api_Rat.c r)) := by
 unfold fraction_copied at hr
 refine FnOk.bd fine Tryz.func167 [.cell 2 74] ?_
 unfold Tryz.f167
 simp only [Option.getD_some]
 refine .seq <| .r2 fine 12 [(1, .hp 0 0), (2, .hp 1 0)] [.own (api_Rat.c x'), .own [aB false, nS, aB false, nS]] <| .seq ?_
 obtain ⟨v1, hc2, v3, hc4, v5, hc6, hr⟩ := bd3 hr
 obtain ⟨v7, hc8, hr⟩ := bd hr
 refine .tn fine (ca1 (ok0 (integer_Neg_ok n x'.Num v1 hc2)) (ca1 (ok0 (integer_Neg_ok n v1 v3 hc4)) (ca1 (ok0 (integer_Neg_ok n x'.Den v5 hc6)) (ca3 (ok0 (integer_Neg_ok n v5 v7 hc8)))))) <| .mu 2 <| .ca cf0 <| .ca (cfA (fun h => by rw [sv hc4 hc2 (integer_Neg_cg n h)]) cf0) <| .mu 2 <| .ca (cfA (fun h => by rw [sv hc6 hc2 (integer_Neg_cg n h)]) (cfA (fun h => by rw [sv hc6 hc4 (integer_Neg_cg n h)]) cf0)) <| .ca (cfA (fun h => by rw [sv hc8 hc2 (integer_Neg_cg n h)]) (cfA (fun h => by rw [sv hc8 hc4 (integer_Neg_cg n h)]) (cfA (fun h => by rw [sv hc8 hc6 (integer_Neg_cg n h)]) cf0))) <| .mu 2 ?_
 refine .done ⟨by kernel_rfl, ?_⟩
 refine .n2 12 [(2, .hp 1 0)] [.own (api_Rat.c x'), .own [aB v3.Negative, sU32 v3.Groups, aB v7.Negative, sU32 v7.Groups]] <| .ret ?_
 obtain rfl := Option.some.inj hr
 exact FinQ.r1 [.agg [aB v3.Negative, sU32 v3.Groups, aB v7.Negative, sU32 v7.Groups]]

theorem fraction_Whole_ok (n : Nat) (n' : Int) (r : api_Rat) (hr : fraction_Whole n n' = some r) : FnOk Tryz.prog 108 [aI64 n'] (.agg (api_Rat.c r)) := by
 unfold fraction_Whole at hr
 refine FnOk.bd fine Tryz.func108 [.cell 2 74] ?_
 unfold Tryz.f108
 simp only [Option.getD_some]
 refine .seq <| .r2 fine 7 [(0, aI64 n'), (2, .hp 0 0)] [.own [aB false, nS, aB false, nS]] <| .seq ?_
 obtain ⟨v1, hc2, v3, hc4, hr⟩ := bd2 hr
 refine .gn fine (ca1 (ok0 (integer_Of_ok n n' v1 hc2)) (ca3 (ok0 (integer_Of_ok n 1 v3 hc4)))) <| .mu 1 <| .ca cf0 <| .ca (cfA (fun h => by rw [sv hc4 hc2 (integer_Of_cg n h)]) cf0) <| .mu 2 <| .done <| .n2 7 [(2, .hp 0 0)] [.own [aB v1.Negative, sU32 v1.Groups, aB v3.Negative, sU32 v3.Groups]] <| .ret ?_
 obtain rfl := Option.some.inj hr
 exact FinQ.r1 [.agg [aB v1.Negative, sU32 v1.Groups, aB v3.Negative, sU32 v3.Groups]]

theorem fraction_Value_inj {x' : api_Rat} {x'_ : api_Rat} (h : ([.agg [.at (.bool x'.Num.Negative), slT (iC .u32) x'.Num.Groups, .at (.bool x'.Den.Negative), slT (iC .u32) x'.Den.Groups]] : List AV) = [.agg [.at (.bool x'_.Num.Negative), slT (iC .u32) x'_.Num.Groups, .at (.bool x'_.Den.Negative), slT (iC .u32) x'_.Den.Groups]]) : x' = x'_ := by
 obtain ⟨⟨_, _⟩, ⟨_, _⟩⟩ := x'
 obtain ⟨⟨_, _⟩, ⟨_, _⟩⟩ := x'_
 simp only [List.cons.injEq, AV.agg.injEq, AV.at.injEq, Value.int.injEq, Value.bool.injEq, AV.fn.injEq, AV.pp.injEq, true_and, and_true, slT_inj_int] at h
 simp_all
theorem fraction_Value_cg (n : Nat) {x' : api_Rat} {x'_ : api_Rat} (h : ([.agg [.at (.bool x'.Num.Negative), slT (iC .u32) x'.Num.Groups, .at (.bool x'.Den.Negative), slT (iC .u32) x'.Den.Groups]] : List AV) = [.agg [.at (.bool x'_.Num.Negative), slT (iC .u32) x'_.Num.Groups, .at (.bool x'_.Den.Negative), slT (iC .u32) x'_.Den.Groups]]) : fraction_Value n x' = fraction_Value n x'_ := by
 obtain rfl := fraction_Value_inj h
 rfl
theorem fraction_Value_ok (n : Nat) (x' : api_Rat) (r : api_Rat) (hr : fraction_Value n x' = some r) : FnOk Tryz.prog 129 [.agg (api_Rat.c x')] (.agg (api_Rat.c r)) := by
 unfold fraction_Value at hr
 refine FnOk.bd fine Tryz.func129 [.cell 2 74] ?_
 unfold Tryz.f129
 simp only [Option.getD_some]
 refine .seq <| .r2 fine 8 [(1, .hp 0 0), (2, .hp 1 0)] [.own (api_Rat.c x'), .own [aB false, nS, aB false, nS]] <| .seq <| .seq ?_
 obtain ⟨v1, hc2, hr⟩ := bd hr
 refine .g1 fine (ok0 (fraction_Valid_ok n x' v1 hc2)) <| .mu 1 <| .ca cf0 <| .done <| .n2 8 [(1, .hp 0 0), (2, .hp 1 0), (4, aB v1)] [.own (api_Rat.c x'), .own [aB false, nS, aB false, nS]] ?_
 refine .cd hr (fun hb3 hr => ?_) (fun hb3 hr => ?_)
 ·refine .seq ?_
  obtain ⟨v4, hc5, hr⟩ := bd hr
  refine .g1 fine (ok0 (fraction_copied_ok n x' v4 hc5)) <| .mu 1 <| .ca cf0 <| .mu 1 <| .done <| .n2 8 [(2, .hp 1 0)] [.own (api_Rat.c x'), .own (api_Rat.c v4)] <| .ret ?_
  obtain rfl := Option.some.inj hr
  exact FinQ.r1 [.agg (api_Rat.c v4)]
 ·refine .skip <| .seq ?_
  obtain ⟨v6, hc7, hr⟩ := bd hr
  refine .g1 fine (ok0 (fraction_Whole_ok n 0 v6 hc7)) <| .ca cf0 <| .mu 1 <| .done <| .n2 8 [(2, .hp 1 0)] [.own (api_Rat.c x'), .own (api_Rat.c v6)] <| .ret ?_
  obtain rfl := Option.some.inj hr
  exact FinQ.r1 [.agg (api_Rat.c v6)]

theorem integer_Mul_inj {x' : api_Int} {y : api_Int} {x'_ : api_Int} {y_ : api_Int} (h : ([.agg [.at (.bool x'.Negative), slT (iC .u32) x'.Groups], .agg [.at (.bool y.Negative), slT (iC .u32) y.Groups]] : List AV) = [.agg [.at (.bool x'_.Negative), slT (iC .u32) x'_.Groups], .agg [.at (.bool y_.Negative), slT (iC .u32) y_.Groups]]) : x' = x'_ ∧ y = y_ := by
 obtain ⟨_, _⟩ := x'
 obtain ⟨_, _⟩ := x'_
 obtain ⟨_, _⟩ := y
 obtain ⟨_, _⟩ := y_
 simp only [List.cons.injEq, AV.agg.injEq, AV.at.injEq, Value.int.injEq, Value.bool.injEq, AV.fn.injEq, AV.pp.injEq, true_and, and_true, slT_inj_int] at h
 simp_all
theorem integer_Mul_cg (n : Nat) {x' : api_Int} {y : api_Int} {x'_ : api_Int} {y_ : api_Int} (h : ([.agg [.at (.bool x'.Negative), slT (iC .u32) x'.Groups], .agg [.at (.bool y.Negative), slT (iC .u32) y.Groups]] : List AV) = [.agg [.at (.bool x'_.Negative), slT (iC .u32) x'_.Groups], .agg [.at (.bool y_.Negative), slT (iC .u32) y_.Groups]]) : integer_Mul n x' y = integer_Mul n x'_ y_ := by
 obtain ⟨rfl, rfl⟩ := integer_Mul_inj h
 rfl
theorem integer_Mul_ok (n : Nat) (x' : api_Int) (y : api_Int) (r : api_Int) (hr : integer_Mul n x' y = some r) : FnOk Tryz.prog 114 [.agg (api_Int.c x'), .agg (api_Int.c y)] (.agg (api_Int.c r)) := by
 unfold integer_Mul at hr
 refine FnOk.bd fine Tryz.func114 [.cell 4 72] ?_
 unfold Tryz.f114
 simp only [Option.getD_some]
 refine .seq <| .r2 fine 16 [(2, .hp 0 0), (3, .hp 1 0), (4, .hp 2 0)] [.own (api_Int.c x'), .own (api_Int.c y), .own [aB false, nS]] <| .seq ?_
 obtain ⟨v1, hc2, v3, hc4, v5, hc6, hr⟩ := bd3 hr
 obtain ⟨v7, hc8, hr⟩ := bd hr
 refine .tn fine (ca1 (ok0 (integer_groups_ok n x' v1 hc2)) (ca1 (ok0 (integer_groups_ok n y v3 hc4)) (ca1 (ok0 (integer_times_ok n v1 v3 v5 hc6)) (ca3 (ok0 (integer_made_ok n (x'.Negative != y.Negative) v5 v7 hc8)))))) <| .mu 6 <| .ca cf0 <| .mu 1 <| .ca (cfA (fun h => by rw [sv hc4 hc2 (integer_groups_cg n h)]) cf0) <| .ca (cfF (cfF cf0)) <| .ca (cfF (cfF (cfF cf0))) <| .mu 1 ?_
 refine .done ⟨by kernel_rfl, ?_⟩
 refine .n2 16 [(4, .hp 2 0)] [.own (api_Int.c x'), .own (api_Int.c y), .own (api_Int.c v7)] <| .ret ?_
 obtain rfl := Option.some.inj hr
 exact FinQ.r1 [.agg (api_Int.c v7)]

theorem integer_sum_ok (n : Nat) (negative : Bool) (a : List Int) (other : Bool) (b : List Int) (r : api_Int) (hr : integer_sum n negative a other b = some r) : FnOk Tryz.prog 147 [aB negative, sU32 a, aB other, sU32 b] (.agg (api_Int.c r)) := by
 unfold integer_sum at hr
 refine FnOk.bd fine Tryz.func147 [.cell 8 72] ?_
 unfold Tryz.f147
 simp only [Option.getD_some]
 refine .seq <| .r2 fine 33 [(0, aB negative), (1, sU32 a), (2, aB other), (3, sU32 b), (8, .hp 0 0)] [.own [aB false, nS]] <| .seq <| .block <| .seq <| .r3 fine 33 [(0, aB negative), (1, sU32 a), (2, aB other), (3, sU32 b), (8, .hp 0 0), (9, aB (negative == other))] ?_
 refine .cd hr (fun hb1 hr => ?_) (fun hb1 hr => ?_)
 ·refine .seq ?_
  obtain ⟨v2, hc3, v4, hc5, hr⟩ := bd2 hr
  refine .gn fine (ca1 (ok0 (integer_plus_ok n a b v2 hc3)) (ca3 (ok0 (integer_made_ok n negative v2 v4 hc5)))) <| .mu 3 <| .ca cf0 <| .ca (cfF cf0) <| .mu 1 <| .done <| .n2 33 [(8, .hp 0 0)] [.own (api_Int.c v4)] <| .ret ?_
  obtain rfl := Option.some.inj hr
  exact FinQ.r1 [.agg (api_Int.c v4)]
 ·refine .seq ?_
  obtain ⟨v6, hc7, hr⟩ := bd hr
  refine .g1 fine (ok0 (integer_compare_ok n a b v6 hc7)) <| .mu 2 <| .ca cf0 <| .mu 2 <| .done <| .n2 33 [(0, aB negative), (1, sU32 a), (2, aB other), (3, sU32 b), (8, .hp 0 0), (18, aB (decide (v6 ≥ 0)))] [.own [aB false, nS]] ?_
  refine .cd hr (fun hb8 hr => ?_) (fun hb8 hr => ?_)
  ·refine .seq ?_
   obtain ⟨v9, hc10, v11, hc12, hr⟩ := bd2 hr
   refine .gn fine (ca1 (ok0 (integer_minus_ok n a b v9 hc10)) (ca3 (ok0 (integer_made_ok n negative v9 v11 hc12)))) <| .mu 3 <| .ca cf0 <| .ca (cfF cf0) <| .mu 1 <| .done <| .n2 33 [(8, .hp 0 0)] [.own (api_Int.c v11)] <| .ret ?_
   obtain rfl := Option.some.inj hr
   exact FinQ.r1 [.agg (api_Int.c v11)]
  ·refine .skip <| .pop <| .seq ?_
   obtain ⟨v13, hc14, v15, hc16, hr⟩ := bd2 hr
   refine .gn fine (ca1 (ok0 (integer_minus_ok n b a v13 hc14)) (ca3 (ok0 (integer_made_ok n other v13 v15 hc16)))) <| .mu 3 <| .ca cf0 <| .ca (cfF cf0) <| .mu 1 <| .done <| .n2 33 [(8, .hp 0 0)] [.own (api_Int.c v15)] <| .ret ?_
   obtain rfl := Option.some.inj hr
   exact FinQ.r1 [.agg (api_Int.c v15)]

theorem integer_Add_ok (n : Nat) (x' : api_Int) (y : api_Int) (r : api_Int) (hr : integer_Add n x' y = some r) : FnOk Tryz.prog 113 [.agg (api_Int.c x'), .agg (api_Int.c y)] (.agg (api_Int.c r)) := by
 unfold integer_Add at hr
 refine FnOk.bd fine Tryz.func113 [.cell 4 72] ?_
 unfold Tryz.f113
 simp only [Option.getD_some]
 refine .seq <| .r2 fine 14 [(2, .hp 0 0), (3, .hp 1 0), (4, .hp 2 0)] [.own (api_Int.c x'), .own (api_Int.c y), .own [aB false, nS]] <| .seq ?_
 obtain ⟨v1, hc2, v3, hc4, v5, hc6, hr⟩ := bd3 hr
 refine .tn fine (ca1 (ok0 (integer_groups_ok n x' v1 hc2)) (ca1 (ok0 (integer_groups_ok n y v3 hc4)) (ca3 (ok0 (integer_sum_ok n x'.Negative v1 y.Negative v3 v5 hc6))))) <| .mu 3 <| .ca cf0 <| .mu 3 <| .ca (cfA (fun h => by rw [sv hc4 hc2 (integer_groups_cg n h)]) cf0) <| .ca (cfF (cfF cf0)) <| .mu 1 ?_
 refine .done ⟨by kernel_rfl, ?_⟩
 refine .n2 14 [(4, .hp 2 0)] [.own (api_Int.c x'), .own (api_Int.c y), .own (api_Int.c v5)] <| .ret ?_
 obtain rfl := Option.some.inj hr
 exact FinQ.r1 [.agg (api_Int.c v5)]

theorem fraction_Add_ok (n : Nat) (x' : api_Rat) (y : api_Rat) (r : api_Rat) (hr : fraction_Add n x' y = some r) : FnOk Tryz.prog 88 [.agg (api_Rat.c x'), .agg (api_Rat.c y)] (.agg (api_Rat.c r)) := by
 unfold fraction_Add at hr
 refine FnOk.bd fine Tryz.func88 [.cell 4 74] ?_
 unfold Tryz.f88
 simp only [Option.getD_some]
 refine .seq <| .r2 fine 26 [(2, .hp 0 0), (3, .hp 1 0), (4, .hp 2 0)] [.own (api_Rat.c x'), .own (api_Rat.c y), .own [aB false, nS, aB false, nS]] <| .seq ?_
 obtain ⟨v1, hc2, v3, hc4, hr⟩ := bd2 hr
 refine .tn fine (ca1 (ok0 (fraction_Value_ok n x' v1 hc2)) (ca3 (ok0 (fraction_Value_ok n y v3 hc4)))) <| .mu 1 <| .ca cf0 <| .mu 1 <| .ca (cfA (fun h => by rw [sv hc4 hc2 (fraction_Value_cg n h)]) cf0) <| .mu 2 ?_
 refine .done ⟨by kernel_rfl, ?_⟩
 refine .n2 26 [(2, .hp 0 0), (3, .hp 1 0), (4, .hp 2 0)] [.own (api_Rat.c v1), .own (api_Rat.c v3), .own [aB false, nS, aB false, nS]] <| .seq ?_
 obtain ⟨v5, hc6, v7, hc8, v9, hc10, hr⟩ := bd3 hr
 obtain ⟨v11, hc12, v13, hc14, hr⟩ := bd2 hr
 refine .tn fine (ca1 (ok0 (integer_Mul_ok n v1.Num v3.Den v5 hc6)) (ca1 (ok0 (integer_Mul_ok n v3.Num v1.Den v7 hc8)) (ca1 (ok0 (integer_Add_ok n v5 v7 v9 hc10)) (ca1 (ok0 (integer_Mul_ok n v1.Den v3.Den v11 hc12)) (ca3 (ok0 (fraction_reduced_ok n v9 v11 v13 hc14))))))) <| .mu 4 <| .ca cf0 <| .mu 4 <| .ca (cfA (fun h => by rw [sv hc8 hc6 (integer_Mul_cg n h)]) cf0) <| .ca (cfF (cfF cf0)) <| .mu 4 <| .ca (cfA (fun h => by rw [sv hc12 hc6 (integer_Mul_cg n h)]) (cfA (fun h => by rw [sv hc12 hc8 (integer_Mul_cg n h)]) (cfF cf0))) <| .ca (cfF (cfF (cfF (cfF cf0)))) <| .mu 1 ?_
 refine .done ⟨by kernel_rfl, ?_⟩
 refine .n2 26 [(4, .hp 2 0)] [.own (api_Rat.c v1), .own (api_Rat.c v3), .own (api_Rat.c v13)] <| .ret ?_
 obtain rfl := Option.some.inj hr
 exact FinQ.r1 [.agg (api_Rat.c v13)]

theorem fraction_Floor_ok (n : Nat) (x' : api_Rat) (r : api_Int) (hr : fraction_Floor n x' = some r) : FnOk Tryz.prog 87 [.agg (api_Rat.c x')] (.agg (api_Int.c r)) := by
 unfold fraction_Floor at hr
 refine FnOk.bd fine Tryz.func87 [.cell 2 72] ?_
 unfold Tryz.f87
 simp only [Option.getD_some]
 refine .seq <| .r2 fine 18 [(1, .hp 0 0), (2, .hp 1 0)] [.own (api_Rat.c x'), .own [aB false, nS]] <| .seq ?_
 obtain ⟨v1, hc2, hr⟩ := bd hr
 refine .g1 fine (ok0 (fraction_Value_ok n x' v1 hc2)) <| .mu 1 <| .ca cf0 <| .mu 1 <| .done <| .n2 18 [(1, .hp 0 0), (2, .hp 1 0)] [.own (api_Rat.c v1), .own [aB false, nS]] <| .seq ?_
 obtain ⟨v3, hc4, hr⟩ := bd hr
 refine .g1 fine (ok0 (integer_Divide_ok n v1.Num v1.Den v3 hc4)) <| .mu 4 <| .ca cf0 <| .mu 9 <| .done <| .n2 18 [(2, .hp 1 0), (3, .hp 2 0)] [.own (api_Rat.c v1), .own [aB false, nS], .own (api_Int.c v3.1), .own (api_Int.c v3.2.1)] <| .seq <| .r2 fine 18 [(2, .hp 1 0)] [.own (api_Rat.c v1), .own (api_Int.c v3.1), .own (api_Int.c v3.1), .own (api_Int.c v3.2.1)] <| .ret ?_
 obtain rfl := Option.some.inj hr
 exact FinQ.r1 [.agg (api_Int.c v3.1)]

theorem integer_Small_ok (n : Nat) (x' : api_Int) (r : Int × Bool) (hr : integer_Small n x' = some r) : FnOk Tryz.prog 86 [.agg (api_Int.c x')] (.tup [aI64 r.1, aB r.2]) := by
 unfold integer_Small at hr
 obtain ⟨g, hg, hr⟩ := bd hr
 obtain ⟨h1, h2, hr⟩ := gd2 hr
 obtain rfl := Option.some.inj hr
 exact Go.Proofs.YtkhmlbchphhokaaGreat.small_fn (integer_groups_ok n x' g hg) h1 h2

theorem depth_Depths_ok (n : Nat) (f : api_Field) (focal : Int) (base : Int) (r : api_Field × Int) (hr : depth_Depths n f focal base = some r) : FnOk Tryz.prog 32 [.agg (api_Field.c f), aI64 focal, aI64 base] (.tup [.agg (api_Field.c r.1), aI64 r.2]) := by
 unfold depth_Depths at hr
 refine FnOk.bd fine Tryz.func32 [.cell 6 39, .tmp 7] ?_
 unfold Tryz.f32
 simp only [Option.getD_some]
 refine .seq <| .r2 fine 70 [(1, aI64 focal), (2, aI64 base), (3, .hp 0 0), (6, .hp 1 0)] [.own (api_Field.c f), .own [aI64 0, aI64 0, nS]] <| .seq <| .seq ?_
 obtain ⟨v1, hc2, hr⟩ := bd hr
 refine .g1 fine (ok0 (depth_Check_ok n f v1 hc2)) <| .mu 1 <| .ca cf0 <| .mu 1 <| .done <| .n2 70 [(1, aI64 focal), (2, aI64 base), (3, .hp 0 0), (6, .hp 1 0), (20, aB ((v1 : Int) != 0))] [.own (api_Field.c f), .own [aI64 0, aI64 0, nS]] ?_
 refine .cd hr (fun hb4 hr => ?_) (fun hb4 hr => ?_)
 ·refine .seq <| .r3 fine 70 [(6, .hp 1 0), (7, aI64 1)] <| .ret ?_
  obtain rfl := Option.some.inj hr
  exact FinQ.ret (vs := [.agg [aI64 0, aI64 0, nS], aI64 1]) (by kernel_rfl) (Sn.tup (SnL.cons (Sn.agg (SnL.cons (Sn.pure rfl) (SnL.cons (Sn.pure rfl) (SnL.cons Sn.nilsl SnL.nil)))) (SnL.cons (Sn.pure rfl) SnL.nil)))
 ·refine .skip <| .seq <| .seq ?_
  obtain ⟨v5, hc6, hr⟩ := bd hr
  refine .g1 fine (ok0 (depth_optics_ok n focal base v5 hc6)) <| .mu 2 <| .ca cf0 <| .mu 1 <| .done <| .n2 70 [(1, aI64 focal), (2, aI64 base), (3, .hp 0 0), (6, .hp 1 0), (8, aI64 v5)] [.own (api_Field.c f), .own [aI64 0, aI64 0, nS]] <| .seq <| .r3 fine 70 [(1, aI64 focal), (2, aI64 base), (3, .hp 0 0), (6, .hp 1 0), (8, aI64 v5), (26, aB ((v5 : Int) != 0))] ?_
  refine .cd hr (fun hb8 hr => ?_) (fun hb8 hr => ?_)
  ·refine .seq <| .r3 fine 70 [(6, .hp 1 0), (7, aI64 v5)] <| .ret ?_
   obtain rfl := Option.some.inj hr
   exact FinQ.ret (vs := [.agg [aI64 0, aI64 0, nS], aI64 v5]) (by kernel_rfl) (Sn.tup (SnL.cons (Sn.agg (SnL.cons (Sn.pure rfl) (SnL.cons (Sn.pure rfl) (SnL.cons Sn.nilsl SnL.nil)))) (SnL.cons (Sn.pure rfl) SnL.nil)))
  ·refine .skip <| .seq ?_
   obtain ⟨v9, hc10, hr⟩ := bd hr
   refine .g1 fine (callOk_mutU (args := [.agg (api_Field.c f)]) 0 1 [] [false] (depth_blank_w_ok n f v9 hc10) trivial (by exact ⟨ids_flat (iC_pure _) _, trivial⟩) rfl rfl (by kernel_rfl) (by kernel_rfl)) <| .mu 1 <| .ca cf0 <| .mu 2 <| .done <| .n2 70 [(1, aI64 focal), (2, aI64 base), (3, .hp 0 0), (6, .hp 1 0), (9, .hp 3 0)] [.own (api_Field.c f), .own [aI64 0, aI64 0, nS], .own (v9.2.2.flatMap (iC .i64)), .own [aI64 v9.1, aI64 v9.2.1, .hs 2 0 v9.2.2.length 1]] <| .seq ?_
   obtain ⟨v11, hc12, hr⟩ := bd hr
   refine .g1 fine (ok0 (fraction_Of_ok n 1 2 v11 hc12)) <| .ca cf0 <| .mu 6 <| .done <| .n2 70 [(1, aI64 focal), (2, aI64 base), (3, .hp 0 0), (6, .hp 1 0), (9, .hp 3 0), (10, .hp 4 0)] [.own (api_Field.c f), .own [aI64 0, aI64 0, nS], .own (v9.2.2.flatMap (iC .i64)), .own [aI64 v9.1, aI64 v9.2.1, .hs 2 0 v9.2.2.length 1], .own (api_Rat.c v11.1)] <| .seq <| .seq <| .r3 fine 70 [(1, aI64 focal), (2, aI64 base), (6, .hp 1 0), (9, .hp 3 0), (10, .hp 4 0), (36, sI64 f.V), (37, aI64 (f.V.length : Int)), (38, aI64 0)] <| .block ?_
   replace hr := bd hr; obtain ⟨out_29, hL46, hr⟩ := hr
   refine .loopO (σ := fun z0 => match z0 with | (out_13, x_14) => ⟨mkS 70 0 [(1, aI64 focal), (2, aI64 base), (6, .hp 0 0), (9, .hp 1 0), (10, .hp 3 0), (36, sI64 f.V), (37, aI64 (f.V.length : Int)), (38, aI64 x_14)], [.own [aI64 0, aI64 0, nS], .own [aI64 v9.1, aI64 v9.2.1, .hs 2 0 out_13.length 1], .own (out_13.flatMap (iC .i64)), .own (api_Rat.c v11.1)]⟩) (Q := fun x st' => x = .exit 0 ∧ Wk 0 st' ⟨mkS 70 0 [(6, .hp 0 0), (9, .hp 1 0)], [.own [aI64 0, aI64 0, nS], .own [aI64 v9.1, aI64 v9.2.1, .hs 2 0 out_29.length 1], .own (out_29.flatMap (iC .i64))]⟩) hL46 ((Wk.gc [1, 2, 6, 9, 10, 36, 37, 38] [(1, true), (3, true), (2, false), (4, true)] rfl (pKt (pKt (pKo (iC .i64) (iC_pure _) v9.2.2 trivial)))).to (by kernel_rfl)) ?_ ?_
   ·clear hr
    rintro m ⟨out_13, x_14⟩ hr
    show CQ _ _ _ _ _ ⟨_, _⟩
    refine .seq <| .r3 fine 70 [(1, aI64 focal), (2, aI64 base), (6, .hp 0 0), (9, .hp 1 0), (10, .hp 3 0), (36, sI64 f.V), (37, aI64 (f.V.length : Int)), (38, aI64 x_14), (39, aB (decide (x_14 < (f.V.length : Int))))] <| .seq ?_
    refine .cd hr (fun hb32 hr => ?_) (fun hb32 hr => ?_)
    ·refine .skip <| .seq <| .block <| .seq ?_
     obtain ⟨hg33, hr⟩ := gd hr
     refine .r0 fine <| .mu 1 <| .p0 (v := .pp (f.V.flatMap (iC .i64)) (x_14.toNat * 1)) (Eq.trans (b := ORes.ofP (guardV (inR x_14 f.V.length) (.pp (f.V.flatMap (iC .i64)) (x_14.toNat * 1)))) (by kernel_rfl) (ofP_guard hg33)) <| .p0 (v := aI64 (gt f.V x_14)) (Eq.trans (b := ORes.ofP ((f.V.flatMap (iC .i64))[x_14.toNat * 1]?)) (by kernel_rfl) (ofP_some (flat_get (iC_len _) (inR_lt hg33) (by decide : 0 < 1) (by omega : x_14.toNat * 1 = x_14.toNat * 1 + 0) (by kernel_rfl)))) <| .mu 2 <| .done <| .n2 70 [(1, aI64 focal), (2, aI64 base), (6, .hp 0 0), (9, .hp 1 0), (10, .hp 3 0), (12, aI64 x_14), (13, aI64 (gt f.V x_14)), (36, sI64 f.V), (37, aI64 (f.V.length : Int)), (38, aI64 x_14)] [.own [aI64 0, aI64 0, nS], .own [aI64 v9.1, aI64 v9.2.1, .hs 2 0 out_13.length 1], .own (out_13.flatMap (iC .i64)), .own (api_Rat.c v11.1)] <| .seq <| .seq <| .r3 fine 70 [(1, aI64 focal), (2, aI64 base), (6, .hp 0 0), (9, .hp 1 0), (10, .hp 3 0), (12, aI64 x_14), (13, aI64 (gt f.V x_14)), (36, sI64 f.V), (37, aI64 (f.V.length : Int)), (38, aI64 x_14), (44, aB (decide ((gt f.V x_14) < 1)))] ?_
     refine .cd hr (fun hb35 hr => ?_) (fun hb35 hr => ?_)
     ·refine .exit rfl <| .ru fine ?_
      exact loopF_back (out_13, wrapF .i64 (x_14 + 1)) hr ((Wk.gc [1, 2, 6, 9, 10, 36, 37, 38] [(0, true), (1, true), (2, false), (3, true)] rfl (pKt (pKt (pKo (iC .i64) (iC_pure _) out_13 trivial)))).to (by kernel_rfl))
     ·refine .skip <| .seq ?_
      obtain ⟨v36, hc37, hr⟩ := bd hr
      refine .g1 fine (ok0 (fraction_Of_ok n (wrapF .i64 (focal * base)) (wrapF .i64 (64 * (gt f.V x_14))) v36 hc37)) <| .mu 5 <| .ca cf0 <| .mu 6 <| .done <| .n2 70 [(1, aI64 focal), (2, aI64 base), (6, .hp 0 0), (9, .hp 1 0), (10, .hp 3 0), (12, aI64 x_14), (14, .hp 4 0), (36, sI64 f.V), (37, aI64 (f.V.length : Int)), (38, aI64 x_14)] [.own [aI64 0, aI64 0, nS], .own [aI64 v9.1, aI64 v9.2.1, .hs 2 0 out_13.length 1], .own (out_13.flatMap (iC .i64)), .own (api_Rat.c v11.1), .own (api_Rat.c v36.1)] <| .seq ?_
      obtain ⟨v38, hc39, v40, hc41, v42, hc43, hr⟩ := bd3 hr
      refine .gn fine (ca1 (ok0 (fraction_Add_ok n v36.1 v11.1 v38 hc39)) (ca1 (ok0 (fraction_Floor_ok n v38 v40 hc41)) (ca3 (ok0 (integer_Small_ok n v40 v42 hc43))))) <| .mu 2 <| .ca cf0 <| .ca (cfF cf0) <| .ca (cfF (cfF cf0)) <| .mu 5 <| .done <| .n2 70 [(1, aI64 focal), (2, aI64 base), (6, .hp 0 0), (9, .hp 1 0), (10, .hp 3 0), (12, aI64 x_14), (16, aI64 v42.1), (36, sI64 f.V), (37, aI64 (f.V.length : Int)), (38, aI64 x_14)] [.own [aI64 0, aI64 0, nS], .own [aI64 v9.1, aI64 v9.2.1, .hs 2 0 out_13.length 1], .own (out_13.flatMap (iC .i64)), .own (api_Rat.c v11.1), .own (api_Rat.c v36.1)] ?_
      obtain ⟨hg44, hr⟩ := gd hr
      refine .r0 fine <| .mu 5 <| .p0 (v := .hp 2 (0 + x_14.toNat * 1)) (Eq.trans (b := ORes.ofP (guardV (inR x_14 out_13.length) (.hp 2 (0 + x_14.toNat * 1)))) (by kernel_rfl) (ofP_guard hg44)) <| .e0 (v := .unk) (ws := [(2, .own ((out_13.set x_14.toNat (mn v42.1 1048576)).flatMap (iC .i64)))]) (Eq.trans (b := stO (decide ((0 + x_14.toNat * 1) + 1 ≤ (out_13.flatMap (iC .i64)).length) && true) [(2, .own (setCells (out_13.flatMap (iC .i64)) (0 + x_14.toNat * 1) [aI64 (mn v42.1 1048576)]))]) (by kernel_rfl) (stO_t (and_t (flat_fits (iC_len _) (inR_lt hg44) (Nat.le_of_ble_eq_true rfl) (by omega : 0 + x_14.toNat * 1 = x_14.toNat * 1 + 0))) (congrArg Blk.own (flat_set (iC_len _) (inR_lt hg44) (Nat.le_of_ble_eq_true rfl) (by omega : 0 + x_14.toNat * 1 = x_14.toNat * 1 + 0) (by kernel_rfl))))) <| .done <| .pop <| .ru fine ?_
      exact loopF_back (out_13.set x_14.toNat (mn v42.1 1048576), wrapF .i64 (x_14 + 1)) hr ((Wk.recell 1 2 (b := 2) (es := 1) (len := out_13.length) (cs := [aI64 v9.1, aI64 v9.2.1, .hs 2 0 out_13.length 1]) (out_13.set x_14.toNat (mn v42.1 1048576)).length (by kernel_rfl) (by kernel_rfl) (by simp)).trans ((Wk.gc [1, 2, 6, 9, 10, 36, 37, 38] [(0, true), (1, true), (2, false), (3, true)] rfl (pKt (pKt (pKo (iC .i64) (iC_pure _) (out_13.set x_14.toNat (mn v42.1 1048576)) trivial)))).to (by kernel_rfl)))
    ·refine .leave rfl ?_
     obtain rfl := Option.some.inj hr
     exact ⟨rfl, ((Wk.gc [6, 9] [(0, true), (1, true), (2, false)] rfl (pKt (pKt (pKo (iC .i64) (iC_pure _) out_13 trivial)))).to (by kernel_rfl))⟩
   ·rintro x st' hq47
    clear hL46
    obtain ⟨rfl, hq47⟩ := hq47
    refine CQ_exit _ rfl <| .wk hq47 <| .seq <| .r2 fine 70 [(6, .hp 0 0), (7, aI64 0)] [.own [aI64 v9.1, aI64 v9.2.1, .hs 2 0 out_29.length 1], .own [aI64 v9.1, aI64 v9.2.1, .hs 2 0 out_29.length 1], .own (out_29.flatMap (iC .i64))] <| .ret ?_
    obtain rfl := Option.some.inj hr
    exact FinQ.ret (vs := [.agg [aI64 v9.1, aI64 v9.2.1, .hs 2 0 out_29.length 1], aI64 0]) (by kernel_rfl) (Sn.tup (SnL.cons (Sn.agg (SnL.cons (Sn.pure rfl) (SnL.cons (Sn.pure rfl) (SnL.cons (Sn.hs rfl (.inl rfl) (SnC.pure (ids_flat (iC_pure _) _)) (fun h => flat_nil0 h)) SnL.nil)))) (SnL.cons (Sn.pure rfl) SnL.nil)))

theorem depth_Interval_ok (n : Nat) (focal : Int) (base : Int) (d : Int) (r : api_Range × Int) (hr : depth_Interval n focal base d = some r) : FnOk Tryz.prog 52 [aI64 focal, aI64 base, aI64 d] (.tup [.agg (api_Range.c r.1), aI64 r.2]) := by
 unfold depth_Interval at hr
 refine FnOk.bd fine Tryz.func52 [.cell 6 76, .tmp 7] ?_
 unfold Tryz.f52
 simp only [Option.getD_some]
 refine .seq <| .r2 fine 52 [(0, aI64 focal), (1, aI64 base), (2, aI64 d), (6, .hp 0 0)] [.own [aB false, nS, aB false, nS, aB false, nS, aB false, nS]] <| .seq <| .seq ?_
 obtain ⟨v1, hc2, hr⟩ := bd hr
 refine .g1 fine (ok0 (depth_optics_ok n focal base v1 hc2)) <| .mu 2 <| .ca cf0 <| .mu 1 <| .done <| .n2 52 [(0, aI64 focal), (1, aI64 base), (2, aI64 d), (6, .hp 0 0), (8, aI64 v1)] [.own [aB false, nS, aB false, nS, aB false, nS, aB false, nS]] <| .seq <| .r3 fine 52 [(0, aI64 focal), (1, aI64 base), (2, aI64 d), (6, .hp 0 0), (8, aI64 v1), (17, aB ((v1 : Int) != 0))] ?_
 refine .cd hr (fun hb4 hr => ?_) (fun hb4 hr => ?_)
 ·refine .seq <| .r3 fine 52 [(6, .hp 0 0), (7, aI64 v1)] <| .ret ?_
  obtain rfl := Option.some.inj hr
  exact FinQ.ret (vs := [.agg [aB false, nS, aB false, nS, aB false, nS, aB false, nS], aI64 v1]) (by kernel_rfl) (Sn.tup (SnL.cons (Sn.agg (SnL.cons (Sn.pure rfl) (SnL.cons Sn.nilsl (SnL.cons (Sn.pure rfl) (SnL.cons Sn.nilsl (SnL.cons (Sn.pure rfl) (SnL.cons Sn.nilsl (SnL.cons (Sn.pure rfl) (SnL.cons Sn.nilsl SnL.nil))))))))) (SnL.cons (Sn.pure rfl) SnL.nil)))
 ·refine .skip <| .seq <| .seq ?_
  rcases Bool.eq_false_or_eq_true (decide (d < 1)) with hb5 | hb5
  ·replace hr := cd_t hb5 hr
   refine .r0 fine <| .mu 1 <| .p0 (v := aB true) (Eq.trans (b := some (.pure (aB (decide (d < 1))))) (by kernel_rfl) (by rw [hb5])) <| .mu 4 <| .done <| .n2 52 [(0, aI64 focal), (1, aI64 base), (2, aI64 d), (6, .hp 0 0), (25, aB true)] [.own [aB false, nS, aB false, nS, aB false, nS, aB false, nS]] <| .cT (by kernel_rfl) <| .seq <| .r3 fine 52 [(6, .hp 0 0), (7, aI64 15)] <| .ret ?_
   obtain rfl := Option.some.inj hr
   exact FinQ.ret (vs := [.agg [aB false, nS, aB false, nS, aB false, nS, aB false, nS], aI64 15]) (by kernel_rfl) (Sn.tup (SnL.cons (Sn.agg (SnL.cons (Sn.pure rfl) (SnL.cons Sn.nilsl (SnL.cons (Sn.pure rfl) (SnL.cons Sn.nilsl (SnL.cons (Sn.pure rfl) (SnL.cons Sn.nilsl (SnL.cons (Sn.pure rfl) (SnL.cons Sn.nilsl SnL.nil))))))))) (SnL.cons (Sn.pure rfl) SnL.nil)))
  ·replace hr := cd_f hb5 hr
   refine .r0 fine <| .mu 1 <| .p0 (v := aB false) (Eq.trans (b := some (.pure (aB (decide (d < 1))))) (by kernel_rfl) (by rw [hb5])) <| .mu 4 <| .done <| .n2 52 [(0, aI64 focal), (1, aI64 base), (2, aI64 d), (6, .hp 0 0), (25, aB (decide (d > 1048576)))] [.own [aB false, nS, aB false, nS, aB false, nS, aB false, nS]] ?_
   refine .cd hr (fun hb7 hr => ?_) (fun hb7 hr => ?_)
   ·refine .seq <| .r3 fine 52 [(6, .hp 0 0), (7, aI64 15)] <| .ret ?_
    obtain rfl := Option.some.inj hr
    exact FinQ.ret (vs := [.agg [aB false, nS, aB false, nS, aB false, nS, aB false, nS], aI64 15]) (by kernel_rfl) (Sn.tup (SnL.cons (Sn.agg (SnL.cons (Sn.pure rfl) (SnL.cons Sn.nilsl (SnL.cons (Sn.pure rfl) (SnL.cons Sn.nilsl (SnL.cons (Sn.pure rfl) (SnL.cons Sn.nilsl (SnL.cons (Sn.pure rfl) (SnL.cons Sn.nilsl SnL.nil))))))))) (SnL.cons (Sn.pure rfl) SnL.nil)))
   ·refine .skip <| .seq ?_
    obtain ⟨v8, hc9, hr⟩ := bd hr
    refine .g1 fine (ok0 (fraction_Of_ok n (wrapF .i64 (focal * base)) (wrapF .i64 (32 * (wrapF .i64 ((wrapF .i64 (2 * d)) + 1)))) v8 hc9)) <| .mu 7 <| .ca cf0 <| .mu 6 <| .done <| .n2 52 [(0, aI64 focal), (1, aI64 base), (2, aI64 d), (6, .hp 0 0), (9, .hp 1 0)] [.own [aB false, nS, aB false, nS, aB false, nS, aB false, nS], .own (api_Rat.c v8.1)] <| .seq ?_
    obtain ⟨v10, hc11, hr⟩ := bd hr
    refine .g1 fine (ok0 (fraction_Of_ok n (wrapF .i64 (focal * base)) (wrapF .i64 (32 * (wrapF .i64 ((wrapF .i64 (2 * d)) - 1)))) v10 hc11)) <| .mu 7 <| .ca cf0 <| .mu 6 <| .done <| .n2 52 [(6, .hp 0 0), (9, .hp 1 0), (11, .hp 2 0)] [.own [aB false, nS, aB false, nS, aB false, nS, aB false, nS], .own (api_Rat.c v8.1), .own (api_Rat.c v10.1)] <| .seq <| .r2 fine 52 [(6, .hp 0 0), (7, aI64 0)] [.own [aB v8.1.Num.Negative, sU32 v8.1.Num.Groups, aB v8.1.Den.Negative, sU32 v8.1.Den.Groups, aB v10.1.Num.Negative, sU32 v10.1.Num.Groups, aB v10.1.Den.Negative, sU32 v10.1.Den.Groups], .own (api_Rat.c v8.1), .own (api_Rat.c v10.1)] <| .ret ?_
    obtain rfl := Option.some.inj hr
    exact FinQ.ret (vs := [.agg [aB v8.1.Num.Negative, sU32 v8.1.Num.Groups, aB v8.1.Den.Negative, sU32 v8.1.Den.Groups, aB v10.1.Num.Negative, sU32 v10.1.Num.Groups, aB v10.1.Den.Negative, sU32 v10.1.Den.Groups], aI64 0]) (by kernel_rfl) (Sn.tup (SnL.cons (Sn.pure rfl) (SnL.cons (Sn.pure rfl) SnL.nil)))

theorem slices_Equal_int_int_ok (n : Nat) (s1 : List Int) (s2 : List Int) (r : Bool) (hr : slices_Equal_int_int n s1 s2 = some r) : FnOk Tryz.prog 12 [sI64 s1, sI64 s2] (aB r) := by
 unfold slices_Equal_int_int at hr
 refine FnOk.bd fine Tryz.func12 [.tmp 4] ?_
 unfold Tryz.f12
 simp only [Option.getD_some]
 refine .seq <| .r3 fine 26 [(0, sI64 s1), (1, sI64 s2)] <| .seq <| .seq <| .r3 fine 26 [(0, sI64 s1), (1, sI64 s2), (10, aB (((s1.length : Int) : Int) != (s2.length : Int)))] ?_
 refine .cd hr (fun hb1 hr => ?_) (fun hb1 hr => ?_)
 ·refine .seq <| .ru fine <| .ret ?_
  obtain rfl := Option.some.inj hr
  exact FinQ.r1 [aB false]
 ·refine .skip <| .seq <| .seq <| .r3 fine 26 [(0, sI64 s1), (1, sI64 s2), (12, aI64 (s1.length : Int)), (13, aI64 0)] <| .block ?_
  replace hr := bd hr; obtain ⟨o12, hL13, hr⟩ := hr
  refine .loopO (σ := fun z0 => match z0 with | x_2 => ⟨mkS 26 0 [(0, sI64 s1), (1, sI64 s2), (12, aI64 (s1.length : Int)), (13, aI64 x_2)], []⟩) (Q := fun x st' => match (generalizing := false) o12 with | .inl _ => x = .exit 0 ∧ Wk 0 st' ⟨mkS 26 0 [], []⟩ | .inr (r0) => x = .ret ∧ FinQ Tryz.prog [.tmp 4] (aB r0) .ret st') hL13 ((Wk.gc [0, 1, 12, 13] [] rfl pK0).to (by kernel_rfl)) ?_ ?_
  ·clear hr
   rintro m x_2 hr
   show CQ _ _ _ _ _ ⟨_, _⟩
   refine .seq <| .r3 fine 26 [(0, sI64 s1), (1, sI64 s2), (12, aI64 (s1.length : Int)), (13, aI64 x_2), (14, aB (decide (x_2 < (s1.length : Int))))] <| .seq ?_
   refine .cd hr (fun hb8 hr => ?_) (fun hb8 hr => ?_)
   ·refine .skip <| .seq <| .block <| .seq <| .r3 fine 26 [(0, sI64 s1), (1, sI64 s2), (5, aI64 x_2), (12, aI64 (s1.length : Int)), (13, aI64 x_2)] <| .seq ?_
    obtain ⟨hg9, hg10, hr⟩ := gd2 hr
    refine .regionT fine callOf_nil <| .mu 2 <| .pure (v := .pp (s1.flatMap (iC .i64)) (x_2.toNat * 1)) (by kernel_rfl) (Eq.trans (b := ORes.ofP (guardV (inR x_2 s1.length) (.pp (s1.flatMap (iC .i64)) (x_2.toNat * 1)))) (by kernel_rfl) (ofP_guard hg9)) (by kernel_rfl) <| .pure (v := aI64 (gt s1 x_2)) (by kernel_rfl) (Eq.trans (b := ORes.ofP ((s1.flatMap (iC .i64))[x_2.toNat * 1]?)) (by kernel_rfl) (ofP_some (flat_get (iC_len _) (inR_lt hg9) (by decide : 0 < 1) (by omega : x_2.toNat * 1 = x_2.toNat * 1 + 0) (by kernel_rfl)))) (by kernel_rfl) <| .mu 2 <| .pure (v := .pp (s2.flatMap (iC .i64)) (x_2.toNat * 1)) (by kernel_rfl) (Eq.trans (b := ORes.ofP (guardV (inR x_2 s2.length) (.pp (s2.flatMap (iC .i64)) (x_2.toNat * 1)))) (by kernel_rfl) (ofP_guard hg10)) (by kernel_rfl) <| .pure (v := aI64 (gt s2 x_2)) (by kernel_rfl) (Eq.trans (b := ORes.ofP ((s2.flatMap (iC .i64))[x_2.toNat * 1]?)) (by kernel_rfl) (ofP_some (flat_get (iC_len _) (inR_lt hg10) (by decide : 0 < 1) (by omega : x_2.toNat * 1 = x_2.toNat * 1 + 0) (by kernel_rfl)))) (by kernel_rfl) <| .mu 1 ?_
    refine .done ⟨by kernel_rfl, ?_⟩
    refine .n2 26 [(0, sI64 s1), (1, sI64 s2), (12, aI64 (s1.length : Int)), (13, aI64 x_2), (24, aB (((gt s1 x_2) : Int) != (gt s2 x_2)))] [] ?_
    refine .cd hr (fun hb11 hr => ?_) (fun hb11 hr => ?_)
    ·refine .seq <| .ru fine <| .ret ?_
     obtain rfl := Option.some.inj hr
     exact ⟨rfl, FinQ.ret (vs := [aB false]) (by kernel_rfl) (Sn.pure rfl)⟩
    ·refine .skip <| .pop <| .ru fine ?_
     exact loopF_back (wrapF .i64 (x_2 + 1)) hr ((Wk.gc [0, 1, 12, 13] [] rfl pK0).to (by kernel_rfl))
   ·refine .leave rfl ?_
    obtain rfl := Option.some.inj hr
    exact ⟨rfl, ((Wk.gc [] [] rfl pK0).to (by kernel_rfl))⟩
  ·rcases o12 with ⟨⟩ | r0
   ·rintro x st' hq14
    clear hL13
    obtain ⟨rfl, hq14⟩ := hq14
    refine CQ_exit _ rfl <| .wk hq14 <| .seq <| .ru fine <| .ret ?_
    obtain rfl := Option.some.inj hr
    exact FinQ.r1 [aB true]
   ·rintro x st' hq14
    clear hL13
    obtain ⟨rfl, hq14⟩ := hq14
    obtain rfl := Option.some.inj hr
    exact CQ_ret _ hq14

theorem fiduciallaw46_Same_ok (n : Nat) (a : api_Field) (b : api_Field) (r : Bool) (hr : fiduciallaw46_Same n a b = some r) : FnOk Tryz.prog 20 [.agg (api_Field.c a), .agg (api_Field.c b)] (aB r) := by
 unfold fiduciallaw46_Same at hr
 refine FnOk.bd fine Tryz.func20 [.tmp 4] ?_
 unfold Tryz.f20
 simp only [Option.getD_some]
 refine .seq <| .r2 fine 24 [(2, .hp 0 0), (3, .hp 1 0)] [.own (api_Field.c a), .own (api_Field.c b)] <| .seq ?_
 rcases Bool.eq_false_or_eq_true ((a.Width : Int) == b.Width) with hb1 | hb1
 ·replace hr := cd_t hb1 hr
  rcases Bool.eq_false_or_eq_true ((a.Height : Int) == b.Height) with hb2 | hb2
  ·replace hr := cd_t hb2 hr
   obtain ⟨v3, hc4, hr⟩ := bd hr
   refine .g1 fine (ok0 (slices_Equal_int_int_ok n a.V b.V v3 hc4)) <| .mu 4 <| .p0 (v := aB true) (Eq.trans (b := some (.pure (aB ((a.Width : Int) == b.Width)))) (by kernel_rfl) (by rw [hb1])) <| .mu 5 <| .pure (v := aB true) (by kernel_rfl) (Eq.trans (b := some (.pure (aB ((a.Height : Int) == b.Height)))) (by kernel_rfl) (by rw [hb2])) <| .mu 6 <| .ca cf0 <| .mu 2 <| .done <| .ret ?_
   obtain rfl := Option.some.inj hr
   exact FinQ.r1 [aB v3]
  ·replace hr := cd_f hb2 hr
   refine .r0 fine <| .mu 4 <| .p0 (v := aB true) (Eq.trans (b := some (.pure (aB ((a.Width : Int) == b.Width)))) (by kernel_rfl) (by rw [hb1])) <| .mu 5 <| .pure (v := aB false) (by kernel_rfl) (Eq.trans (b := some (.pure (aB ((a.Height : Int) == b.Height)))) (by kernel_rfl) (by rw [hb2])) <| .mu 9 <| .done <| .ret ?_
   obtain rfl := Option.some.inj hr
   exact FinQ.r1 [aB false]
 ·replace hr := cd_f hb1 hr
  refine .r0 fine <| .mu 4 <| .p0 (v := aB false) (Eq.trans (b := some (.pure (aB ((a.Width : Int) == b.Width)))) (by kernel_rfl) (by rw [hb1])) <| .mu 15 <| .done <| .ret ?_
  obtain rfl := Option.some.inj hr
  exact FinQ.r1 [aB false]

theorem fiducialref01_made_ok (n : Nat) (negative : Bool) (l : List Int) (r : api_Int) (hr : fiducialref01_made n negative l = some r) : FnOk Tryz.prog 190 [aB negative, sU32 l] (.agg (api_Int.c r)) := by
 unfold fiducialref01_made at hr
 refine FnOk.bd fine Tryz.func190 [.cell 4 72] ?_
 unfold Tryz.f190
 simp only [Option.getD_some]
 refine .seq <| .r2 fine 31 [(0, aB negative), (1, sU32 l), (4, .hp 0 0)] [.own [aB false, nS]] <| .seq <| .r3 fine 31 [(0, aB negative), (1, sU32 l), (4, .hp 0 0), (5, aI64 (l.length : Int))] <| .seq <| .block ?_
 replace hr := bd hr; obtain ⟨n_5, hL11, hr⟩ := hr
 refine .loopO (σ := fun z0 => match z0 with | n_1 => ⟨mkS 31 0 [(0, aB negative), (1, sU32 l), (4, .hp 0 0), (5, aI64 n_1)], [.own [aB false, nS]]⟩) (Q := fun x st' => x = .exit 0 ∧ Wk 0 st' ⟨mkS 31 0 [(0, aB negative), (1, sU32 l), (4, .hp 0 0), (5, aI64 n_5)], [.own [aB false, nS]]⟩) hL11 ((Wk.gc [0, 1, 4, 5] [(0, true)] rfl trivial).to (by kernel_rfl)) ?_ ?_
 ·clear hr
  rintro m n_1 hr
  show CQ _ _ _ _ _ ⟨_, _⟩
  refine .seq <| .seq ?_
  rcases Bool.eq_false_or_eq_true (decide (n_1 > 0)) with hb7 | hb7
  ·replace hr := cd_t hb7 hr
   obtain ⟨hg8, hr⟩ := gd hr
   refine .r0 fine <| .mu 1 <| .p0 (v := aB true) (Eq.trans (b := some (.pure (aB (decide (n_1 > 0))))) (by kernel_rfl) (by rw [hb7])) <| .mu 4 <| .pure (v := .pp (l.flatMap (iC .u32)) ((wrapF .i64 (n_1 - 1)).toNat * 1)) (by kernel_rfl) (Eq.trans (b := ORes.ofP (guardV (inR (wrapF .i64 (n_1 - 1)) l.length) (.pp (l.flatMap (iC .u32)) ((wrapF .i64 (n_1 - 1)).toNat * 1)))) (by kernel_rfl) (ofP_guard hg8)) <| .pure (v := aU32 (gt l (wrapF .i64 (n_1 - 1)))) (by kernel_rfl) (Eq.trans (b := ORes.ofP ((l.flatMap (iC .u32))[(wrapF .i64 (n_1 - 1)).toNat * 1]?)) (by kernel_rfl) (ofP_some (flat_get (iC_len _) (inR_lt hg8) (by decide : 0 < 1) (by omega : (wrapF .i64 (n_1 - 1)).toNat * 1 = (wrapF .i64 (n_1 - 1)).toNat * 1 + 0) (by kernel_rfl)))) <| .mu 2 <| .done <| .n2 31 [(0, aB negative), (1, sU32 l), (4, .hp 0 0), (5, aI64 n_1), (17, aB (((gt l (wrapF .i64 (n_1 - 1))) : Int) == 0))] [.own [aB false, nS]] ?_
   refine .cd hr (fun hb9 hr => ?_) (fun hb9 hr => ?_)
   ·refine .skip <| .block <| .ru fine <| .pop ?_
    exact loopF_back (wrapF .i64 (n_1 - 1)) hr ((Wk.gc [0, 1, 4, 5] [(0, true)] rfl trivial).to (by kernel_rfl))
   ·refine .leave rfl ?_
    obtain rfl := Option.some.inj hr
    exact ⟨rfl, ((Wk.gc [0, 1, 4, 5] [(0, true)] rfl trivial).to (by kernel_rfl))⟩
  ·replace hr := cd_f hb7 hr
   refine .r0 fine <| .mu 1 <| .p0 (v := aB false) (Eq.trans (b := some (.pure (aB (decide (n_1 > 0))))) (by kernel_rfl) (by rw [hb7])) <| .mu 8 <| .done <| .n2 31 [(0, aB negative), (1, sU32 l), (4, .hp 0 0), (5, aI64 n_1), (17, aB false)] [.own [aB false, nS]] <| .cF (by kernel_rfl) <| .leave rfl ?_
   obtain rfl := Option.some.inj hr
   exact ⟨rfl, ((Wk.gc [0, 1, 4, 5] [(0, true)] rfl trivial).to (by kernel_rfl))⟩
 ·rintro x st' hq12
  clear hL11
  obtain ⟨rfl, hq12⟩ := hq12
  refine CQ_exit _ rfl <| .wk hq12 <| .seq ?_
  rcases Bool.eq_false_or_eq_true negative with hb13 | hb13
  ·replace hr := cd_t hb13 hr
   obtain ⟨hg14, hg15, hg16, hr⟩ := gd3 hr
   refine .r0 fine <| .p0 (v := aB true) (Eq.trans (b := some (.pure (aB negative))) (by kernel_rfl) (by rw [hb13])) <| .mu 7 <| .p0 (v := sU32 ((l.drop (0 : Int).toNat).take (n_5.toNat - (0 : Int).toNat))) (Eq.trans (b := slO (inS 0 n_5 l.length) (0 : Int).toNat n_5.toNat (fun z1 z2 => .sl true (((l.flatMap (iC .u32)).drop (z1 * 1)).take ((z2 - z1) * 1)) (z2 - z1))) (by kernel_rfl) (slO_t hg14 (sub_sl (iC_len _) (inS_le hg14)))) <| .e0 (v := .hs 2 0 ((l.drop (0 : Int).toNat).take (n_5.toNat - (0 : Int).toNat)).length 1) (ws := [(1, .dead), (2, .own (((l.drop (0 : Int).toNat).take (n_5.toNat - (0 : Int).toNat)).flatMap (iC .u32)))]) (Eq.trans (b := appS (decide (((((l.drop (0 : Int).toNat).take (n_5.toNat - (0 : Int).toNat)).flatMap (iC .u32))).length = ((l.drop (0 : Int).toNat).take (n_5.toNat - (0 : Int).toNat)).length * 1)) (((l.drop (0 : Int).toNat).take (n_5.toNat - (0 : Int).toNat)).flatMap (iC .u32)) ((l.drop (0 : Int).toNat).take (n_5.toNat - (0 : Int).toNat)).length (fun z1 z2 => guardO (decide (0 + 0 * 1 ≤ (([] : List Int).flatMap (iC .u32)).length) && decide ((0 + z2) * 4 ≤ 140737488355328) && decide (0 + z2 ≤ 4611686018427387904)) (some (.eff (.hs 2 0 (0 + z2) 1) [(1, .dead), (2, .own (((([] : List Int).flatMap (iC .u32)).drop 0).take (0 * 1) ++ z1))])))) (by kernel_rfl) (appS_t (flat_lenB (iC_len _)) rfl (app_own (l := ([] : List Int)) (xs := (l.drop (0 : Int).toNat).take (n_5.toNat - (0 : Int).toNat)) (iC_len _) rfl rfl rfl hg15 hg16))) <| .mu 2 <| .done <| .n2 31 [(4, .hp 0 0)] [.own [aB (decide (n_5 > 0)), .hs 2 0 ((l.drop (0 : Int).toNat).take (n_5.toNat - (0 : Int).toNat)).length 1], .dead, .own (((l.drop (0 : Int).toNat).take (n_5.toNat - (0 : Int).toNat)).flatMap (iC .u32))] <| .ret ?_
   obtain rfl := Option.some.inj hr
   exact FinQ.ret (vs := [.agg [aB (decide (n_5 > 0)), .hs 2 0 ((l.drop (0 : Int).toNat).take (n_5.toNat - (0 : Int).toNat)).length 1]]) (by kernel_rfl) (Sn.agg (SnL.cons (Sn.pure rfl) (SnL.cons (Sn.hs rfl (.inl rfl) (SnC.pure (ids_flat (iC_pure _) _)) (fun h => flat_nil0 h)) SnL.nil)))
  ·replace hr := cd_f hb13 hr
   obtain ⟨hg17, hg18, hg19, hr⟩ := gd3 hr
   refine .r0 fine <| .p0 (v := aB false) (Eq.trans (b := some (.pure (aB negative))) (by kernel_rfl) (by rw [hb13])) <| .mu 7 <| .p0 (v := sU32 ((l.drop (0 : Int).toNat).take (n_5.toNat - (0 : Int).toNat))) (Eq.trans (b := slO (inS 0 n_5 l.length) (0 : Int).toNat n_5.toNat (fun z1 z2 => .sl true (((l.flatMap (iC .u32)).drop (z1 * 1)).take ((z2 - z1) * 1)) (z2 - z1))) (by kernel_rfl) (slO_t hg17 (sub_sl (iC_len _) (inS_le hg17)))) <| .e0 (v := .hs 2 0 ((l.drop (0 : Int).toNat).take (n_5.toNat - (0 : Int).toNat)).length 1) (ws := [(1, .dead), (2, .own (((l.drop (0 : Int).toNat).take (n_5.toNat - (0 : Int).toNat)).flatMap (iC .u32)))]) (Eq.trans (b := appS (decide (((((l.drop (0 : Int).toNat).take (n_5.toNat - (0 : Int).toNat)).flatMap (iC .u32))).length = ((l.drop (0 : Int).toNat).take (n_5.toNat - (0 : Int).toNat)).length * 1)) (((l.drop (0 : Int).toNat).take (n_5.toNat - (0 : Int).toNat)).flatMap (iC .u32)) ((l.drop (0 : Int).toNat).take (n_5.toNat - (0 : Int).toNat)).length (fun z1 z2 => guardO (decide (0 + 0 * 1 ≤ (([] : List Int).flatMap (iC .u32)).length) && decide ((0 + z2) * 4 ≤ 140737488355328) && decide (0 + z2 ≤ 4611686018427387904)) (some (.eff (.hs 2 0 (0 + z2) 1) [(1, .dead), (2, .own (((([] : List Int).flatMap (iC .u32)).drop 0).take (0 * 1) ++ z1))])))) (by kernel_rfl) (appS_t (flat_lenB (iC_len _)) rfl (app_own (l := ([] : List Int)) (xs := (l.drop (0 : Int).toNat).take (n_5.toNat - (0 : Int).toNat)) (iC_len _) rfl rfl rfl hg18 hg19))) <| .mu 2 <| .done <| .n2 31 [(4, .hp 0 0)] [.own [aB false, .hs 2 0 ((l.drop (0 : Int).toNat).take (n_5.toNat - (0 : Int).toNat)).length 1], .dead, .own (((l.drop (0 : Int).toNat).take (n_5.toNat - (0 : Int).toNat)).flatMap (iC .u32))] <| .ret ?_
   obtain rfl := Option.some.inj hr
   exact FinQ.ret (vs := [.agg [aB false, .hs 2 0 ((l.drop (0 : Int).toNat).take (n_5.toNat - (0 : Int).toNat)).length 1]]) (by kernel_rfl) (Sn.agg (SnL.cons (Sn.pure rfl) (SnL.cons (Sn.hs rfl (.inl rfl) (SnC.pure (ids_flat (iC_pure _) _)) (fun h => flat_nil0 h)) SnL.nil)))

theorem fiducialref01_Of_ok (n : Nat) (n' : Int) (r : api_Int) (hr : fiducialref01_Of n n' = some r) : FnOk Tryz.prog 142 [aI64 n'] (.agg (api_Int.c r)) := by
 unfold fiducialref01_Of at hr
 refine FnOk.bd fine Tryz.func142 [.cell 2 72] ?_
 unfold Tryz.f142
 simp only [Option.getD_some]
 refine .seq <| .r2 fine 29 [(0, aI64 n'), (2, .hp 0 0)] [.own [aB false, nS]] <| .seq <| .r3 fine 29 [(0, aI64 n'), (2, .hp 0 0), (3, aU64 (wrapF .u64 n'))] <| .seq <| .seq <| .r3 fine 29 [(0, aI64 n'), (2, .hp 0 0), (3, aU64 (wrapF .u64 n')), (8, aB (decide (n' < 0)))] ?_
 refine .cd hr (fun hb1 hr => ?_) (fun hb1 hr => ?_)
 ·refine .r0 fine <| .mu 2 <| .p0 (v := aI64 (wrapF .i64 (0 - (wrapF .i64 (n' + 1))))) (Eq.trans (b := some (.pure (aI64 (IntKind.wrap .i64 (0 - (wrapF .i64 (n' + 1))))))) (by kernel_rfl) wrap_at) <| .mu 3 <| .done <| .n2 29 [(0, aI64 n'), (2, .hp 0 0), (3, aU64 (wrapF .u64 ((wrapF .u64 (wrapF .i64 (0 - (wrapF .i64 (n' + 1))))) + 1)))] [.own [aB false, nS]] <| .seq <| .r2 fine 29 [(0, aI64 n'), (2, .hp 0 0), (3, aU64 (wrapF .u64 ((wrapF .u64 (wrapF .i64 (0 - (wrapF .i64 (n' + 1))))) + 1))), (4, .hs 1 0 0 1)] [.own [aB false, nS], .own []] <| .seq <| .block ?_
  replace hr := bd hr; obtain ⟨l_7, hL13, hr⟩ := hr
  refine .loopO (σ := fun z0 => match z0 with | (u_2, l_3) => ⟨mkS 29 0 [(0, aI64 n'), (2, .hp 0 0), (3, aU64 u_2), (4, .hs 1 0 l_3.length 1)], [.own [aB false, nS], .own (l_3.flatMap (iC .u32))]⟩) (Q := fun x st' => x = .exit 0 ∧ Wk 0 st' ⟨mkS 29 0 [(0, aI64 n'), (2, .hp 0 0), (4, .hs 1 0 l_7.length 1)], [.own [aB false, nS], .own (l_7.flatMap (iC .u32))]⟩) hL13 ((Wk.gc [0, 2, 3, 4] [(0, true), (1, false)] rfl (pKt (pKc trivial))).to (by kernel_rfl)) ?_ ?_
  ·clear hr
   rintro m ⟨u_2, l_3⟩ hr
   show CQ _ _ _ _ _ ⟨_, _⟩
   refine .seq <| .seq <| .r3 fine 29 [(0, aI64 n'), (2, .hp 0 0), (3, aU64 u_2), (4, .hs 1 0 l_3.length 1), (16, aB (decide (u_2 > 0)))] ?_
   refine .cd hr (fun hb9 hr => ?_) (fun hb9 hr => ?_)
   ·refine .skip <| .block <| .seq ?_
    obtain ⟨hg10, hg11, hr⟩ := gd2 hr
    refine .r0 fine <| .mu 5 <| .e0 (v := .hs 3 0 (l_3 ++ [wrapF .u32 (u_2.tmod 1000000000)]).length 1) (ws := [(1, .dead), (3, .own ((l_3 ++ [wrapF .u32 (u_2.tmod 1000000000)]).flatMap (iC .u32)))]) (Eq.trans (b := guardO (decide (0 + l_3.length * 1 ≤ (l_3.flatMap (iC .u32)).length) && decide ((l_3.length + 1) * 4 ≤ 140737488355328) && decide (l_3.length + 1 ≤ 4611686018427387904)) (some (.eff (.hs 3 0 (l_3.length + 1) 1) [(1, .dead), (3, .own (((l_3.flatMap (iC .u32)).drop 0).take (l_3.length * 1) ++ [aU32 (wrapF .u32 (u_2.tmod 1000000000))]))]))) (by kernel_rfl) (app_own (l := l_3) (xs := [wrapF .u32 (u_2.tmod 1000000000)]) (iC_len _) rfl rfl (by kernel_rfl) hg10 hg11)) <| .mu 1 <| .done <| .n2 29 [(0, aI64 n'), (2, .hp 0 0), (3, aU64 u_2), (4, .hs 3 0 (l_3 ++ [wrapF .u32 (u_2.tmod 1000000000)]).length 1)] [.own [aB false, nS], .dead, .own [aU32 (wrapF .u32 (u_2.tmod 1000000000))], .own ((l_3 ++ [wrapF .u32 (u_2.tmod 1000000000)]).flatMap (iC .u32))] <| .ru fine <| .pop ?_
    exact loopF_back (wrapF .u64 (u_2.tdiv 1000000000), l_3 ++ [wrapF .u32 (u_2.tmod 1000000000)]) hr ((Wk.gc [0, 2, 3, 4] [(0, true), (3, false)] rfl (pKt (pKo (iC .u32) (iC_pure _) (l_3 ++ [wrapF .u32 (u_2.tmod 1000000000)]) trivial))).to (by kernel_rfl))
   ·refine .leave rfl ?_
    obtain rfl := Option.some.inj hr
    exact ⟨rfl, ((Wk.gc [0, 2, 4] [(0, true), (1, false)] rfl (pKt (pKo (iC .u32) (iC_pure _) l_3 trivial))).to (by kernel_rfl))⟩
  ·rintro x st' hq14
   clear hL13
   obtain ⟨rfl, hq14⟩ := hq14
   refine CQ_exit _ rfl <| .wk hq14 <| .seq ?_
   obtain ⟨v15, hc16, hr⟩ := bd hr
   refine .g1 fine (callOk_ref (args := [aB true, .hs 1 0 l_7.length 1]) (l := [1]) (SnL.cons (Sn.pure rfl) (SnL.cons (Sn.hs rfl (.inl rfl) (SnC.pure (ids_flat (iC_pure _) _)) (fun h => flat_nil0 h)) SnL.nil)) (fiducialref01_made_ok n true l_7 v15 hc16)) <| .mu 1 <| .p0 (v := aB true) (Eq.trans (b := some (.pure (aB (decide (n' < 0))))) (by kernel_rfl) (by rw [hb1])) <| .mu 1 <| .ca cf0 <| .mu 1 <| .done <| .n2 29 [(2, .hp 0 0)] [.own (api_Int.c v15), .fix (l_7.flatMap (iC .u32))] <| .ret ?_
   obtain rfl := Option.some.inj hr
   exact FinQ.r1 [.agg (api_Int.c v15)]
 ·refine .skip <| .seq <| .r2 fine 29 [(0, aI64 n'), (2, .hp 0 0), (3, aU64 (wrapF .u64 n')), (4, .hs 1 0 0 1)] [.own [aB false, nS], .own []] <| .seq <| .block ?_
  replace hr := bd hr; obtain ⟨l_22, hL28, hr⟩ := hr
  refine .loopO (σ := fun z0 => match z0 with | (u_17, l_18) => ⟨mkS 29 0 [(0, aI64 n'), (2, .hp 0 0), (3, aU64 u_17), (4, .hs 1 0 l_18.length 1)], [.own [aB false, nS], .own (l_18.flatMap (iC .u32))]⟩) (Q := fun x st' => x = .exit 0 ∧ Wk 0 st' ⟨mkS 29 0 [(0, aI64 n'), (2, .hp 0 0), (4, .hs 1 0 l_22.length 1)], [.own [aB false, nS], .own (l_22.flatMap (iC .u32))]⟩) hL28 ((Wk.gc [0, 2, 3, 4] [(0, true), (1, false)] rfl (pKt (pKc trivial))).to (by kernel_rfl)) ?_ ?_
  ·clear hr
   rintro m ⟨u_17, l_18⟩ hr
   show CQ _ _ _ _ _ ⟨_, _⟩
   refine .seq <| .seq <| .r3 fine 29 [(0, aI64 n'), (2, .hp 0 0), (3, aU64 u_17), (4, .hs 1 0 l_18.length 1), (16, aB (decide (u_17 > 0)))] ?_
   refine .cd hr (fun hb24 hr => ?_) (fun hb24 hr => ?_)
   ·refine .skip <| .block <| .seq ?_
    obtain ⟨hg25, hg26, hr⟩ := gd2 hr
    refine .r0 fine <| .mu 5 <| .e0 (v := .hs 3 0 (l_18 ++ [wrapF .u32 (u_17.tmod 1000000000)]).length 1) (ws := [(1, .dead), (3, .own ((l_18 ++ [wrapF .u32 (u_17.tmod 1000000000)]).flatMap (iC .u32)))]) (Eq.trans (b := guardO (decide (0 + l_18.length * 1 ≤ (l_18.flatMap (iC .u32)).length) && decide ((l_18.length + 1) * 4 ≤ 140737488355328) && decide (l_18.length + 1 ≤ 4611686018427387904)) (some (.eff (.hs 3 0 (l_18.length + 1) 1) [(1, .dead), (3, .own (((l_18.flatMap (iC .u32)).drop 0).take (l_18.length * 1) ++ [aU32 (wrapF .u32 (u_17.tmod 1000000000))]))]))) (by kernel_rfl) (app_own (l := l_18) (xs := [wrapF .u32 (u_17.tmod 1000000000)]) (iC_len _) rfl rfl (by kernel_rfl) hg25 hg26)) <| .mu 1 <| .done <| .n2 29 [(0, aI64 n'), (2, .hp 0 0), (3, aU64 u_17), (4, .hs 3 0 (l_18 ++ [wrapF .u32 (u_17.tmod 1000000000)]).length 1)] [.own [aB false, nS], .dead, .own [aU32 (wrapF .u32 (u_17.tmod 1000000000))], .own ((l_18 ++ [wrapF .u32 (u_17.tmod 1000000000)]).flatMap (iC .u32))] <| .ru fine <| .pop ?_
    exact loopF_back (wrapF .u64 (u_17.tdiv 1000000000), l_18 ++ [wrapF .u32 (u_17.tmod 1000000000)]) hr ((Wk.gc [0, 2, 3, 4] [(0, true), (3, false)] rfl (pKt (pKo (iC .u32) (iC_pure _) (l_18 ++ [wrapF .u32 (u_17.tmod 1000000000)]) trivial))).to (by kernel_rfl))
   ·refine .leave rfl ?_
    obtain rfl := Option.some.inj hr
    exact ⟨rfl, ((Wk.gc [0, 2, 4] [(0, true), (1, false)] rfl (pKt (pKo (iC .u32) (iC_pure _) l_18 trivial))).to (by kernel_rfl))⟩
  ·rintro x st' hq29
   clear hL28
   obtain ⟨rfl, hq29⟩ := hq29
   refine CQ_exit _ rfl <| .wk hq29 <| .seq ?_
   obtain ⟨v30, hc31, hr⟩ := bd hr
   refine .g1 fine (callOk_ref (args := [aB false, .hs 1 0 l_22.length 1]) (l := [1]) (SnL.cons (Sn.pure rfl) (SnL.cons (Sn.hs rfl (.inl rfl) (SnC.pure (ids_flat (iC_pure _) _)) (fun h => flat_nil0 h)) SnL.nil)) (fiducialref01_made_ok n false l_22 v30 hc31)) <| .mu 1 <| .p0 (v := aB false) (Eq.trans (b := some (.pure (aB (decide (n' < 0))))) (by kernel_rfl) (by rw [hb1])) <| .mu 1 <| .ca cf0 <| .mu 1 <| .done <| .n2 29 [(2, .hp 0 0)] [.own (api_Int.c v30), .fix (l_22.flatMap (iC .u32))] <| .ret ?_
   obtain rfl := Option.some.inj hr
   exact FinQ.r1 [.agg (api_Int.c v30)]

theorem fiducialref02_whole_inj {n' : Int} {n'_ : Int} (h : ([.at (.int .i64 n')] : List AV) = [.at (.int .i64 n'_)]) : n' = n'_ := by
 simp only [List.cons.injEq, AV.agg.injEq, AV.at.injEq, Value.int.injEq, Value.bool.injEq, AV.fn.injEq, AV.pp.injEq, true_and, and_true] at h
 simp_all
theorem fiducialref02_whole_cg (n : Nat) {n' : Int} {n'_ : Int} (h : ([.at (.int .i64 n')] : List AV) = [.at (.int .i64 n'_)]) : fiducialref02_whole n n' = fiducialref02_whole n n'_ := by
 obtain rfl := fiducialref02_whole_inj h
 rfl
theorem fiducialref02_whole_ok (n : Nat) (n' : Int) (r : api_Int) (hr : fiducialref02_whole n n' = some r) : FnOk Tryz.prog 100 [aI64 n'] (.agg (api_Int.c r)) := by
 unfold fiducialref02_whole at hr
 refine FnOk.bd fine Tryz.func100 [.cell 2 72] ?_
 unfold Tryz.f100
 simp only [Option.getD_some]
 refine .seq <| .r2 fine 5 [(0, aI64 n'), (2, .hp 0 0)] [.own [aB false, nS]] <| .seq ?_
 obtain ⟨v1, hc2, hr⟩ := bd hr
 refine .g1 fine (ok0 (fiducialref01_Of_ok n n' v1 hc2)) <| .mu 1 <| .ca cf0 <| .mu 1 <| .done <| .n2 5 [(2, .hp 0 0)] [.own (api_Int.c v1)] <| .ret ?_
 obtain rfl := Option.some.inj hr
 exact FinQ.r1 [.agg (api_Int.c v1)]

theorem fiducialref02_Whole_ok (n : Nat) (n' : Int) (r : api_Rat) (hr : fiducialref02_Whole n n' = some r) : FnOk Tryz.prog 54 [aI64 n'] (.agg (api_Rat.c r)) := by
 unfold fiducialref02_Whole at hr
 refine FnOk.bd fine Tryz.func54 [.cell 2 74] ?_
 unfold Tryz.f54
 simp only [Option.getD_some]
 refine .seq <| .r2 fine 7 [(0, aI64 n'), (2, .hp 0 0)] [.own [aB false, nS, aB false, nS]] <| .seq ?_
 obtain ⟨v1, hc2, v3, hc4, hr⟩ := bd2 hr
 refine .gn fine (ca1 (ok0 (fiducialref02_whole_ok n n' v1 hc2)) (ca3 (ok0 (fiducialref02_whole_ok n 1 v3 hc4)))) <| .mu 1 <| .ca cf0 <| .ca (cfA (fun h => by rw [sv hc4 hc2 (fiducialref02_whole_cg n h)]) cf0) <| .mu 2 <| .done <| .n2 7 [(2, .hp 0 0)] [.own [aB v1.Negative, sU32 v1.Groups, aB v3.Negative, sU32 v3.Groups]] <| .ret ?_
 obtain rfl := Option.some.inj hr
 exact FinQ.r1 [.agg [aB v1.Negative, sU32 v1.Groups, aB v3.Negative, sU32 v3.Groups]]

theorem fiducialref01_Valid_inj {x' : api_Int} {x'_ : api_Int} (h : ([.agg [.at (.bool x'.Negative), slT (iC .u32) x'.Groups]] : List AV) = [.agg [.at (.bool x'_.Negative), slT (iC .u32) x'_.Groups]]) : x' = x'_ := by
 obtain ⟨_, _⟩ := x'
 obtain ⟨_, _⟩ := x'_
 simp only [List.cons.injEq, AV.agg.injEq, AV.at.injEq, Value.int.injEq, Value.bool.injEq, AV.fn.injEq, AV.pp.injEq, true_and, and_true, slT_inj_int] at h
 simp_all
theorem fiducialref01_Valid_cg (n : Nat) {x' : api_Int} {x'_ : api_Int} (h : ([.agg [.at (.bool x'.Negative), slT (iC .u32) x'.Groups]] : List AV) = [.agg [.at (.bool x'_.Negative), slT (iC .u32) x'_.Groups]]) : fiducialref01_Valid n x' = fiducialref01_Valid n x'_ := by
 obtain rfl := fiducialref01_Valid_inj h
 rfl
theorem fiducialref01_Valid_ok (n : Nat) (x' : api_Int) (r : Bool) (hr : fiducialref01_Valid n x' = some r) : FnOk Tryz.prog 136 [.agg (api_Int.c x')] (aB r) := by
 unfold fiducialref01_Valid at hr
 refine FnOk.bd fine Tryz.func136 [.tmp 2] ?_
 unfold Tryz.f136
 simp only [Option.getD_some]
 refine .seq <| .r2 fine 31 [(1, .hp 0 0)] [.own (api_Int.c x')] <| .seq <| .r3 fine 31 [(1, .hp 0 0), (3, aI64 (x'.Groups.length : Int))] <| .seq <| .seq <| .r3 fine 31 [(1, .hp 0 0), (3, aI64 (x'.Groups.length : Int)), (4, aI64 0)] <| .block ?_
 replace hr := bd hr; obtain ⟨o9, hL10, hr⟩ := hr
 refine .loopO (σ := fun z0 => match z0 with | i_1 => ⟨mkS 31 0 [(1, .hp 0 0), (3, aI64 (x'.Groups.length : Int)), (4, aI64 i_1)], [.own (api_Int.c x')]⟩) (Q := fun x st' => match (generalizing := false) o9 with | .inl _ => x = .exit 0 ∧ Wk 0 st' ⟨mkS 31 0 [(1, .hp 0 0), (3, aI64 (x'.Groups.length : Int))], [.own (api_Int.c x')]⟩ | .inr (r0) => x = .ret ∧ FinQ Tryz.prog [.tmp 2] (aB r0) .ret st') hL10 ((Wk.gc [1, 3, 4] [(0, true)] rfl trivial).to (by kernel_rfl)) ?_ ?_
 ·clear hr
  rintro m i_1 hr
  show CQ _ _ _ _ _ ⟨_, _⟩
  refine .seq <| .seq <| .r3 fine 31 [(1, .hp 0 0), (3, aI64 (x'.Groups.length : Int)), (4, aI64 i_1), (10, aB (decide (i_1 < (x'.Groups.length : Int))))] ?_
  refine .cd hr (fun hb6 hr => ?_) (fun hb6 hr => ?_)
  ·refine .skip <| .seq <| .block <| .seq ?_
   obtain ⟨hg7, hr⟩ := gd hr
   refine .r0 fine <| .mu 3 <| .p0 (v := .pp (x'.Groups.flatMap (iC .u32)) (i_1.toNat * 1)) (Eq.trans (b := ORes.ofP (guardV (inR i_1 x'.Groups.length) (.pp (x'.Groups.flatMap (iC .u32)) (i_1.toNat * 1)))) (by kernel_rfl) (ofP_guard hg7)) <| .p0 (v := aU32 (gt x'.Groups i_1)) (Eq.trans (b := ORes.ofP ((x'.Groups.flatMap (iC .u32))[i_1.toNat * 1]?)) (by kernel_rfl) (ofP_some (flat_get (iC_len _) (inR_lt hg7) (by decide : 0 < 1) (by omega : i_1.toNat * 1 = i_1.toNat * 1 + 0) (by kernel_rfl)))) <| .mu 1 <| .done <| .n2 31 [(1, .hp 0 0), (3, aI64 (x'.Groups.length : Int)), (4, aI64 i_1), (18, aB (decide ((gt x'.Groups i_1) ≥ 1000000000)))] [.own (api_Int.c x')] ?_
   refine .cd hr (fun hb8 hr => ?_) (fun hb8 hr => ?_)
   ·refine .seq <| .ru fine <| .ret ?_
    obtain rfl := Option.some.inj hr
    exact ⟨rfl, FinQ.ret (vs := [aB false]) (by kernel_rfl) (Sn.pure rfl)⟩
   ·refine .skip <| .pop <| .ru fine ?_
    exact loopF_back (wrapF .i64 (i_1 + 1)) hr ((Wk.gc [1, 3, 4] [(0, true)] rfl trivial).to (by kernel_rfl))
  ·refine .leave rfl ?_
   obtain rfl := Option.some.inj hr
   exact ⟨rfl, ((Wk.gc [1, 3] [(0, true)] rfl trivial).to (by kernel_rfl))⟩
 ·rcases o9 with ⟨⟩ | r0
  ·rintro x st' hq11
   clear hL10
   obtain ⟨rfl, hq11⟩ := hq11
   refine CQ_exit _ rfl <| .wk hq11 <| .seq <| .seq <| .r3 fine 31 [(1, .hp 0 0), (3, aI64 (x'.Groups.length : Int)), (20, aB (((x'.Groups.length : Int) : Int) == 0))] ?_
   refine .cd hr (fun hb12 hr => ?_) (fun hb12 hr => ?_)
   ·refine .seq <| .ru fine <| .ret ?_
    obtain rfl := Option.some.inj hr
    exact FinQ.r1 [aB (!x'.Negative)]
   ·refine .skip <| .seq ?_
    obtain ⟨hg13, hr⟩ := gd hr
    refine .r0 fine <| .mu 4 <| .p0 (v := .pp (x'.Groups.flatMap (iC .u32)) ((wrapF .i64 ((x'.Groups.length : Int) - 1)).toNat * 1)) (Eq.trans (b := ORes.ofP (guardV (inR (wrapF .i64 ((x'.Groups.length : Int) - 1)) x'.Groups.length) (.pp (x'.Groups.flatMap (iC .u32)) ((wrapF .i64 ((x'.Groups.length : Int) - 1)).toNat * 1)))) (by kernel_rfl) (ofP_guard hg13)) <| .p0 (v := aU32 (gt x'.Groups (wrapF .i64 ((x'.Groups.length : Int) - 1)))) (Eq.trans (b := ORes.ofP ((x'.Groups.flatMap (iC .u32))[(wrapF .i64 ((x'.Groups.length : Int) - 1)).toNat * 1]?)) (by kernel_rfl) (ofP_some (flat_get (iC_len _) (inR_lt hg13) (by decide : 0 < 1) (by omega : (wrapF .i64 ((x'.Groups.length : Int) - 1)).toNat * 1 = (wrapF .i64 ((x'.Groups.length : Int) - 1)).toNat * 1 + 0) (by kernel_rfl)))) <| .mu 2 <| .done <| .ret ?_
    obtain rfl := Option.some.inj hr
    exact FinQ.r1 [aB (((gt x'.Groups (wrapF .i64 ((x'.Groups.length : Int) - 1))) : Int) != 0)]
  ·rintro x st' hq11
   clear hL10
   obtain ⟨rfl, hq11⟩ := hq11
   obtain rfl := Option.some.inj hr
   exact CQ_ret _ hq11

theorem fiducialref01_Value_inj {x' : api_Int} {x'_ : api_Int} (h : ([.agg [.at (.bool x'.Negative), slT (iC .u32) x'.Groups]] : List AV) = [.agg [.at (.bool x'_.Negative), slT (iC .u32) x'_.Groups]]) : x' = x'_ := by
 obtain ⟨_, _⟩ := x'
 obtain ⟨_, _⟩ := x'_
 simp only [List.cons.injEq, AV.agg.injEq, AV.at.injEq, Value.int.injEq, Value.bool.injEq, AV.fn.injEq, AV.pp.injEq, true_and, and_true, slT_inj_int] at h
 simp_all
theorem fiducialref01_Value_cg (n : Nat) {x' : api_Int} {x'_ : api_Int} (h : ([.agg [.at (.bool x'.Negative), slT (iC .u32) x'.Groups]] : List AV) = [.agg [.at (.bool x'_.Negative), slT (iC .u32) x'_.Groups]]) : fiducialref01_Value n x' = fiducialref01_Value n x'_ := by
 obtain rfl := fiducialref01_Value_inj h
 rfl
theorem fiducialref01_Value_ok (n : Nat) (x' : api_Int) (r : api_Int) (hr : fiducialref01_Value n x' = some r) : FnOk Tryz.prog 187 [.agg (api_Int.c x')] (.agg (api_Int.c r)) := by
 unfold fiducialref01_Value at hr
 refine FnOk.bd fine Tryz.func187 [.cell 2 72] ?_
 unfold Tryz.f187
 simp only [Option.getD_some]
 refine .seq <| .r2 fine 14 [(1, .hp 0 0), (2, .hp 1 0)] [.own (api_Int.c x'), .own [aB false, nS]] <| .seq <| .seq ?_
 obtain ⟨v1, hc2, hr⟩ := bd hr
 refine .g1 fine (ok0 (fiducialref01_Valid_ok n x' v1 hc2)) <| .mu 1 <| .ca cf0 <| .mu 1 <| .done <| .n2 14 [(1, .hp 0 0), (2, .hp 1 0), (5, aB (!v1))] [.own (api_Int.c x'), .own [aB false, nS]] ?_
 refine .cd hr (fun hb3 hr => ?_) (fun hb3 hr => ?_)
 ·refine .seq <| .r3 fine 14 [(2, .hp 1 0)] <| .ret ?_
  obtain rfl := Option.some.inj hr
  exact FinQ.ret (vs := [.agg [aB false, nS]]) (by kernel_rfl) (Sn.agg (SnL.cons (Sn.pure rfl) (SnL.cons Sn.nilsl SnL.nil)))
 ·refine .skip <| .seq ?_
  obtain ⟨hg4, hg5, hr⟩ := gd2 hr
  refine .regionT fine callOf_nil <| .mu 5 <| .eff (v := .hs 3 0 x'.Groups.length 1) (ws := [(2, .dead), (3, .own (x'.Groups.flatMap (iC .u32)))]) (by kernel_rfl) (Eq.trans (b := appS (decide (((x'.Groups.flatMap (iC .u32))).length = x'.Groups.length * 1)) (x'.Groups.flatMap (iC .u32)) x'.Groups.length (fun z1 z2 => guardO (decide (0 + 0 * 1 ≤ (([] : List Int).flatMap (iC .u32)).length) && decide ((0 + z2) * 4 ≤ 140737488355328) && decide (0 + z2 ≤ 4611686018427387904)) (some (.eff (.hs 3 0 (0 + z2) 1) [(2, .dead), (3, .own (((([] : List Int).flatMap (iC .u32)).drop 0).take (0 * 1) ++ z1))])))) (by kernel_rfl) (appS_t (flat_lenB (iC_len _)) rfl (app_own (l := ([] : List Int)) (xs := x'.Groups) (iC_len _) rfl rfl rfl hg4 hg5))) (by kernel_rfl) <| .mu 2 ?_
  refine .done ⟨by kernel_rfl, ?_⟩
  refine .n2 14 [(2, .hp 1 0)] [.own (api_Int.c x'), .own [aB x'.Negative, .hs 3 0 x'.Groups.length 1], .dead, .own (x'.Groups.flatMap (iC .u32))] <| .ret ?_
  obtain rfl := Option.some.inj hr
  exact FinQ.ret (vs := [.agg [aB x'.Negative, .hs 3 0 x'.Groups.length 1]]) (by kernel_rfl) (Sn.agg (SnL.cons (Sn.pure rfl) (SnL.cons (Sn.hs rfl (.inl rfl) (SnC.pure (ids_flat (iC_pure _) _)) (fun h => flat_nil0 h)) SnL.nil)))

theorem fiducialref01_Sign_ok (n : Nat) (x' : api_Int) (r : Int) (hr : fiducialref01_Sign n x' = some r) : FnOk Tryz.prog 137 [.agg (api_Int.c x')] (aI64 r) := by
 unfold fiducialref01_Sign at hr
 refine FnOk.bd fine Tryz.func137 [.tmp 2] ?_
 unfold Tryz.f137
 simp only [Option.getD_some]
 refine .seq <| .r2 fine 11 [(1, .hp 0 0)] [.own (api_Int.c x')] <| .seq ?_
 obtain ⟨v1, hc2, hr⟩ := bd hr
 refine .g1 fine (ok0 (fiducialref01_Value_ok n x' v1 hc2)) <| .mu 1 <| .ca cf0 <| .mu 1 <| .done <| .n2 11 [(1, .hp 0 0)] [.own (api_Int.c v1)] <| .seq <| .seq <| .r3 fine 11 [(1, .hp 0 0), (8, aB (((v1.Groups.length : Int) : Int) == 0))] ?_
 refine .cd hr (fun hb3 hr => ?_) (fun hb3 hr => ?_)
 ·refine .seq <| .ru fine <| .ret ?_
  obtain rfl := Option.some.inj hr
  exact FinQ.r1 [aI64 0]
 ·refine .skip <| .seq <| .seq <| .r3 fine 11 [(10, aB v1.Negative)] ?_
  refine .cd hr (fun hb4 hr => ?_) (fun hb4 hr => ?_)
  ·refine .seq <| .ru fine <| .ret ?_
   obtain rfl := Option.some.inj hr
   exact FinQ.r1 [aI64 (-1)]
  ·refine .skip <| .seq <| .ru fine <| .ret ?_
   obtain rfl := Option.some.inj hr
   exact FinQ.r1 [aI64 1]

theorem fiducialref01_short_ok (n : Nat) (a : List Int) (d : Int) (r : List Int × Int) (hr : fiducialref01_short n a d = some r) : FnOk Tryz.prog 216 [sU32 a, aU64 d] (.tup [sU32 r.1, aU64 r.2]) := by
 unfold fiducialref01_short at hr
 refine FnOk.bd fine Tryz.func216 [.tmp 4, .tmp 5] ?_
 unfold Tryz.f216
 simp only [Option.getD_some]
 refine .seq <| .r3 fine 42 [(0, sU32 a), (1, aU64 d)] <| .seq ?_
 obtain ⟨hg1, hg2, hg3, hr⟩ := gd3 hr
 refine .r0 fine <| .mu 2 <| .e0 (v := .hs 0 0 (List.replicate (a.length : Int).toNat ((0 : Int) : Int)).length 1) (ws := [(0, .own ((List.replicate (a.length : Int).toNat ((0 : Int) : Int)).flatMap (iC .u32)))]) (Eq.trans (b := guardO (decide (0 ≤ (a.length : Int)) && decide ((a.length : Int) ≤ (a.length : Int)) && decide ((4 : Int) * (a.length : Int) ≤ 281474976710656) && decide ((a.length : Int) ≤ 9223372036854775807) && true && true && true) (some (.eff (.hs 0 0 (a.length : Int).toNat 1) [(0, .own (zerosA [aU32 0] (a.length : Int).toNat))]))) (by kernel_rfl) (make_own (c := (iC .u32)) (z := (0 : Int)) (n := (a.length : Int)) (by_ := 4) rfl hg1 hg2 hg3)) <| .mu 1 <| .done <| .n2 42 [(0, sU32 a), (1, aU64 d), (6, .hs 0 0 (List.replicate (a.length : Int).toNat ((0 : Int) : Int)).length 1)] [.own ((List.replicate (a.length : Int).toNat ((0 : Int) : Int)).flatMap (iC .u32))] <| .seq <| .r3 fine 42 [(0, sU32 a), (1, aU64 d), (6, .hs 0 0 (List.replicate (a.length : Int).toNat ((0 : Int) : Int)).length 1), (7, aU64 0)] <| .seq <| .seq <| .r3 fine 42 [(0, sU32 a), (1, aU64 d), (6, .hs 0 0 (List.replicate (a.length : Int).toNat ((0 : Int) : Int)).length 1), (7, aU64 0), (8, aI64 (wrapF .i64 ((a.length : Int) - 1)))] <| .block ?_
 replace hr := bd hr; obtain ⟨o18, hL19, hr⟩ := hr
 refine .loopO (σ := fun z0 => match z0 with | (q_4, rest_5, i_6) => ⟨mkS 42 0 [(0, sU32 a), (1, aU64 d), (6, .hs 0 0 q_4.length 1), (7, aU64 rest_5), (8, aI64 i_6)], [.own (q_4.flatMap (iC .u32))]⟩) (Q := fun x st' => match (generalizing := false) o18 with | (q_11, rest_12) => x = .exit 0 ∧ Wk 0 st' ⟨mkS 42 0 [(6, .hs 0 0 q_11.length 1), (7, aU64 rest_12)], [.own (q_11.flatMap (iC .u32))]⟩) hL19 ((Wk.gc [0, 1, 6, 7, 8] [(0, false)] rfl (pKo (iC .u32) (iC_pure _) (List.replicate (a.length : Int).toNat ((0 : Int) : Int)) trivial)).to (by kernel_rfl)) ?_ ?_
 ·clear hr
  rintro m ⟨q_4, rest_5, i_6⟩ hr
  show CQ _ _ _ _ _ ⟨_, _⟩
  refine .seq <| .seq <| .r3 fine 42 [(0, sU32 a), (1, aU64 d), (6, .hs 0 0 q_4.length 1), (7, aU64 rest_5), (8, aI64 i_6), (17, aB (decide (i_6 ≥ 0)))] ?_
  refine .cd hr (fun hb14 hr => ?_) (fun hb14 hr => ?_)
  ·refine .skip <| .seq <| .block <| .seq ?_
   obtain ⟨hg15, hr⟩ := gd hr
   refine .r0 fine <| .mu 4 <| .p0 (v := .pp (a.flatMap (iC .u32)) (i_6.toNat * 1)) (Eq.trans (b := ORes.ofP (guardV (inR i_6 a.length) (.pp (a.flatMap (iC .u32)) (i_6.toNat * 1)))) (by kernel_rfl) (ofP_guard hg15)) <| .p0 (v := aU32 (gt a i_6)) (Eq.trans (b := ORes.ofP ((a.flatMap (iC .u32))[i_6.toNat * 1]?)) (by kernel_rfl) (ofP_some (flat_get (iC_len _) (inR_lt hg15) (by decide : 0 < 1) (by omega : i_6.toNat * 1 = i_6.toNat * 1 + 0) (by kernel_rfl)))) <| .mu 3 <| .done <| .n2 42 [(0, sU32 a), (1, aU64 d), (6, .hs 0 0 q_4.length 1), (8, aI64 i_6), (9, aU64 (wrapF .u64 ((wrapF .u64 (rest_5 * 1000000000)) + (wrapF .u64 (gt a i_6)))))] [.own (q_4.flatMap (iC .u32))] <| .seq ?_
   obtain ⟨hg16, hg17, hr⟩ := gd2 hr
   refine .r0 fine <| .mu 4 <| .p0 (v := aU64 (wrapF .u64 ((wrapF .u64 ((wrapF .u64 (rest_5 * 1000000000)) + (wrapF .u64 (gt a i_6)))).tdiv d))) (op_quo (x := wrapF .u64 ((wrapF .u64 (rest_5 * 1000000000)) + (wrapF .u64 (gt a i_6)))) (y := d) (by kernel_rfl) (by kernel_rfl) hg16) <| .mu 1 <| .p0 (v := .hp 0 (0 + i_6.toNat * 1)) (Eq.trans (b := ORes.ofP (guardV (inR i_6 q_4.length) (.hp 0 (0 + i_6.toNat * 1)))) (by kernel_rfl) (ofP_guard hg17)) <| .e0 (v := .unk) (ws := [(0, .own ((q_4.set i_6.toNat (wrapF .u32 (wrapF .u64 ((wrapF .u64 ((wrapF .u64 (rest_5 * 1000000000)) + (wrapF .u64 (gt a i_6)))).tdiv d)))).flatMap (iC .u32)))]) (Eq.trans (b := stO (decide ((0 + i_6.toNat * 1) + 1 ≤ (q_4.flatMap (iC .u32)).length) && true) [(0, .own (setCells (q_4.flatMap (iC .u32)) (0 + i_6.toNat * 1) [aU32 (wrapF .u32 (wrapF .u64 ((wrapF .u64 ((wrapF .u64 (rest_5 * 1000000000)) + (wrapF .u64 (gt a i_6)))).tdiv d)))]))]) (by kernel_rfl) (stO_t (and_t (flat_fits (iC_len _) (inR_lt hg17) (Nat.le_of_ble_eq_true rfl) (by omega : 0 + i_6.toNat * 1 = i_6.toNat * 1 + 0))) (congrArg Blk.own (flat_set (iC_len _) (inR_lt hg17) (Nat.le_of_ble_eq_true rfl) (by omega : 0 + i_6.toNat * 1 = i_6.toNat * 1 + 0) (by kernel_rfl))))) <| .done <| .n2 42 [(0, sU32 a), (1, aU64 d), (6, .hs 0 0 q_4.length 1), (8, aI64 i_6), (9, aU64 (wrapF .u64 ((wrapF .u64 (rest_5 * 1000000000)) + (wrapF .u64 (gt a i_6)))))] [.own ((q_4.set i_6.toNat (wrapF .u32 (wrapF .u64 ((wrapF .u64 ((wrapF .u64 (rest_5 * 1000000000)) + (wrapF .u64 (gt a i_6)))).tdiv d)))).flatMap (iC .u32))] <| .r0 fine <| .mu 2 <| .p0 (v := aU64 ((wrapF .u64 ((wrapF .u64 (rest_5 * 1000000000)) + (wrapF .u64 (gt a i_6)))).tmod d)) (op_rem (x := wrapF .u64 ((wrapF .u64 (rest_5 * 1000000000)) + (wrapF .u64 (gt a i_6)))) (y := d) (by kernel_rfl) (by kernel_rfl) hg16) <| .mu 1 <| .done <| .pop <| .ru fine ?_
   exact loopF_back (q_4.set i_6.toNat (wrapF .u32 (wrapF .u64 ((wrapF .u64 ((wrapF .u64 (rest_5 * 1000000000)) + (wrapF .u64 (gt a i_6)))).tdiv d))), (wrapF .u64 ((wrapF .u64 (rest_5 * 1000000000)) + (wrapF .u64 (gt a i_6)))).tmod d, wrapF .i64 (i_6 - 1)) hr ((Wk.relen 6 (b := 0) (es := 1) (len := q_4.length) (q_4.set i_6.toNat (wrapF .u32 (wrapF .u64 ((wrapF .u64 ((wrapF .u64 (rest_5 * 1000000000)) + (wrapF .u64 (gt a i_6)))).tdiv d)))).length (by kernel_rfl) (Eq.symm (List.length_set.trans rfl))).trans ((Wk.gc [0, 1, 6, 7, 8] [(0, false)] rfl (pKo (iC .u32) (iC_pure _) (q_4.set i_6.toNat (wrapF .u32 (wrapF .u64 ((wrapF .u64 ((wrapF .u64 (rest_5 * 1000000000)) + (wrapF .u64 (gt a i_6)))).tdiv d)))) trivial)).to (by kernel_rfl)))
  ·refine .leave rfl ?_
   obtain rfl := Option.some.inj hr
   exact ⟨rfl, ((Wk.gc [6, 7] [(0, false)] rfl (pKo (iC .u32) (iC_pure _) q_4 trivial)).to (by kernel_rfl))⟩
 ·rcases o18 with ⟨q_11, rest_12⟩
  rintro x st' hq20
  clear hL19
  obtain ⟨rfl, hq20⟩ := hq20
  refine CQ_exit _ rfl <| .wk hq20 <| .seq ?_
  obtain ⟨v21, hc22, hr⟩ := bd hr
  refine .g1 fine (callOk_ref (args := [aB false, .hs 0 0 q_11.length 1]) (l := [0]) (SnL.cons (Sn.pure rfl) (SnL.cons (Sn.hs rfl (.inl rfl) (SnC.pure (ids_flat (iC_pure _) _)) (fun h => flat_nil0 h)) SnL.nil)) (fiducialref01_made_ok n false q_11 v21 hc22)) <| .mu 1 <| .ca cf0 <| .mu 4 <| .done <| .ret ?_
  obtain rfl := Option.some.inj hr
  exact FinQ.ret (vs := [sU32 v21.Groups, aU64 rest_12]) (by kernel_rfl) (Sn.tup (SnL.cons (Sn.pure rfl) (SnL.cons (Sn.pure rfl) SnL.nil)))

theorem fiducialref01_size_ok (n : Nat) (a : List Int) (b : List Int) (r : Int) (hr : fiducialref01_size n a b = some r) : FnOk Tryz.prog 217 [sU32 a, sU32 b] (aI64 r) := by
 unfold fiducialref01_size at hr
 refine FnOk.bd fine Tryz.func217 [.tmp 4] ?_
 unfold Tryz.f217
 simp only [Option.getD_some]
 refine .seq <| .r3 fine 41 [(0, sU32 a), (1, sU32 b)] <| .seq <| .seq <| .r3 fine 41 [(0, sU32 a), (1, sU32 b), (10, aB (((a.length : Int) : Int) != (b.length : Int)))] ?_
 refine .cd hr (fun hb1 hr => ?_) (fun hb1 hr => ?_)
 ·refine .seq <| .seq <| .r3 fine 41 [(15, aB (decide ((a.length : Int) < (b.length : Int))))] ?_
  refine .cd hr (fun hb2 hr => ?_) (fun hb2 hr => ?_)
  ·refine .seq <| .ru fine <| .ret ?_
   obtain rfl := Option.some.inj hr
   exact FinQ.r1 [aI64 (-1)]
  ·refine .skip <| .seq <| .ru fine <| .ret ?_
   obtain rfl := Option.some.inj hr
   exact FinQ.r1 [aI64 1]
 ·refine .skip <| .seq <| .seq <| .r3 fine 41 [(0, sU32 a), (1, sU32 b), (5, aI64 (wrapF .i64 ((a.length : Int) - 1)))] <| .block ?_
  replace hr := bd hr; obtain ⟨o15, hL16, hr⟩ := hr
  refine .loopO (σ := fun z0 => match z0 with | i_3 => ⟨mkS 41 0 [(0, sU32 a), (1, sU32 b), (5, aI64 i_3)], []⟩) (Q := fun x st' => match (generalizing := false) o15 with | .inl _ => x = .exit 0 ∧ Wk 0 st' ⟨mkS 41 0 [], []⟩ | .inr (r0) => x = .ret ∧ FinQ Tryz.prog [.tmp 4] (aI64 r0) .ret st') hL16 ((Wk.gc [0, 1, 5] [] rfl pK0).to (by kernel_rfl)) ?_ ?_
  ·clear hr
   rintro m i_3 hr
   show CQ _ _ _ _ _ ⟨_, _⟩
   refine .seq <| .seq <| .r3 fine 41 [(0, sU32 a), (1, sU32 b), (5, aI64 i_3), (20, aB (decide (i_3 ≥ 0)))] ?_
   refine .cd hr (fun hb10 hr => ?_) (fun hb10 hr => ?_)
   ·refine .skip <| .seq <| .block <| .seq <| .seq ?_
    obtain ⟨hg11, hg12, hr⟩ := gd2 hr
    refine .regionT fine callOf_nil <| .mu 2 <| .pure (v := .pp (a.flatMap (iC .u32)) (i_3.toNat * 1)) (by kernel_rfl) (Eq.trans (b := ORes.ofP (guardV (inR i_3 a.length) (.pp (a.flatMap (iC .u32)) (i_3.toNat * 1)))) (by kernel_rfl) (ofP_guard hg11)) (by kernel_rfl) <| .pure (v := aU32 (gt a i_3)) (by kernel_rfl) (Eq.trans (b := ORes.ofP ((a.flatMap (iC .u32))[i_3.toNat * 1]?)) (by kernel_rfl) (ofP_some (flat_get (iC_len _) (inR_lt hg11) (by decide : 0 < 1) (by omega : i_3.toNat * 1 = i_3.toNat * 1 + 0) (by kernel_rfl)))) (by kernel_rfl) <| .mu 2 <| .pure (v := .pp (b.flatMap (iC .u32)) (i_3.toNat * 1)) (by kernel_rfl) (Eq.trans (b := ORes.ofP (guardV (inR i_3 b.length) (.pp (b.flatMap (iC .u32)) (i_3.toNat * 1)))) (by kernel_rfl) (ofP_guard hg12)) (by kernel_rfl) <| .pure (v := aU32 (gt b i_3)) (by kernel_rfl) (Eq.trans (b := ORes.ofP ((b.flatMap (iC .u32))[i_3.toNat * 1]?)) (by kernel_rfl) (ofP_some (flat_get (iC_len _) (inR_lt hg12) (by decide : 0 < 1) (by omega : i_3.toNat * 1 = i_3.toNat * 1 + 0) (by kernel_rfl)))) (by kernel_rfl) <| .mu 1 ?_
    refine .done ⟨by kernel_rfl, ?_⟩
    refine .n2 41 [(0, sU32 a), (1, sU32 b), (5, aI64 i_3), (31, aB (decide ((gt a i_3) < (gt b i_3))))] [] ?_
    refine .cd hr (fun hb13 hr => ?_) (fun hb13 hr => ?_)
    ·refine .seq <| .ru fine <| .ret ?_
     obtain rfl := Option.some.inj hr
     exact ⟨rfl, FinQ.ret (vs := [aI64 (-1)]) (by kernel_rfl) (Sn.pure rfl)⟩
    ·refine .skip <| .seq <| .regionT fine callOf_nil <| .mu 2 <| .pure (v := .pp (a.flatMap (iC .u32)) (i_3.toNat * 1)) (by kernel_rfl) (Eq.trans (b := ORes.ofP (guardV (inR i_3 a.length) (.pp (a.flatMap (iC .u32)) (i_3.toNat * 1)))) (by kernel_rfl) (ofP_guard hg11)) (by kernel_rfl) <| .pure (v := aU32 (gt a i_3)) (by kernel_rfl) (Eq.trans (b := ORes.ofP ((a.flatMap (iC .u32))[i_3.toNat * 1]?)) (by kernel_rfl) (ofP_some (flat_get (iC_len _) (inR_lt hg11) (by decide : 0 < 1) (by omega : i_3.toNat * 1 = i_3.toNat * 1 + 0) (by kernel_rfl)))) (by kernel_rfl) <| .mu 2 <| .pure (v := .pp (b.flatMap (iC .u32)) (i_3.toNat * 1)) (by kernel_rfl) (Eq.trans (b := ORes.ofP (guardV (inR i_3 b.length) (.pp (b.flatMap (iC .u32)) (i_3.toNat * 1)))) (by kernel_rfl) (ofP_guard hg12)) (by kernel_rfl) <| .pure (v := aU32 (gt b i_3)) (by kernel_rfl) (Eq.trans (b := ORes.ofP ((b.flatMap (iC .u32))[i_3.toNat * 1]?)) (by kernel_rfl) (ofP_some (flat_get (iC_len _) (inR_lt hg12) (by decide : 0 < 1) (by omega : i_3.toNat * 1 = i_3.toNat * 1 + 0) (by kernel_rfl)))) (by kernel_rfl) <| .mu 1 ?_
     refine .done ⟨by kernel_rfl, ?_⟩
     refine .n2 41 [(0, sU32 a), (1, sU32 b), (5, aI64 i_3), (40, aB (decide ((gt a i_3) > (gt b i_3))))] [] ?_
     refine .cd hr (fun hb14 hr => ?_) (fun hb14 hr => ?_)
     ·refine .seq <| .ru fine <| .ret ?_
      obtain rfl := Option.some.inj hr
      exact ⟨rfl, FinQ.ret (vs := [aI64 1]) (by kernel_rfl) (Sn.pure rfl)⟩
     ·refine .skip <| .pop <| .ru fine ?_
      exact loopF_back (wrapF .i64 (i_3 - 1)) hr ((Wk.gc [0, 1, 5] [] rfl pK0).to (by kernel_rfl))
   ·refine .leave rfl ?_
    obtain rfl := Option.some.inj hr
    exact ⟨rfl, ((Wk.gc [] [] rfl pK0).to (by kernel_rfl))⟩
  ·rcases o15 with ⟨⟩ | r0
   ·rintro x st' hq17
    clear hL16
    obtain ⟨rfl, hq17⟩ := hq17
    refine CQ_exit _ rfl <| .wk hq17 <| .seq <| .ru fine <| .ret ?_
    obtain rfl := Option.some.inj hr
    exact FinQ.r1 [aI64 0]
   ·rintro x st' hq17
    clear hL16
    obtain ⟨rfl, hq17⟩ := hq17
    obtain rfl := Option.some.inj hr
    exact CQ_ret _ hq17

theorem fiducialref01_scaled_inj {a : List Int} {d : Int} {a_ : List Int} {d_ : Int} (h : ([slT (iC .u32) a, .at (.int .u64 d)] : List AV) = [slT (iC .u32) a_, .at (.int .u64 d_)]) : a = a_ ∧ d = d_ := by
 simp only [List.cons.injEq, AV.agg.injEq, AV.at.injEq, Value.int.injEq, Value.bool.injEq, AV.fn.injEq, AV.pp.injEq, true_and, and_true, slT_inj_int] at h
 simp_all
theorem fiducialref01_scaled_cg (n : Nat) {a : List Int} {d : Int} {a_ : List Int} {d_ : Int} (h : ([slT (iC .u32) a, .at (.int .u64 d)] : List AV) = [slT (iC .u32) a_, .at (.int .u64 d_)]) : fiducialref01_scaled n a d = fiducialref01_scaled n a_ d_ := by
 obtain ⟨rfl, rfl⟩ := fiducialref01_scaled_inj h
 rfl
theorem fiducialref01_scaled_ok (n : Nat) (a : List Int) (d : Int) (r : List Int) (hr : fiducialref01_scaled n a d = some r) : FnOk Tryz.prog 218 [sU32 a, aU64 d] (sU32 r) := by
 unfold fiducialref01_scaled at hr
 refine FnOk.bd fine Tryz.func218 [.tmp 4] ?_
 unfold Tryz.f218
 simp only [Option.getD_some]
 refine .seq <| .r3 fine 40 [(0, sU32 a), (1, aU64 d)] <| .seq <| .r2 fine 40 [(0, sU32 a), (1, aU64 d), (5, .hs 0 0 0 1)] [.own []] <| .seq <| .r3 fine 40 [(0, sU32 a), (1, aU64 d), (5, .hs 0 0 0 1), (6, aU64 0)] <| .seq <| .seq <| .r3 fine 40 [(0, sU32 a), (1, aU64 d), (5, .hs 0 0 0 1), (6, aU64 0), (7, aI64 0)] <| .block ?_
 replace hr := bd hr; obtain ⟨o15, hL16, hr⟩ := hr
 refine .loopO (σ := fun z0 => match z0 with | (out_1, carry_2, i_3) => ⟨mkS 40 0 [(0, sU32 a), (1, aU64 d), (5, .hs 0 0 out_1.length 1), (6, aU64 carry_2), (7, aI64 i_3)], [.own (out_1.flatMap (iC .u32))]⟩) (Q := fun x st' => match (generalizing := false) o15 with | (out_8, carry_9) => x = .exit 0 ∧ Wk 0 st' ⟨mkS 40 0 [(5, .hs 0 0 out_8.length 1), (6, aU64 carry_9)], [.own (out_8.flatMap (iC .u32))]⟩) hL16 ((Wk.gc [0, 1, 5, 6, 7] [(0, false)] rfl (pKc trivial)).to (by kernel_rfl)) ?_ ?_
 ·clear hr
  rintro m ⟨out_1, carry_2, i_3⟩ hr
  show CQ _ _ _ _ _ ⟨_, _⟩
  refine .seq <| .seq <| .r3 fine 40 [(0, sU32 a), (1, aU64 d), (5, .hs 0 0 out_1.length 1), (6, aU64 carry_2), (7, aI64 i_3), (13, aB (decide (i_3 < (a.length : Int))))] ?_
  refine .cd hr (fun hb11 hr => ?_) (fun hb11 hr => ?_)
  ·refine .skip <| .seq <| .block <| .seq ?_
   obtain ⟨hg12, hr⟩ := gd hr
   refine .r0 fine <| .mu 2 <| .p0 (v := .pp (a.flatMap (iC .u32)) (i_3.toNat * 1)) (Eq.trans (b := ORes.ofP (guardV (inR i_3 a.length) (.pp (a.flatMap (iC .u32)) (i_3.toNat * 1)))) (by kernel_rfl) (ofP_guard hg12)) <| .p0 (v := aU32 (gt a i_3)) (Eq.trans (b := ORes.ofP ((a.flatMap (iC .u32))[i_3.toNat * 1]?)) (by kernel_rfl) (ofP_some (flat_get (iC_len _) (inR_lt hg12) (by decide : 0 < 1) (by omega : i_3.toNat * 1 = i_3.toNat * 1 + 0) (by kernel_rfl)))) <| .mu 6 <| .done <| .n2 40 [(0, sU32 a), (1, aU64 d), (5, .hs 0 0 out_1.length 1), (7, aI64 i_3), (8, aU64 (wrapF .u64 ((wrapF .u64 ((wrapF .u64 (gt a i_3)) * d)) + carry_2)))] [.own (out_1.flatMap (iC .u32))] <| .seq ?_
   obtain ⟨hg13, hg14, hr⟩ := gd2 hr
   refine .r0 fine <| .mu 5 <| .e0 (v := .hs 2 0 (out_1 ++ [wrapF .u32 ((wrapF .u64 ((wrapF .u64 ((wrapF .u64 (gt a i_3)) * d)) + carry_2)).tmod 1000000000)]).length 1) (ws := [(0, .dead), (2, .own ((out_1 ++ [wrapF .u32 ((wrapF .u64 ((wrapF .u64 ((wrapF .u64 (gt a i_3)) * d)) + carry_2)).tmod 1000000000)]).flatMap (iC .u32)))]) (Eq.trans (b := guardO (decide (0 + out_1.length * 1 ≤ (out_1.flatMap (iC .u32)).length) && decide ((out_1.length + 1) * 4 ≤ 140737488355328) && decide (out_1.length + 1 ≤ 4611686018427387904)) (some (.eff (.hs 2 0 (out_1.length + 1) 1) [(0, .dead), (2, .own (((out_1.flatMap (iC .u32)).drop 0).take (out_1.length * 1) ++ [aU32 (wrapF .u32 ((wrapF .u64 ((wrapF .u64 ((wrapF .u64 (gt a i_3)) * d)) + carry_2)).tmod 1000000000))]))]))) (by kernel_rfl) (app_own (l := out_1) (xs := [wrapF .u32 ((wrapF .u64 ((wrapF .u64 ((wrapF .u64 (gt a i_3)) * d)) + carry_2)).tmod 1000000000)]) (iC_len _) rfl rfl (by kernel_rfl) hg13 hg14)) <| .mu 1 <| .done <| .n2 40 [(0, sU32 a), (1, aU64 d), (5, .hs 2 0 (out_1 ++ [wrapF .u32 ((wrapF .u64 ((wrapF .u64 ((wrapF .u64 (gt a i_3)) * d)) + carry_2)).tmod 1000000000)]).length 1), (7, aI64 i_3), (8, aU64 (wrapF .u64 ((wrapF .u64 ((wrapF .u64 (gt a i_3)) * d)) + carry_2)))] [.dead, .own [aU32 (wrapF .u32 ((wrapF .u64 ((wrapF .u64 ((wrapF .u64 (gt a i_3)) * d)) + carry_2)).tmod 1000000000))], .own ((out_1 ++ [wrapF .u32 ((wrapF .u64 ((wrapF .u64 ((wrapF .u64 (gt a i_3)) * d)) + carry_2)).tmod 1000000000)]).flatMap (iC .u32))] <| .ru fine <| .pop <| .ru fine ?_
   exact loopF_back (out_1 ++ [wrapF .u32 ((wrapF .u64 ((wrapF .u64 ((wrapF .u64 (gt a i_3)) * d)) + carry_2)).tmod 1000000000)], wrapF .u64 ((wrapF .u64 ((wrapF .u64 ((wrapF .u64 (gt a i_3)) * d)) + carry_2)).tdiv 1000000000), wrapF .i64 (i_3 + 1)) hr ((Wk.gc [0, 1, 5, 6, 7] [(2, false)] rfl (pKo (iC .u32) (iC_pure _) (out_1 ++ [wrapF .u32 ((wrapF .u64 ((wrapF .u64 ((wrapF .u64 (gt a i_3)) * d)) + carry_2)).tmod 1000000000)]) trivial)).to (by kernel_rfl))
  ·refine .leave rfl ?_
   obtain rfl := Option.some.inj hr
   exact ⟨rfl, ((Wk.gc [5, 6] [(0, false)] rfl (pKo (iC .u32) (iC_pure _) out_1 trivial)).to (by kernel_rfl))⟩
 ·rcases o15 with ⟨out_8, carry_9⟩
  rintro x st' hq17
  clear hL16
  obtain ⟨rfl, hq17⟩ := hq17
  refine CQ_exit _ rfl <| .wk hq17 <| .seq ?_
  obtain ⟨hg18, hg19, hr⟩ := gd2 hr
  obtain ⟨v20, hc21, hr⟩ := bd hr
  refine .gn fine (ca4 [.dead, .own [aU32 (wrapF .u32 carry_9)], .own ((out_8 ++ [wrapF .u32 carry_9]).flatMap (iC .u32))] (callOk_ref (args := [aB false, .hs 2 0 (out_8 ++ [wrapF .u32 carry_9]).length 1]) (l := [2]) (SnL.cons (Sn.pure rfl) (SnL.cons (Sn.hs rfl (.inl rfl) (SnC.pure (ids_flat (iC_pure _) _)) (fun h => flat_nil0 h)) SnL.nil)) (fiducialref01_made_ok n false (out_8 ++ [wrapF .u32 carry_9]) v20 hc21))) <| .mu 4 <| .e0 (v := .hs 2 0 (out_8 ++ [wrapF .u32 carry_9]).length 1) (ws := [(0, .dead), (2, .own ((out_8 ++ [wrapF .u32 carry_9]).flatMap (iC .u32)))]) (Eq.trans (b := guardO (decide (0 + out_8.length * 1 ≤ (out_8.flatMap (iC .u32)).length) && decide ((out_8.length + 1) * 4 ≤ 140737488355328) && decide (out_8.length + 1 ≤ 4611686018427387904)) (some (.eff (.hs 2 0 (out_8.length + 1) 1) [(0, .dead), (2, .own (((out_8.flatMap (iC .u32)).drop 0).take (out_8.length * 1) ++ [aU32 (wrapF .u32 carry_9)]))]))) (by kernel_rfl) (app_own (l := out_8) (xs := [wrapF .u32 carry_9]) (iC_len _) rfl rfl (by kernel_rfl) hg18 hg19)) <| .ca cf0 <| .mu 2 <| .done <| .ret ?_
  obtain rfl := Option.some.inj hr
  exact FinQ.r1 [sU32 v20.Groups]

theorem fiducialref01_shifted_ok (n : Nat) (a : List Int) (d : Int) (r : List Int) (hr : fiducialref01_shifted n a d = some r) : FnOk Tryz.prog 219 [sU32 a, aU32 d] (sU32 r) := by
 unfold fiducialref01_shifted at hr
 refine FnOk.bd fine Tryz.func219 [.tmp 4] ?_
 unfold Tryz.f219
 simp only [Option.getD_some]
 refine .seq <| .r3 fine 11 [(0, sU32 a), (1, aU32 d)] <| .seq ?_
 obtain ⟨hg1, hg2, hr⟩ := gd2 hr
 obtain ⟨v3, hc4, hr⟩ := bd hr
 refine .gn fine (ca4 [.dead, .own (([d] ++ a).flatMap (iC .u32))] (callOk_ref (args := [aB false, .hs 1 0 ([d] ++ a).length 1]) (l := [1]) (SnL.cons (Sn.pure rfl) (SnL.cons (Sn.hs rfl (.inl rfl) (SnC.pure (ids_flat (iC_pure _) _)) (fun h => flat_nil0 h)) SnL.nil)) (fiducialref01_made_ok n false ([d] ++ a) v3 hc4))) <| .mu 3 <| .e0 (v := .hs 1 0 ([d] ++ a).length 1) (ws := [(0, .dead), (1, .own (([d] ++ a).flatMap (iC .u32)))]) (Eq.trans (b := appS (decide (((a.flatMap (iC .u32))).length = a.length * 1)) (a.flatMap (iC .u32)) a.length (fun z1 z2 => guardO (decide (0 + 1 * 1 ≤ ([d].flatMap (iC .u32)).length) && decide ((1 + z2) * 4 ≤ 140737488355328) && decide (1 + z2 ≤ 4611686018427387904)) (some (.eff (.hs 1 0 (1 + z2) 1) [(0, .dead), (1, .own ((([d].flatMap (iC .u32)).drop 0).take (1 * 1) ++ z1))])))) (by kernel_rfl) (appS_t (flat_lenB (iC_len _)) rfl (app_own (l := [d]) (xs := a) (iC_len _) rfl rfl rfl hg1 hg2))) <| .ca cf0 <| .mu 2 <| .done <| .ret ?_
 obtain rfl := Option.some.inj hr
 exact FinQ.r1 [sU32 v3.Groups]

theorem fiducialref01_group_inj {l : List Int} {i : Int} {l_ : List Int} {i_ : Int} (h : ([slT (iC .u32) l, .at (.int .i64 i)] : List AV) = [slT (iC .u32) l_, .at (.int .i64 i_)]) : l = l_ ∧ i = i_ := by
 simp only [List.cons.injEq, AV.agg.injEq, AV.at.injEq, Value.int.injEq, Value.bool.injEq, AV.fn.injEq, AV.pp.injEq, true_and, and_true, slT_inj_int] at h
 simp_all
theorem fiducialref01_group_cg (n : Nat) {l : List Int} {i : Int} {l_ : List Int} {i_ : Int} (h : ([slT (iC .u32) l, .at (.int .i64 i)] : List AV) = [slT (iC .u32) l_, .at (.int .i64 i_)]) : fiducialref01_group n l i = fiducialref01_group n l_ i_ := by
 obtain ⟨rfl, rfl⟩ := fiducialref01_group_inj h
 rfl
theorem fiducialref01_group_ok (n : Nat) (l : List Int) (i : Int) (r : Int) (hr : fiducialref01_group n l i = some r) : FnOk Tryz.prog 220 [sU32 l, aI64 i] (aU64 r) := by
 unfold fiducialref01_group at hr
 refine FnOk.bd fine Tryz.func220 [.tmp 4] ?_
 unfold Tryz.f220
 simp only [Option.getD_some]
 refine .seq <| .r3 fine 14 [(0, sU32 l), (1, aI64 i)] <| .seq <| .seq <| .r3 fine 14 [(0, sU32 l), (1, aI64 i), (8, aB (decide (i < (l.length : Int))))] ?_
 refine .cd hr (fun hb1 hr => ?_) (fun hb1 hr => ?_)
 ·refine .seq ?_
  obtain ⟨hg2, hr⟩ := gd hr
  refine .r0 fine <| .mu 2 <| .p0 (v := .pp (l.flatMap (iC .u32)) (i.toNat * 1)) (Eq.trans (b := ORes.ofP (guardV (inR i l.length) (.pp (l.flatMap (iC .u32)) (i.toNat * 1)))) (by kernel_rfl) (ofP_guard hg2)) <| .p0 (v := aU32 (gt l i)) (Eq.trans (b := ORes.ofP ((l.flatMap (iC .u32))[i.toNat * 1]?)) (by kernel_rfl) (ofP_some (flat_get (iC_len _) (inR_lt hg2) (by decide : 0 < 1) (by omega : i.toNat * 1 = i.toNat * 1 + 0) (by kernel_rfl)))) <| .mu 2 <| .done <| .ret ?_
  obtain rfl := Option.some.inj hr
  exact FinQ.r1 [aU64 (wrapF .u64 (gt l i))]
 ·refine .skip <| .seq <| .ru fine <| .ret ?_
  obtain rfl := Option.some.inj hr
  exact FinQ.r1 [aU64 0]

theorem fiducialref01_minus_ok (n : Nat) (a : List Int) (b : List Int) (r : List Int) (hr : fiducialref01_minus n a b = some r) : FnOk Tryz.prog 221 [sU32 a, sU32 b] (sU32 r) := by
 unfold fiducialref01_minus at hr
 refine FnOk.bd fine Tryz.func221 [.tmp 4] ?_
 unfold Tryz.f221
 simp only [Option.getD_some]
 refine .seq <| .r3 fine 38 [(0, sU32 a), (1, sU32 b)] <| .seq <| .r2 fine 38 [(0, sU32 a), (1, sU32 b), (5, .hs 0 0 0 1)] [.own []] <| .seq <| .r3 fine 38 [(0, sU32 a), (1, sU32 b), (5, .hs 0 0 0 1), (6, aU64 0)] <| .seq <| .seq <| .r3 fine 38 [(0, sU32 a), (1, sU32 b), (5, .hs 0 0 0 1), (6, aU64 0), (7, aI64 0)] <| .block ?_
 replace hr := bd hr; obtain ⟨out_11, hL21, hr⟩ := hr
 refine .loopO (σ := fun z0 => match z0 with | (out_1, borrow_2, i_3) => ⟨mkS 38 0 [(0, sU32 a), (1, sU32 b), (5, .hs 0 0 out_1.length 1), (6, aU64 borrow_2), (7, aI64 i_3)], [.own (out_1.flatMap (iC .u32))]⟩) (Q := fun x st' => x = .exit 0 ∧ Wk 0 st' ⟨mkS 38 0 [(5, .hs 0 0 out_11.length 1)], [.own (out_11.flatMap (iC .u32))]⟩) hL21 ((Wk.gc [0, 1, 5, 6, 7] [(0, false)] rfl (pKc trivial)).to (by kernel_rfl)) ?_ ?_
 ·clear hr
  rintro m ⟨out_1, borrow_2, i_3⟩ hr
  show CQ _ _ _ _ _ ⟨_, _⟩
  refine .seq <| .seq <| .r3 fine 38 [(0, sU32 a), (1, sU32 b), (5, .hs 0 0 out_1.length 1), (6, aU64 borrow_2), (7, aI64 i_3), (13, aB (decide (i_3 < (a.length : Int))))] ?_
  refine .cd hr (fun hb13 hr => ?_) (fun hb13 hr => ?_)
  ·refine .skip <| .seq <| .block <| .seq ?_
   obtain ⟨v14, hc15, v16, hc17, hr⟩ := bd2 hr
   refine .gn fine (ca1 (ok0 (fiducialref01_group_ok n a i_3 v14 hc15)) (ca3 (ok0 (fiducialref01_group_ok n b i_3 v16 hc17)))) <| .mu 2 <| .ca cf0 <| .mu 3 <| .ca (cfA (fun h => by rw [sv hc17 hc15 (fiducialref01_group_cg n h)]) cf0) <| .mu 4 <| .done <| .n2 38 [(0, sU32 a), (1, sU32 b), (5, .hs 0 0 out_1.length 1), (7, aI64 i_3), (8, aU64 (wrapF .u64 ((wrapF .u64 ((wrapF .u64 (1000000000 + v14)) - v16)) - borrow_2)))] [.own (out_1.flatMap (iC .u32))] <| .seq ?_
   obtain ⟨hg18, hg19, hr⟩ := gd2 hr
   refine .r0 fine <| .mu 5 <| .e0 (v := .hs 2 0 (out_1 ++ [wrapF .u32 ((wrapF .u64 ((wrapF .u64 ((wrapF .u64 (1000000000 + v14)) - v16)) - borrow_2)).tmod 1000000000)]).length 1) (ws := [(0, .dead), (2, .own ((out_1 ++ [wrapF .u32 ((wrapF .u64 ((wrapF .u64 ((wrapF .u64 (1000000000 + v14)) - v16)) - borrow_2)).tmod 1000000000)]).flatMap (iC .u32)))]) (Eq.trans (b := guardO (decide (0 + out_1.length * 1 ≤ (out_1.flatMap (iC .u32)).length) && decide ((out_1.length + 1) * 4 ≤ 140737488355328) && decide (out_1.length + 1 ≤ 4611686018427387904)) (some (.eff (.hs 2 0 (out_1.length + 1) 1) [(0, .dead), (2, .own (((out_1.flatMap (iC .u32)).drop 0).take (out_1.length * 1) ++ [aU32 (wrapF .u32 ((wrapF .u64 ((wrapF .u64 ((wrapF .u64 (1000000000 + v14)) - v16)) - borrow_2)).tmod 1000000000))]))]))) (by kernel_rfl) (app_own (l := out_1) (xs := [wrapF .u32 ((wrapF .u64 ((wrapF .u64 ((wrapF .u64 (1000000000 + v14)) - v16)) - borrow_2)).tmod 1000000000)]) (iC_len _) rfl rfl (by kernel_rfl) hg18 hg19)) <| .mu 1 <| .done <| .n2 38 [(0, sU32 a), (1, sU32 b), (5, .hs 2 0 (out_1 ++ [wrapF .u32 ((wrapF .u64 ((wrapF .u64 ((wrapF .u64 (1000000000 + v14)) - v16)) - borrow_2)).tmod 1000000000)]).length 1), (7, aI64 i_3), (8, aU64 (wrapF .u64 ((wrapF .u64 ((wrapF .u64 (1000000000 + v14)) - v16)) - borrow_2)))] [.dead, .own [aU32 (wrapF .u32 ((wrapF .u64 ((wrapF .u64 ((wrapF .u64 (1000000000 + v14)) - v16)) - borrow_2)).tmod 1000000000))], .own ((out_1 ++ [wrapF .u32 ((wrapF .u64 ((wrapF .u64 ((wrapF .u64 (1000000000 + v14)) - v16)) - borrow_2)).tmod 1000000000)]).flatMap (iC .u32))] <| .ru fine <| .pop <| .ru fine ?_
   exact loopF_back (out_1 ++ [wrapF .u32 ((wrapF .u64 ((wrapF .u64 ((wrapF .u64 (1000000000 + v14)) - v16)) - borrow_2)).tmod 1000000000)], wrapF .u64 (1 - (wrapF .u64 ((wrapF .u64 ((wrapF .u64 ((wrapF .u64 (1000000000 + v14)) - v16)) - borrow_2)).tdiv 1000000000))), wrapF .i64 (i_3 + 1)) hr ((Wk.gc [0, 1, 5, 6, 7] [(2, false)] rfl (pKo (iC .u32) (iC_pure _) (out_1 ++ [wrapF .u32 ((wrapF .u64 ((wrapF .u64 ((wrapF .u64 (1000000000 + v14)) - v16)) - borrow_2)).tmod 1000000000)]) trivial)).to (by kernel_rfl))
  ·refine .leave rfl ?_
   obtain rfl := Option.some.inj hr
   exact ⟨rfl, ((Wk.gc [5] [(0, false)] rfl (pKo (iC .u32) (iC_pure _) out_1 trivial)).to (by kernel_rfl))⟩
 ·rintro x st' hq22
  clear hL21
  obtain ⟨rfl, hq22⟩ := hq22
  refine CQ_exit _ rfl <| .wk hq22 <| .seq ?_
  obtain ⟨v23, hc24, hr⟩ := bd hr
  refine .g1 fine (callOk_ref (args := [aB false, .hs 0 0 out_11.length 1]) (l := [0]) (SnL.cons (Sn.pure rfl) (SnL.cons (Sn.hs rfl (.inl rfl) (SnC.pure (ids_flat (iC_pure _) _)) (fun h => flat_nil0 h)) SnL.nil)) (fiducialref01_made_ok n false out_11 v23 hc24)) <| .mu 1 <| .ca cf0 <| .mu 2 <| .done <| .ret ?_
  obtain rfl := Option.some.inj hr
  exact FinQ.r1 [sU32 v23.Groups]

theorem fiducialref01_parts_ok (n : Nat) (a : List Int) (b : List Int) (r : List Int × List Int) (hr : fiducialref01_parts n a b = some r) : FnOk Tryz.prog 189 [sU32 a, sU32 b] (.tup [sU32 r.1, sU32 r.2]) := by
 unfold fiducialref01_parts at hr
 refine FnOk.bd fine Tryz.func189 [.tmp 4, .tmp 5] ?_
 unfold Tryz.f189
 simp only [Option.getD_some]
 refine .seq <| .r3 fine 130 [(0, sU32 a), (1, sU32 b)] <| .seq <| .r3 fine 130 [(0, sU32 a), (1, sU32 b), (6, aI64 (b.length : Int))] <| .seq <| .seq <| .r3 fine 130 [(0, sU32 a), (1, sU32 b), (6, aI64 (b.length : Int)), (19, aB (((b.length : Int) : Int) == 1))] ?_
 refine .cd hr (fun hb1 hr => ?_) (fun hb1 hr => ?_)
 ·refine .seq ?_
  obtain ⟨hg2, hr⟩ := gd hr
  obtain ⟨v3, hc4, hr⟩ := bd hr
  refine .g1 fine (ok0 (fiducialref01_short_ok n a (wrapF .u64 (gt b 0)) v3 hc4)) <| .mu 2 <| .p0 (v := .pp (b.flatMap (iC .u32)) ((0 : Int).toNat * 1)) (Eq.trans (b := ORes.ofP (guardV (inR 0 b.length) (.pp (b.flatMap (iC .u32)) ((0 : Int).toNat * 1)))) (by kernel_rfl) (ofP_guard hg2)) <| .p0 (v := aU32 (gt b 0)) (Eq.trans (b := ORes.ofP ((b.flatMap (iC .u32))[(0 : Int).toNat * 1]?)) (by kernel_rfl) (ofP_some (flat_get (iC_len _) (inR_lt hg2) (by decide : 0 < 1) (by omega : (0 : Int).toNat * 1 = (0 : Int).toNat * 1 + 0) (by kernel_rfl)))) <| .mu 1 <| .ca cf0 <| .mu 5 <| .done <| .n2 130 [(7, sU32 v3.1), (8, aU64 v3.2)] [] <| .seq ?_
  obtain ⟨v5, hc6, hr⟩ := bd hr
  refine .gn fine (ca4 [.own [aU32 (wrapF .u32 v3.2)]] (callOk_ref (args := [aB false, .hs 0 0 1 1]) (l := [0]) (SnL.cons (Sn.pure rfl) (SnL.cons (Sn.hs rfl (.inl rfl) (SnC.cons (Sn.pure rfl) SnC.nil) (fun h => nomatch h)) SnL.nil)) (fiducialref01_made_ok n false [(wrapF .u32 v3.2)] v5 hc6))) <| .mu 4 <| .ca cf0 <| .mu 3 <| .done <| .ret ?_
  obtain rfl := Option.some.inj hr
  exact FinQ.ret (vs := [sU32 v3.1, sU32 v5.Groups]) (by kernel_rfl) (Sn.tup (SnL.cons (Sn.pure rfl) (SnL.cons (Sn.pure rfl) SnL.nil)))
 ·refine .skip <| .seq <| .seq ?_
  obtain ⟨v7, hc8, hr⟩ := bd hr
  refine .g1 fine (ok0 (fiducialref01_size_ok n a b v7 hc8)) <| .mu 2 <| .ca cf0 <| .mu 1 <| .done <| .n2 130 [(0, sU32 a), (1, sU32 b), (6, aI64 (b.length : Int)), (38, aB (decide (v7 < 0)))] [] ?_
  refine .cd hr (fun hb9 hr => ?_) (fun hb9 hr => ?_)
  ·refine .seq <| .r2 fine 130 [(4, .hs 0 0 0 1), (5, sU32 a)] [.own []] <| .ret ?_
   obtain rfl := Option.some.inj hr
   exact FinQ.ret (vs := [.hs 0 0 0 1, sU32 a]) (by kernel_rfl) (Sn.tup (SnL.cons (Sn.hs rfl (.inl rfl) SnC.nil (fun _ => rfl)) (SnL.cons (Sn.pure rfl) SnL.nil)))
  ·refine .skip <| .seq ?_
   obtain ⟨hg10, hg11, hr⟩ := gd2 hr
   refine .r0 fine <| .mu 3 <| .p0 (v := .pp (b.flatMap (iC .u32)) ((wrapF .i64 ((b.length : Int) - 1)).toNat * 1)) (Eq.trans (b := ORes.ofP (guardV (inR (wrapF .i64 ((b.length : Int) - 1)) b.length) (.pp (b.flatMap (iC .u32)) ((wrapF .i64 ((b.length : Int) - 1)).toNat * 1)))) (by kernel_rfl) (ofP_guard hg10)) <| .p0 (v := aU32 (gt b (wrapF .i64 ((b.length : Int) - 1)))) (Eq.trans (b := ORes.ofP ((b.flatMap (iC .u32))[(wrapF .i64 ((b.length : Int) - 1)).toNat * 1]?)) (by kernel_rfl) (ofP_some (flat_get (iC_len _) (inR_lt hg10) (by decide : 0 < 1) (by omega : (wrapF .i64 ((b.length : Int) - 1)).toNat * 1 = (wrapF .i64 ((b.length : Int) - 1)).toNat * 1 + 0) (by kernel_rfl)))) <| .mu 2 <| .p0 (v := aU64 (wrapF .u64 ((1000000000 : Int).tdiv (wrapF .u64 ((wrapF .u64 (gt b (wrapF .i64 ((b.length : Int) - 1)))) + 1))))) (op_quo (x := 1000000000) (y := wrapF .u64 ((wrapF .u64 (gt b (wrapF .i64 ((b.length : Int) - 1)))) + 1)) (by kernel_rfl) (by kernel_rfl) hg11) <| .mu 1 <| .done <| .n2 130 [(0, sU32 a), (1, sU32 b), (6, aI64 (b.length : Int)), (9, aU64 (wrapF .u64 ((1000000000 : Int).tdiv (wrapF .u64 ((wrapF .u64 (gt b (wrapF .i64 ((b.length : Int) - 1)))) + 1)))))] [] <| .seq ?_
   obtain ⟨v12, hc13, v14, hc15, hr⟩ := bd2 hr
   refine .gn fine (ca1 (ok0 (fiducialref01_scaled_ok n a (wrapF .u64 ((1000000000 : Int).tdiv (wrapF .u64 ((wrapF .u64 (gt b (wrapF .i64 ((b.length : Int) - 1)))) + 1)))) v12 hc13)) (ca3 (ok0 (fiducialref01_scaled_ok n b (wrapF .u64 ((1000000000 : Int).tdiv (wrapF .u64 ((wrapF .u64 (gt b (wrapF .i64 ((b.length : Int) - 1)))) + 1)))) v14 hc15)))) <| .mu 2 <| .ca cf0 <| .mu 2 <| .ca (cfA (fun h => by rw [sv hc15 hc13 (fiducialref01_scaled_cg n h)]) cf0) <| .mu 2 <| .done <| .n2 130 [(0, sU32 v12), (1, sU32 v14), (6, aI64 (b.length : Int)), (9, aU64 (wrapF .u64 ((1000000000 : Int).tdiv (wrapF .u64 ((wrapF .u64 (gt b (wrapF .i64 ((b.length : Int) - 1)))) + 1)))))] [] <| .seq ?_
   obtain ⟨hg16, hr⟩ := gd hr
   obtain ⟨v17, hc18, hr⟩ := bd hr
   refine .g1 fine (ok0 (fiducialref01_made_ok n false ((v12.drop (wrapF .i64 ((wrapF .i64 ((v12.length : Int) - (b.length : Int))) + 1)).toNat).take ((v12.length : Int).toNat - (wrapF .i64 ((wrapF .i64 ((v12.length : Int) - (b.length : Int))) + 1)).toNat)) v17 hc18)) <| .mu 6 <| .p0 (v := sU32 ((v12.drop (wrapF .i64 ((wrapF .i64 ((v12.length : Int) - (b.length : Int))) + 1)).toNat).take ((v12.length : Int).toNat - (wrapF .i64 ((wrapF .i64 ((v12.length : Int) - (b.length : Int))) + 1)).toNat))) (Eq.trans (b := slO (inS (wrapF .i64 ((wrapF .i64 ((v12.length : Int) - (b.length : Int))) + 1)) (v12.length : Int) v12.length) (wrapF .i64 ((wrapF .i64 ((v12.length : Int) - (b.length : Int))) + 1)).toNat (v12.length : Int).toNat (fun z1 z2 => .sl true (((v12.flatMap (iC .u32)).drop (z1 * 1)).take ((z2 - z1) * 1)) (z2 - z1))) (by kernel_rfl) (slO_t hg16 (sub_sl (iC_len _) (inS_le hg16)))) <| .ca cf0 <| .mu 2 <| .done <| .n2 130 [(0, sU32 v12), (1, sU32 v14), (6, aI64 (b.length : Int)), (9, aU64 (wrapF .u64 ((1000000000 : Int).tdiv (wrapF .u64 ((wrapF .u64 (gt b (wrapF .i64 ((b.length : Int) - 1)))) + 1))))), (10, sU32 v17.Groups)] [] <| .seq ?_
   obtain ⟨hg19, hg20, hg21, hr⟩ := gd3 hr
   refine .r0 fine <| .mu 5 <| .e0 (v := .hs 0 0 (List.replicate (wrapF .i64 ((wrapF .i64 ((v12.length : Int) - (b.length : Int))) + 1)).toNat ((0 : Int) : Int)).length 1) (ws := [(0, .own ((List.replicate (wrapF .i64 ((wrapF .i64 ((v12.length : Int) - (b.length : Int))) + 1)).toNat ((0 : Int) : Int)).flatMap (iC .u32)))]) (Eq.trans (b := guardO (decide (0 ≤ (wrapF .i64 ((wrapF .i64 ((v12.length : Int) - (b.length : Int))) + 1))) && decide ((wrapF .i64 ((wrapF .i64 ((v12.length : Int) - (b.length : Int))) + 1)) ≤ (wrapF .i64 ((wrapF .i64 ((v12.length : Int) - (b.length : Int))) + 1))) && decide ((4 : Int) * (wrapF .i64 ((wrapF .i64 ((v12.length : Int) - (b.length : Int))) + 1)) ≤ 281474976710656) && decide ((wrapF .i64 ((wrapF .i64 ((v12.length : Int) - (b.length : Int))) + 1)) ≤ 9223372036854775807) && true && true && true) (some (.eff (.hs 0 0 (wrapF .i64 ((wrapF .i64 ((v12.length : Int) - (b.length : Int))) + 1)).toNat 1) [(0, .own (zerosA [aU32 0] (wrapF .i64 ((wrapF .i64 ((v12.length : Int) - (b.length : Int))) + 1)).toNat))]))) (by kernel_rfl) (make_own (c := (iC .u32)) (z := (0 : Int)) (n := wrapF .i64 ((wrapF .i64 ((v12.length : Int) - (b.length : Int))) + 1)) (by_ := 4) rfl hg19 hg20 hg21)) <| .mu 1 <| .done <| .n2 130 [(0, sU32 v12), (1, sU32 v14), (6, aI64 (b.length : Int)), (9, aU64 (wrapF .u64 ((1000000000 : Int).tdiv (wrapF .u64 ((wrapF .u64 (gt b (wrapF .i64 ((b.length : Int) - 1)))) + 1))))), (10, sU32 v17.Groups), (11, .hs 0 0 (List.replicate (wrapF .i64 ((wrapF .i64 ((v12.length : Int) - (b.length : Int))) + 1)).toNat ((0 : Int) : Int)).length 1)] [.own ((List.replicate (wrapF .i64 ((wrapF .i64 ((v12.length : Int) - (b.length : Int))) + 1)).toNat ((0 : Int) : Int)).flatMap (iC .u32))] <| .seq <| .seq <| .r3 fine 130 [(0, sU32 v12), (1, sU32 v14), (6, aI64 (b.length : Int)), (9, aU64 (wrapF .u64 ((1000000000 : Int).tdiv (wrapF .u64 ((wrapF .u64 (gt b (wrapF .i64 ((b.length : Int) - 1)))) + 1))))), (10, sU32 v17.Groups), (11, .hs 0 0 (List.replicate (wrapF .i64 ((wrapF .i64 ((v12.length : Int) - (b.length : Int))) + 1)).toNat ((0 : Int) : Int)).length 1), (12, aI64 (wrapF .i64 ((v12.length : Int) - (b.length : Int))))] <| .block ?_
   replace hr := bd hr; obtain ⟨o94, hL95, hr⟩ := hr
   refine .loopO (σ := fun z0 => match z0 with | (rest_22, q_23, i_24) => ⟨mkS 130 0 [(0, sU32 v12), (1, sU32 v14), (6, aI64 (b.length : Int)), (9, aU64 (wrapF .u64 ((1000000000 : Int).tdiv (wrapF .u64 ((wrapF .u64 (gt b (wrapF .i64 ((b.length : Int) - 1)))) + 1))))), (10, sU32 rest_22), (11, .hs 0 0 q_23.length 1), (12, aI64 i_24)], [.own (q_23.flatMap (iC .u32))]⟩) (Q := fun x st' => match (generalizing := false) o94 with | (rest_58, q_59) => x = .exit 0 ∧ Wk 0 st' ⟨mkS 130 0 [(9, aU64 (wrapF .u64 ((1000000000 : Int).tdiv (wrapF .u64 ((wrapF .u64 (gt b (wrapF .i64 ((b.length : Int) - 1)))) + 1))))), (10, sU32 rest_58), (11, .hs 0 0 q_59.length 1)], [.own (q_59.flatMap (iC .u32))]⟩) hL95 ((Wk.gc [0, 1, 6, 9, 10, 11, 12] [(0, false)] rfl (pKo (iC .u32) (iC_pure _) (List.replicate (wrapF .i64 ((wrapF .i64 ((v12.length : Int) - (b.length : Int))) + 1)).toNat ((0 : Int) : Int)) trivial)).to (by kernel_rfl)) ?_ ?_
   ·clear hr
    rintro m ⟨rest_22, q_23, i_24⟩ hr
    show CQ _ _ _ _ _ ⟨_, _⟩
    refine .seq <| .seq <| .r3 fine 130 [(0, sU32 v12), (1, sU32 v14), (6, aI64 (b.length : Int)), (9, aU64 (wrapF .u64 ((1000000000 : Int).tdiv (wrapF .u64 ((wrapF .u64 (gt b (wrapF .i64 ((b.length : Int) - 1)))) + 1))))), (10, sU32 rest_22), (11, .hs 0 0 q_23.length 1), (12, aI64 i_24), (75, aB (decide (i_24 ≥ 0)))] ?_
    refine .cd hr (fun hb61 hr => ?_) (fun hb61 hr => ?_)
    ·refine .skip <| .seq <| .block <| .seq ?_
     obtain ⟨hg62, hr⟩ := gd hr
     obtain ⟨v63, hc64, hr⟩ := bd hr
     refine .g1 fine (ok0 (fiducialref01_shifted_ok n rest_22 (gt v12 i_24) v63 hc64)) <| .mu 3 <| .p0 (v := .pp (v12.flatMap (iC .u32)) (i_24.toNat * 1)) (Eq.trans (b := ORes.ofP (guardV (inR i_24 v12.length) (.pp (v12.flatMap (iC .u32)) (i_24.toNat * 1)))) (by kernel_rfl) (ofP_guard hg62)) <| .p0 (v := aU32 (gt v12 i_24)) (Eq.trans (b := ORes.ofP ((v12.flatMap (iC .u32))[i_24.toNat * 1]?)) (by kernel_rfl) (ofP_some (flat_get (iC_len _) (inR_lt hg62) (by decide : 0 < 1) (by omega : i_24.toNat * 1 = i_24.toNat * 1 + 0) (by kernel_rfl)))) <| .ca cf0 <| .mu 1 <| .done <| .n2 130 [(0, sU32 v12), (1, sU32 v14), (6, aI64 (b.length : Int)), (9, aU64 (wrapF .u64 ((1000000000 : Int).tdiv (wrapF .u64 ((wrapF .u64 (gt b (wrapF .i64 ((b.length : Int) - 1)))) + 1))))), (10, sU32 v63), (11, .hs 0 0 q_23.length 1), (12, aI64 i_24)] [.own (q_23.flatMap (iC .u32))] <| .seq ?_
     obtain ⟨v65, hc66, v67, hc68, hr⟩ := bd2 hr
     obtain ⟨hg69, hg70, hr⟩ := gd2 hr
     refine .tn fine (ca1 (ok0 (fiducialref01_group_ok n v63 (b.length : Int) v65 hc66)) (ca3 (ok0 (fiducialref01_group_ok n v63 (wrapF .i64 ((b.length : Int) - 1)) v67 hc68)))) <| .mu 2 <| .ca cf0 <| .mu 4 <| .ca (cfA (fun h => by rw [sv hc68 hc66 (fiducialref01_group_cg n h)]) cf0) <| .mu 4 <| .pure (v := .pp (v14.flatMap (iC .u32)) ((wrapF .i64 ((b.length : Int) - 1)).toNat * 1)) (by kernel_rfl) (Eq.trans (b := ORes.ofP (guardV (inR (wrapF .i64 ((b.length : Int) - 1)) v14.length) (.pp (v14.flatMap (iC .u32)) ((wrapF .i64 ((b.length : Int) - 1)).toNat * 1)))) (by kernel_rfl) (ofP_guard hg69)) (by kernel_rfl) <| .pure (v := aU32 (gt v14 (wrapF .i64 ((b.length : Int) - 1)))) (by kernel_rfl) (Eq.trans (b := ORes.ofP ((v14.flatMap (iC .u32))[(wrapF .i64 ((b.length : Int) - 1)).toNat * 1]?)) (by kernel_rfl) (ofP_some (flat_get (iC_len _) (inR_lt hg69) (by decide : 0 < 1) (by omega : (wrapF .i64 ((b.length : Int) - 1)).toNat * 1 = (wrapF .i64 ((b.length : Int) - 1)).toNat * 1 + 0) (by kernel_rfl)))) (by kernel_rfl) <| .mu 2 <| .pure (v := aU64 (wrapF .u64 ((wrapF .u64 ((wrapF .u64 (v65 * 1000000000)) + v67)).tdiv (wrapF .u64 ((wrapF .u64 (gt v14 (wrapF .i64 ((b.length : Int) - 1)))) + 1))))) (by kernel_rfl) (op_quo (x := wrapF .u64 ((wrapF .u64 (v65 * 1000000000)) + v67)) (y := wrapF .u64 ((wrapF .u64 (gt v14 (wrapF .i64 ((b.length : Int) - 1)))) + 1)) (by kernel_rfl) (by kernel_rfl) hg70) (by kernel_rfl) <| .mu 1 ?_
     refine .done ⟨by kernel_rfl, ?_⟩
     refine .n2 130 [(0, sU32 v12), (1, sU32 v14), (6, aI64 (b.length : Int)), (9, aU64 (wrapF .u64 ((1000000000 : Int).tdiv (wrapF .u64 ((wrapF .u64 (gt b (wrapF .i64 ((b.length : Int) - 1)))) + 1))))), (10, sU32 v63), (11, .hs 0 0 q_23.length 1), (12, aI64 i_24), (13, aU64 (wrapF .u64 ((wrapF .u64 ((wrapF .u64 (v65 * 1000000000)) + v67)).tdiv (wrapF .u64 ((wrapF .u64 (gt v14 (wrapF .i64 ((b.length : Int) - 1)))) + 1)))))] [.own (q_23.flatMap (iC .u32))] <| .seq ?_
     obtain ⟨v71, hc72, v73, hc74, hr⟩ := bd2 hr
     refine .gn fine (ca1 (ok0 (fiducialref01_scaled_ok n v14 (wrapF .u64 ((wrapF .u64 ((wrapF .u64 (v65 * 1000000000)) + v67)).tdiv (wrapF .u64 ((wrapF .u64 (gt v14 (wrapF .i64 ((b.length : Int) - 1)))) + 1)))) v71 hc72)) (ca3 (ok0 (fiducialref01_minus_ok n v63 v71 v73 hc74)))) <| .mu 3 <| .ca cf0 <| .ca (cfF cf0) <| .mu 1 <| .done <| .n2 130 [(0, sU32 v12), (1, sU32 v14), (6, aI64 (b.length : Int)), (9, aU64 (wrapF .u64 ((1000000000 : Int).tdiv (wrapF .u64 ((wrapF .u64 (gt b (wrapF .i64 ((b.length : Int) - 1)))) + 1))))), (10, sU32 v73), (11, .hs 0 0 q_23.length 1), (12, aI64 i_24), (13, aU64 (wrapF .u64 ((wrapF .u64 ((wrapF .u64 (v65 * 1000000000)) + v67)).tdiv (wrapF .u64 ((wrapF .u64 (gt v14 (wrapF .i64 ((b.length : Int) - 1)))) + 1)))))] [.own (q_23.flatMap (iC .u32))] <| .seq <| .block ?_
     replace hr := bd hr; obtain ⟨o90, hL91, hr⟩ := hr
     refine .loopO (σ := fun z0 => match z0 with | (rest_75, guess_76) => ⟨mkS 130 0 [(0, sU32 v12), (1, sU32 v14), (6, aI64 (b.length : Int)), (9, aU64 (wrapF .u64 ((1000000000 : Int).tdiv (wrapF .u64 ((wrapF .u64 (gt b (wrapF .i64 ((b.length : Int) - 1)))) + 1))))), (10, sU32 rest_75), (11, .hs 0 0 q_23.length 1), (12, aI64 i_24), (13, aU64 guess_76)], [.own (q_23.flatMap (iC .u32))]⟩) (Q := fun x st' => match (generalizing := false) o90 with | (rest_82, guess_83) => x = .exit 2 ∧ Wk 0 st' ⟨mkS 130 0 [(0, sU32 v12), (1, sU32 v14), (6, aI64 (b.length : Int)), (9, aU64 (wrapF .u64 ((1000000000 : Int).tdiv (wrapF .u64 ((wrapF .u64 (gt b (wrapF .i64 ((b.length : Int) - 1)))) + 1))))), (10, sU32 rest_82), (11, .hs 0 0 q_23.length 1), (12, aI64 i_24), (13, aU64 guess_83)], [.own (q_23.flatMap (iC .u32))]⟩) hL91 ((Wk.gc [0, 1, 6, 9, 10, 11, 12, 13] [(0, false)] rfl (pKo (iC .u32) (iC_pure _) q_23 trivial)).to (by kernel_rfl)) ?_ ?_
     ·clear hr
      rintro m ⟨rest_75, guess_76⟩ hr
      show CQ _ _ _ _ _ ⟨_, _⟩
      refine .seq <| .seq ?_
      obtain ⟨v85, hc86, hr⟩ := bd hr
      refine .g1 fine (ok0 (fiducialref01_size_ok n rest_75 v14 v85 hc86)) <| .mu 2 <| .ca cf0 <| .mu 1 <| .done <| .n2 130 [(0, sU32 v12), (1, sU32 v14), (6, aI64 (b.length : Int)), (9, aU64 (wrapF .u64 ((1000000000 : Int).tdiv (wrapF .u64 ((wrapF .u64 (gt b (wrapF .i64 ((b.length : Int) - 1)))) + 1))))), (10, sU32 rest_75), (11, .hs 0 0 q_23.length 1), (12, aI64 i_24), (13, aU64 guess_76), (109, aB (decide (v85 ≥ 0)))] [.own (q_23.flatMap (iC .u32))] ?_
      refine .cd hr (fun hb87 hr => ?_) (fun hb87 hr => ?_)
      ·refine .skip <| .block <| .seq ?_
       obtain ⟨v88, hc89, hr⟩ := bd hr
       refine .g1 fine (ok0 (fiducialref01_minus_ok n rest_75 v14 v88 hc89)) <| .mu 2 <| .ca cf0 <| .mu 1 <| .done <| .n2 130 [(0, sU32 v12), (1, sU32 v14), (6, aI64 (b.length : Int)), (9, aU64 (wrapF .u64 ((1000000000 : Int).tdiv (wrapF .u64 ((wrapF .u64 (gt b (wrapF .i64 ((b.length : Int) - 1)))) + 1))))), (10, sU32 v88), (11, .hs 0 0 q_23.length 1), (12, aI64 i_24), (13, aU64 guess_76)] [.own (q_23.flatMap (iC .u32))] <| .ru fine <| .pop ?_
       exact loopF_back (v88, wrapF .u64 (guess_76 + 1)) hr ((Wk.gc [0, 1, 6, 9, 10, 11, 12, 13] [(0, false)] rfl (pKo (iC .u32) (iC_pure _) q_23 trivial)).to (by kernel_rfl))
      ·refine .leave rfl ?_
       obtain rfl := Option.some.inj hr
       exact ⟨rfl, ((Wk.gc [0, 1, 6, 9, 10, 11, 12, 13] [(0, false)] rfl (pKo (iC .u32) (iC_pure _) q_23 trivial)).to (by kernel_rfl))⟩
     ·rcases o90 with ⟨rest_82, guess_83⟩
      rintro x st' hq92
      clear hL91
      obtain ⟨rfl, hq92⟩ := hq92
      refine CQ_exit _ rfl <| .wk hq92 ?_
      obtain ⟨hg93, hr⟩ := gd hr
      refine .r0 fine <| .mu 4 <| .p0 (v := .hp 0 (0 + i_24.toNat * 1)) (Eq.trans (b := ORes.ofP (guardV (inR i_24 q_23.length) (.hp 0 (0 + i_24.toNat * 1)))) (by kernel_rfl) (ofP_guard hg93)) <| .e0 (v := .unk) (ws := [(0, .own ((q_23.set i_24.toNat (wrapF .u32 guess_83)).flatMap (iC .u32)))]) (Eq.trans (b := stO (decide ((0 + i_24.toNat * 1) + 1 ≤ (q_23.flatMap (iC .u32)).length) && true) [(0, .own (setCells (q_23.flatMap (iC .u32)) (0 + i_24.toNat * 1) [aU32 (wrapF .u32 guess_83)]))]) (by kernel_rfl) (stO_t (and_t (flat_fits (iC_len _) (inR_lt hg93) (Nat.le_of_ble_eq_true rfl) (by omega : 0 + i_24.toNat * 1 = i_24.toNat * 1 + 0))) (congrArg Blk.own (flat_set (iC_len _) (inR_lt hg93) (Nat.le_of_ble_eq_true rfl) (by omega : 0 + i_24.toNat * 1 = i_24.toNat * 1 + 0) (by kernel_rfl))))) <| .done <| .pop <| .ru fine ?_
      exact loopF_back (rest_82, q_23.set i_24.toNat (wrapF .u32 guess_83), wrapF .i64 (i_24 - 1)) hr ((Wk.relen 11 (b := 0) (es := 1) (len := q_23.length) (q_23.set i_24.toNat (wrapF .u32 guess_83)).length (by kernel_rfl) (Eq.symm (List.length_set.trans rfl))).trans ((Wk.gc [0, 1, 6, 9, 10, 11, 12] [(0, false)] rfl (pKo (iC .u32) (iC_pure _) (q_23.set i_24.toNat (wrapF .u32 guess_83)) trivial)).to (by kernel_rfl)))
    ·refine .leave rfl ?_
     obtain rfl := Option.some.inj hr
     exact ⟨rfl, ((Wk.gc [9, 10, 11] [(0, false)] rfl (pKo (iC .u32) (iC_pure _) q_23 trivial)).to (by kernel_rfl))⟩
   ·rcases o94 with ⟨rest_58, q_59⟩
    rintro x st' hq96
    clear hL95
    obtain ⟨rfl, hq96⟩ := hq96
    refine CQ_exit _ rfl <| .wk hq96 <| .seq ?_
    obtain ⟨v97, hc98, hr⟩ := bd hr
    refine .g1 fine (ok0 (fiducialref01_short_ok n rest_58 (wrapF .u64 ((1000000000 : Int).tdiv (wrapF .u64 ((wrapF .u64 (gt b (wrapF .i64 ((b.length : Int) - 1)))) + 1)))) v97 hc98)) <| .mu 2 <| .ca cf0 <| .mu 5 <| .done <| .n2 130 [(11, .hs 0 0 q_59.length 1), (14, sU32 v97.1)] [.own (q_59.flatMap (iC .u32))] <| .seq ?_
    obtain ⟨v99, hc100, hr⟩ := bd hr
    refine .g1 fine (callOk_ref (args := [aB false, .hs 0 0 q_59.length 1]) (l := [0]) (SnL.cons (Sn.pure rfl) (SnL.cons (Sn.hs rfl (.inl rfl) (SnC.pure (ids_flat (iC_pure _) _)) (fun h => flat_nil0 h)) SnL.nil)) (fiducialref01_made_ok n false q_59 v99 hc100)) <| .mu 1 <| .ca cf0 <| .mu 4 <| .done <| .ret ?_
    obtain rfl := Option.some.inj hr
    exact FinQ.ret (vs := [sU32 v99.Groups, sU32 v97.1]) (by kernel_rfl) (Sn.tup (SnL.cons (Sn.pure rfl) (SnL.cons (Sn.pure rfl) SnL.nil)))

theorem fiducialref01_pair_inj {a : List Int} {a_ : List Int} (h : ([slT (iC .u32) a] : List AV) = [slT (iC .u32) a_]) : a = a_ := by
 simp only [List.cons.injEq, AV.agg.injEq, AV.at.injEq, Value.int.injEq, Value.bool.injEq, AV.fn.injEq, AV.pp.injEq, true_and, and_true, slT_inj_int] at h
 simp_all
theorem fiducialref01_pair_cg (n : Nat) {a : List Int} {a_ : List Int} (h : ([slT (iC .u32) a] : List AV) = [slT (iC .u32) a_]) : fiducialref01_pair n a = fiducialref01_pair n a_ := by
 obtain rfl := fiducialref01_pair_inj h
 rfl
theorem fiducialref01_pair_ok (n : Nat) (a : List Int) (r : Int) (hr : fiducialref01_pair n a = some r) : FnOk Tryz.prog 191 [sU32 a] (aU64 r) := by
 unfold fiducialref01_pair at hr
 refine FnOk.bd fine Tryz.func191 [.tmp 2] ?_
 unfold Tryz.f191
 simp only [Option.getD_some]
 refine .seq <| .r3 fine 9 [(0, sU32 a)] <| .seq ?_
 obtain ⟨v1, hc2, v3, hc4, hr⟩ := bd2 hr
 refine .gn fine (ca1 (ok0 (fiducialref01_group_ok n a 1 v1 hc2)) (ca3 (ok0 (fiducialref01_group_ok n a 0 v3 hc4)))) <| .mu 1 <| .ca cf0 <| .mu 2 <| .ca (cfA (fun h => by rw [sv hc4 hc2 (fiducialref01_group_cg n h)]) cf0) <| .mu 2 <| .done <| .ret ?_
 obtain rfl := Option.some.inj hr
 exact FinQ.r1 [aU64 (wrapF .u64 ((wrapF .u64 (v1 * 1000000000)) + v3))]

theorem fiducialref01_Gcd_ok (n : Nat) (x' : api_Int) (y : api_Int) (r : api_Int) (hr : fiducialref01_Gcd n x' y = some r) : FnOk Tryz.prog 139 [.agg (api_Int.c x'), .agg (api_Int.c y)] (.agg (api_Int.c r)) := by
 unfold fiducialref01_Gcd at hr
 refine FnOk.bd fine Tryz.func139 [.cell 4 72] ?_
 unfold Tryz.f139
 simp only [Option.getD_some]
 refine .seq <| .r2 fine 61 [(2, .hp 0 0), (3, .hp 1 0), (4, .hp 2 0)] [.own (api_Int.c x'), .own (api_Int.c y), .own [aB false, nS]] <| .seq ?_
 obtain ⟨v1, hc2, v3, hc4, hr⟩ := bd2 hr
 refine .tn fine (ca1 (ok0 (fiducialref01_Value_ok n x' v1 hc2)) (ca3 (ok0 (fiducialref01_Value_ok n y v3 hc4)))) <| .mu 1 <| .ca cf0 <| .mu 2 <| .ca (cfA (fun h => by rw [sv hc4 hc2 (fiducialref01_Value_cg n h)]) cf0) <| .mu 3 ?_
 refine .done ⟨by kernel_rfl, ?_⟩
 refine .n2 61 [(4, .hp 2 0), (5, sU32 v1.Groups), (6, sU32 v3.Groups)] [.own (api_Int.c x'), .own (api_Int.c y), .own [aB false, nS]] <| .seq <| .block ?_
 replace hr := bd hr; obtain ⟨o24, hL25, hr⟩ := hr
 refine .loopO (σ := fun z0 => match z0 with | (a_5, b_6) => ⟨mkS 61 0 [(4, .hp 0 0), (5, sU32 a_5), (6, sU32 b_6)], [.own [aB false, nS]]⟩) (Q := fun x st' => match (generalizing := false) o24 with | (a_14, b_15) => x = .exit 0 ∧ Wk 0 st' ⟨mkS 61 0 [(4, .hp 0 0), (5, sU32 a_14), (6, sU32 b_15)], [.own [aB false, nS]]⟩) hL25 ((Wk.gc [4, 5, 6] [(2, true)] rfl trivial).to (by kernel_rfl)) ?_ ?_
 ·clear hr
  rintro m ⟨a_5, b_6⟩ hr
  show CQ _ _ _ _ _ ⟨_, _⟩
  refine .seq <| .seq ?_
  rcases Bool.eq_false_or_eq_true (decide ((b_6.length : Int) > 0)) with hb17 | hb17
  ·replace hr := cd_t hb17 hr
   rcases Bool.eq_false_or_eq_true (decide ((a_5.length : Int) > 2)) with hb18 | hb18
   ·replace hr := cd_t hb18 hr
    refine .r0 fine <| .mu 2 <| .p0 (v := aB true) (Eq.trans (b := some (.pure (aB (decide ((b_6.length : Int) > 0))))) (by kernel_rfl) (by rw [hb17])) <| .mu 3 <| .pure (v := aB true) (by kernel_rfl) (Eq.trans (b := some (.pure (aB (decide ((a_5.length : Int) > 2))))) (by kernel_rfl) (by rw [hb18])) <| .mu 6 <| .done <| .n2 61 [(4, .hp 0 0), (5, sU32 a_5), (6, sU32 b_6), (29, aB true)] [.own [aB false, nS]] <| .cT (by kernel_rfl) <| .skip <| .block <| .seq ?_
    obtain ⟨v19, hc20, hr⟩ := bd hr
    refine .g1 fine (ok0 (fiducialref01_parts_ok n a_5 b_6 v19 hc20)) <| .mu 2 <| .ca cf0 <| .mu 5 <| .done <| .n2 61 [(4, .hp 0 0), (6, sU32 b_6), (8, sU32 v19.2)] [.own [aB false, nS]] <| .ru fine <| .pop ?_
    exact loopF_back (b_6, v19.2) hr ((Wk.gc [4, 5, 6] [(0, true)] rfl trivial).to (by kernel_rfl))
   ·replace hr := cd_f hb18 hr
    refine .r0 fine <| .mu 2 <| .p0 (v := aB true) (Eq.trans (b := some (.pure (aB (decide ((b_6.length : Int) > 0))))) (by kernel_rfl) (by rw [hb17])) <| .mu 3 <| .pure (v := aB false) (by kernel_rfl) (Eq.trans (b := some (.pure (aB (decide ((a_5.length : Int) > 2))))) (by kernel_rfl) (by rw [hb18])) <| .mu 6 <| .done <| .n2 61 [(4, .hp 0 0), (5, sU32 a_5), (6, sU32 b_6), (29, aB (decide ((b_6.length : Int) > 2)))] [.own [aB false, nS]] ?_
    refine .cd hr (fun hb21 hr => ?_) (fun hb21 hr => ?_)
    ·refine .skip <| .block <| .seq ?_
     obtain ⟨v22, hc23, hr⟩ := bd hr
     refine .g1 fine (ok0 (fiducialref01_parts_ok n a_5 b_6 v22 hc23)) <| .mu 2 <| .ca cf0 <| .mu 5 <| .done <| .n2 61 [(4, .hp 0 0), (6, sU32 b_6), (8, sU32 v22.2)] [.own [aB false, nS]] <| .ru fine <| .pop ?_
     exact loopF_back (b_6, v22.2) hr ((Wk.gc [4, 5, 6] [(0, true)] rfl trivial).to (by kernel_rfl))
    ·refine .leave rfl ?_
     obtain rfl := Option.some.inj hr
     exact ⟨rfl, ((Wk.gc [4, 5, 6] [(0, true)] rfl trivial).to (by kernel_rfl))⟩
  ·replace hr := cd_f hb17 hr
   refine .r0 fine <| .mu 2 <| .p0 (v := aB false) (Eq.trans (b := some (.pure (aB (decide ((b_6.length : Int) > 0))))) (by kernel_rfl) (by rw [hb17])) <| .mu 10 <| .done <| .n2 61 [(4, .hp 0 0), (5, sU32 a_5), (6, sU32 b_6), (29, aB false)] [.own [aB false, nS]] <| .cF (by kernel_rfl) <| .leave rfl ?_
   obtain rfl := Option.some.inj hr
   exact ⟨rfl, ((Wk.gc [4, 5, 6] [(0, true)] rfl trivial).to (by kernel_rfl))⟩
 ·rcases o24 with ⟨a_14, b_15⟩
  rintro x st' hq26
  clear hL25
  obtain ⟨rfl, hq26⟩ := hq26
  refine CQ_exit _ rfl <| .wk hq26 <| .seq <| .seq <| .r3 fine 61 [(4, .hp 0 0), (5, sU32 a_14), (6, sU32 b_15), (40, aB (((b_15.length : Int) : Int) == 0))] ?_
  refine .cd hr (fun hb27 hr => ?_) (fun hb27 hr => ?_)
  ·refine .seq ?_
   obtain ⟨v28, hc29, hr⟩ := bd hr
   refine .g1 fine (ok0 (fiducialref01_made_ok n false a_14 v28 hc29)) <| .mu 1 <| .ca cf0 <| .mu 1 <| .done <| .n2 61 [(4, .hp 0 0)] [.own (api_Int.c v28)] <| .ret ?_
   obtain rfl := Option.some.inj hr
   exact FinQ.r1 [.agg (api_Int.c v28)]
  ·refine .skip <| .seq ?_
   obtain ⟨v30, hc31, v32, hc33, hr⟩ := bd2 hr
   refine .gn fine (ca1 (ok0 (fiducialref01_pair_ok n a_14 v30 hc31)) (ca3 (ok0 (fiducialref01_pair_ok n b_15 v32 hc33)))) <| .mu 1 <| .ca cf0 <| .mu 1 <| .ca (cfA (fun h => by rw [sv hc33 hc31 (fiducialref01_pair_cg n h)]) cf0) <| .mu 2 <| .done <| .n2 61 [(4, .hp 0 0), (9, aU64 v30), (10, aU64 v32)] [.own [aB false, nS]] <| .seq <| .block ?_
   replace hr := bd hr; obtain ⟨u_38, hL43, hr⟩ := hr
   refine .loopO (σ := fun z0 => match z0 with | (u_34, v_35) => ⟨mkS 61 0 [(4, .hp 0 0), (9, aU64 u_34), (10, aU64 v_35)], [.own [aB false, nS]]⟩) (Q := fun x st' => x = .exit 2 ∧ Wk 0 st' ⟨mkS 61 0 [(4, .hp 0 0), (9, aU64 u_38)], [.own [aB false, nS]]⟩) hL43 ((Wk.gc [4, 9, 10] [(0, true)] rfl trivial).to (by kernel_rfl)) ?_ ?_
   ·clear hr
    rintro m ⟨u_34, v_35⟩ hr
    show CQ _ _ _ _ _ ⟨_, _⟩
    refine .seq <| .seq <| .r3 fine 61 [(4, .hp 0 0), (9, aU64 u_34), (10, aU64 v_35), (48, aB (decide (v_35 > 0)))] ?_
    refine .cd hr (fun hb40 hr => ?_) (fun hb40 hr => ?_)
    ·refine .skip <| .block ?_
     obtain ⟨hg41, hr⟩ := gd hr
     refine .regionT fine callOf_nil <| .mu 3 <| .pure (v := aU64 (u_34.tmod v_35)) (by kernel_rfl) (op_rem (x := u_34) (y := v_35) (by kernel_rfl) (by kernel_rfl) hg41) (by kernel_rfl) <| .mu 2 ?_
     refine .done ⟨by kernel_rfl, ?_⟩
     refine .pop ?_
     exact loopF_back (v_35, u_34.tmod v_35) hr ((Wk.gc [4, 9, 10] [(0, true)] rfl trivial).to (by kernel_rfl))
    ·refine .leave rfl ?_
     obtain rfl := Option.some.inj hr
     exact ⟨rfl, ((Wk.gc [4, 9] [(0, true)] rfl trivial).to (by kernel_rfl))⟩
   ·rintro x st' hq44
    clear hL43
    obtain ⟨rfl, hq44⟩ := hq44
    refine CQ_exit _ rfl <| .wk hq44 <| .seq ?_
    obtain ⟨v45, hc46, hr⟩ := bd hr
    refine .gn fine (ca4 [.own [aB false, nS], .own [aU32 (wrapF .u32 (u_38.tmod 1000000000)), aU32 (wrapF .u32 (wrapF .u64 (u_38.tdiv 1000000000)))]] (callOk_ref (args := [aB false, .hs 1 0 2 1]) (l := [1]) (SnL.cons (Sn.pure rfl) (SnL.cons (Sn.hs rfl (.inl rfl) (SnC.cons (Sn.pure rfl) (SnC.cons (Sn.pure rfl) SnC.nil)) (fun h => nomatch h)) SnL.nil)) (fiducialref01_made_ok n false [(wrapF .u32 (u_38.tmod 1000000000)), (wrapF .u32 (wrapF .u64 (u_38.tdiv 1000000000)))] v45 hc46))) <| .mu 7 <| .ca cf0 <| .mu 1 <| .done <| .n2 61 [(4, .hp 0 0)] [.own (api_Int.c v45), .fix [aU32 (wrapF .u32 (u_38.tmod 1000000000)), aU32 (wrapF .u32 (wrapF .u64 (u_38.tdiv 1000000000)))]] <| .ret ?_
    obtain rfl := Option.some.inj hr
    exact FinQ.r1 [.agg (api_Int.c v45)]

theorem fiducialref01_Neg_ok (n : Nat) (x' : api_Int) (r : api_Int) (hr : fiducialref01_Neg n x' = some r) : FnOk Tryz.prog 215 [.agg (api_Int.c x')] (.agg (api_Int.c r)) := by
 unfold fiducialref01_Neg at hr
 refine FnOk.bd fine Tryz.func215 [.cell 2 72] ?_
 unfold Tryz.f215
 simp only [Option.getD_some]
 refine .seq <| .r2 fine 11 [(1, .hp 0 0), (2, .hp 1 0)] [.own (api_Int.c x'), .own [aB false, nS]] <| .seq ?_
 obtain ⟨v1, hc2, hr⟩ := bd hr
 refine .g1 fine (ok0 (fiducialref01_Value_ok n x' v1 hc2)) <| .mu 1 <| .ca cf0 <| .mu 1 <| .done <| .n2 11 [(1, .hp 0 0), (2, .hp 1 0)] [.own (api_Int.c v1), .own [aB false, nS]] <| .seq ?_
 obtain ⟨v3, hc4, hr⟩ := bd hr
 refine .g1 fine (ok0 (fiducialref01_made_ok n (!v1.Negative) v1.Groups v3 hc4)) <| .mu 5 <| .ca cf0 <| .mu 1 <| .done <| .n2 11 [(2, .hp 1 0)] [.own (api_Int.c v1), .own (api_Int.c v3)] <| .ret ?_
 obtain rfl := Option.some.inj hr
 exact FinQ.r1 [.agg (api_Int.c v3)]

theorem fiducialref01_plus_ok (n : Nat) (a : List Int) (b : List Int) (r : List Int) (hr : fiducialref01_plus n a b = some r) : FnOk Tryz.prog 228 [sU32 a, sU32 b] (sU32 r) := by
 unfold fiducialref01_plus at hr
 refine FnOk.bd fine Tryz.func228 [.tmp 4] ?_
 unfold Tryz.f228
 simp only [Option.getD_some]
 refine .seq <| .r3 fine 46 [(0, sU32 a), (1, sU32 b)] <| .seq <| .r2 fine 46 [(0, sU32 a), (1, sU32 b), (5, .hs 0 0 0 1)] [.own []] <| .seq <| .r3 fine 46 [(0, sU32 a), (1, sU32 b), (5, .hs 0 0 0 1), (6, aU64 0)] <| .seq <| .seq <| .r3 fine 46 [(0, sU32 a), (1, sU32 b), (5, .hs 0 0 0 1), (6, aU64 0), (7, aI64 0)] <| .block ?_
 replace hr := bd hr; obtain ⟨o35, hL36, hr⟩ := hr
 refine .loopO (σ := fun z0 => match z0 with | (out_1, carry_2, i_3) => ⟨mkS 46 0 [(0, sU32 a), (1, sU32 b), (5, .hs 0 0 out_1.length 1), (6, aU64 carry_2), (7, aI64 i_3)], [.own (out_1.flatMap (iC .u32))]⟩) (Q := fun x st' => match (generalizing := false) o35 with | (out_18, carry_19) => x = .exit 0 ∧ Wk 0 st' ⟨mkS 46 0 [(5, .hs 0 0 out_18.length 1), (6, aU64 carry_19)], [.own (out_18.flatMap (iC .u32))]⟩) hL36 ((Wk.gc [0, 1, 5, 6, 7] [(0, false)] rfl (pKc trivial)).to (by kernel_rfl)) ?_ ?_
 ·clear hr
  rintro m ⟨out_1, carry_2, i_3⟩ hr
  show CQ _ _ _ _ _ ⟨_, _⟩
  refine .seq <| .seq ?_
  rcases Bool.eq_false_or_eq_true (decide (i_3 < (a.length : Int))) with hb21 | hb21
  ·replace hr := cd_t hb21 hr
   refine .r0 fine <| .mu 3 <| .p0 (v := aB true) (Eq.trans (b := some (.pure (aB (decide (i_3 < (a.length : Int)))))) (by kernel_rfl) (by rw [hb21])) <| .mu 6 <| .done <| .n2 46 [(0, sU32 a), (1, sU32 b), (5, .hs 0 0 out_1.length 1), (6, aU64 carry_2), (7, aI64 i_3), (19, aB true)] [.own (out_1.flatMap (iC .u32))] <| .cT (by kernel_rfl) <| .skip <| .seq <| .block <| .seq ?_
   obtain ⟨v22, hc23, v24, hc25, hr⟩ := bd2 hr
   refine .gn fine (ca1 (ok0 (fiducialref01_group_ok n a i_3 v22 hc23)) (ca3 (ok0 (fiducialref01_group_ok n b i_3 v24 hc25)))) <| .mu 2 <| .ca cf0 <| .mu 2 <| .ca (cfA (fun h => by rw [sv hc25 hc23 (fiducialref01_group_cg n h)]) cf0) <| .mu 4 <| .done <| .n2 46 [(0, sU32 a), (1, sU32 b), (5, .hs 0 0 out_1.length 1), (7, aI64 i_3), (8, aU64 (wrapF .u64 ((wrapF .u64 (v22 + v24)) + carry_2)))] [.own (out_1.flatMap (iC .u32))] <| .seq ?_
   obtain ⟨hg26, hg27, hr⟩ := gd2 hr
   refine .r0 fine <| .mu 5 <| .e0 (v := .hs 2 0 (out_1 ++ [wrapF .u32 ((wrapF .u64 ((wrapF .u64 (v22 + v24)) + carry_2)).tmod 1000000000)]).length 1) (ws := [(0, .dead), (2, .own ((out_1 ++ [wrapF .u32 ((wrapF .u64 ((wrapF .u64 (v22 + v24)) + carry_2)).tmod 1000000000)]).flatMap (iC .u32)))]) (Eq.trans (b := guardO (decide (0 + out_1.length * 1 ≤ (out_1.flatMap (iC .u32)).length) && decide ((out_1.length + 1) * 4 ≤ 140737488355328) && decide (out_1.length + 1 ≤ 4611686018427387904)) (some (.eff (.hs 2 0 (out_1.length + 1) 1) [(0, .dead), (2, .own (((out_1.flatMap (iC .u32)).drop 0).take (out_1.length * 1) ++ [aU32 (wrapF .u32 ((wrapF .u64 ((wrapF .u64 (v22 + v24)) + carry_2)).tmod 1000000000))]))]))) (by kernel_rfl) (app_own (l := out_1) (xs := [wrapF .u32 ((wrapF .u64 ((wrapF .u64 (v22 + v24)) + carry_2)).tmod 1000000000)]) (iC_len _) rfl rfl (by kernel_rfl) hg26 hg27)) <| .mu 1 <| .done <| .n2 46 [(0, sU32 a), (1, sU32 b), (5, .hs 2 0 (out_1 ++ [wrapF .u32 ((wrapF .u64 ((wrapF .u64 (v22 + v24)) + carry_2)).tmod 1000000000)]).length 1), (7, aI64 i_3), (8, aU64 (wrapF .u64 ((wrapF .u64 (v22 + v24)) + carry_2)))] [.dead, .own [aU32 (wrapF .u32 ((wrapF .u64 ((wrapF .u64 (v22 + v24)) + carry_2)).tmod 1000000000))], .own ((out_1 ++ [wrapF .u32 ((wrapF .u64 ((wrapF .u64 (v22 + v24)) + carry_2)).tmod 1000000000)]).flatMap (iC .u32))] <| .ru fine <| .pop <| .ru fine ?_
   exact loopF_back (out_1 ++ [wrapF .u32 ((wrapF .u64 ((wrapF .u64 (v22 + v24)) + carry_2)).tmod 1000000000)], wrapF .u64 ((wrapF .u64 ((wrapF .u64 (v22 + v24)) + carry_2)).tdiv 1000000000), wrapF .i64 (i_3 + 1)) hr ((Wk.gc [0, 1, 5, 6, 7] [(2, false)] rfl (pKo (iC .u32) (iC_pure _) (out_1 ++ [wrapF .u32 ((wrapF .u64 ((wrapF .u64 (v22 + v24)) + carry_2)).tmod 1000000000)]) trivial)).to (by kernel_rfl))
  ·replace hr := cd_f hb21 hr
   refine .r0 fine <| .mu 3 <| .p0 (v := aB false) (Eq.trans (b := some (.pure (aB (decide (i_3 < (a.length : Int)))))) (by kernel_rfl) (by rw [hb21])) <| .mu 6 <| .done <| .n2 46 [(0, sU32 a), (1, sU32 b), (5, .hs 0 0 out_1.length 1), (6, aU64 carry_2), (7, aI64 i_3), (19, aB (decide (i_3 < (b.length : Int))))] [.own (out_1.flatMap (iC .u32))] ?_
   refine .cd hr (fun hb28 hr => ?_) (fun hb28 hr => ?_)
   ·refine .skip <| .seq <| .block <| .seq ?_
    obtain ⟨v29, hc30, v31, hc32, hr⟩ := bd2 hr
    refine .gn fine (ca1 (ok0 (fiducialref01_group_ok n a i_3 v29 hc30)) (ca3 (ok0 (fiducialref01_group_ok n b i_3 v31 hc32)))) <| .mu 2 <| .ca cf0 <| .mu 2 <| .ca (cfA (fun h => by rw [sv hc32 hc30 (fiducialref01_group_cg n h)]) cf0) <| .mu 4 <| .done <| .n2 46 [(0, sU32 a), (1, sU32 b), (5, .hs 0 0 out_1.length 1), (7, aI64 i_3), (8, aU64 (wrapF .u64 ((wrapF .u64 (v29 + v31)) + carry_2)))] [.own (out_1.flatMap (iC .u32))] <| .seq ?_
    obtain ⟨hg33, hg34, hr⟩ := gd2 hr
    refine .r0 fine <| .mu 5 <| .e0 (v := .hs 2 0 (out_1 ++ [wrapF .u32 ((wrapF .u64 ((wrapF .u64 (v29 + v31)) + carry_2)).tmod 1000000000)]).length 1) (ws := [(0, .dead), (2, .own ((out_1 ++ [wrapF .u32 ((wrapF .u64 ((wrapF .u64 (v29 + v31)) + carry_2)).tmod 1000000000)]).flatMap (iC .u32)))]) (Eq.trans (b := guardO (decide (0 + out_1.length * 1 ≤ (out_1.flatMap (iC .u32)).length) && decide ((out_1.length + 1) * 4 ≤ 140737488355328) && decide (out_1.length + 1 ≤ 4611686018427387904)) (some (.eff (.hs 2 0 (out_1.length + 1) 1) [(0, .dead), (2, .own (((out_1.flatMap (iC .u32)).drop 0).take (out_1.length * 1) ++ [aU32 (wrapF .u32 ((wrapF .u64 ((wrapF .u64 (v29 + v31)) + carry_2)).tmod 1000000000))]))]))) (by kernel_rfl) (app_own (l := out_1) (xs := [wrapF .u32 ((wrapF .u64 ((wrapF .u64 (v29 + v31)) + carry_2)).tmod 1000000000)]) (iC_len _) rfl rfl (by kernel_rfl) hg33 hg34)) <| .mu 1 <| .done <| .n2 46 [(0, sU32 a), (1, sU32 b), (5, .hs 2 0 (out_1 ++ [wrapF .u32 ((wrapF .u64 ((wrapF .u64 (v29 + v31)) + carry_2)).tmod 1000000000)]).length 1), (7, aI64 i_3), (8, aU64 (wrapF .u64 ((wrapF .u64 (v29 + v31)) + carry_2)))] [.dead, .own [aU32 (wrapF .u32 ((wrapF .u64 ((wrapF .u64 (v29 + v31)) + carry_2)).tmod 1000000000))], .own ((out_1 ++ [wrapF .u32 ((wrapF .u64 ((wrapF .u64 (v29 + v31)) + carry_2)).tmod 1000000000)]).flatMap (iC .u32))] <| .ru fine <| .pop <| .ru fine ?_
    exact loopF_back (out_1 ++ [wrapF .u32 ((wrapF .u64 ((wrapF .u64 (v29 + v31)) + carry_2)).tmod 1000000000)], wrapF .u64 ((wrapF .u64 ((wrapF .u64 (v29 + v31)) + carry_2)).tdiv 1000000000), wrapF .i64 (i_3 + 1)) hr ((Wk.gc [0, 1, 5, 6, 7] [(2, false)] rfl (pKo (iC .u32) (iC_pure _) (out_1 ++ [wrapF .u32 ((wrapF .u64 ((wrapF .u64 (v29 + v31)) + carry_2)).tmod 1000000000)]) trivial)).to (by kernel_rfl))
   ·refine .leave rfl ?_
    obtain rfl := Option.some.inj hr
    exact ⟨rfl, ((Wk.gc [5, 6] [(0, false)] rfl (pKo (iC .u32) (iC_pure _) out_1 trivial)).to (by kernel_rfl))⟩
 ·rcases o35 with ⟨out_18, carry_19⟩
  rintro x st' hq37
  clear hL36
  obtain ⟨rfl, hq37⟩ := hq37
  refine CQ_exit _ rfl <| .wk hq37 <| .seq ?_
  obtain ⟨hg38, hg39, hr⟩ := gd2 hr
  obtain ⟨v40, hc41, hr⟩ := bd hr
  refine .gn fine (ca4 [.dead, .own [aU32 (wrapF .u32 carry_19)], .own ((out_18 ++ [wrapF .u32 carry_19]).flatMap (iC .u32))] (callOk_ref (args := [aB false, .hs 2 0 (out_18 ++ [wrapF .u32 carry_19]).length 1]) (l := [2]) (SnL.cons (Sn.pure rfl) (SnL.cons (Sn.hs rfl (.inl rfl) (SnC.pure (ids_flat (iC_pure _) _)) (fun h => flat_nil0 h)) SnL.nil)) (fiducialref01_made_ok n false (out_18 ++ [wrapF .u32 carry_19]) v40 hc41))) <| .mu 4 <| .e0 (v := .hs 2 0 (out_18 ++ [wrapF .u32 carry_19]).length 1) (ws := [(0, .dead), (2, .own ((out_18 ++ [wrapF .u32 carry_19]).flatMap (iC .u32)))]) (Eq.trans (b := guardO (decide (0 + out_18.length * 1 ≤ (out_18.flatMap (iC .u32)).length) && decide ((out_18.length + 1) * 4 ≤ 140737488355328) && decide (out_18.length + 1 ≤ 4611686018427387904)) (some (.eff (.hs 2 0 (out_18.length + 1) 1) [(0, .dead), (2, .own (((out_18.flatMap (iC .u32)).drop 0).take (out_18.length * 1) ++ [aU32 (wrapF .u32 carry_19)]))]))) (by kernel_rfl) (app_own (l := out_18) (xs := [wrapF .u32 carry_19]) (iC_len _) rfl rfl (by kernel_rfl) hg38 hg39)) <| .ca cf0 <| .mu 2 <| .done <| .ret ?_
  obtain rfl := Option.some.inj hr
  exact FinQ.r1 [sU32 v40.Groups]

theorem fiducialref01_Add_ok (n : Nat) (x' : api_Int) (y : api_Int) (r : api_Int) (hr : fiducialref01_Add n x' y = some r) : FnOk Tryz.prog 214 [.agg (api_Int.c x'), .agg (api_Int.c y)] (.agg (api_Int.c r)) := by
 unfold fiducialref01_Add at hr
 refine FnOk.bd fine Tryz.func214 [.cell 4 72] ?_
 unfold Tryz.f214
 simp only [Option.getD_some]
 refine .seq <| .r2 fine 44 [(2, .hp 0 0), (3, .hp 1 0), (4, .hp 2 0)] [.own (api_Int.c x'), .own (api_Int.c y), .own [aB false, nS]] <| .seq ?_
 obtain ⟨v1, hc2, v3, hc4, hr⟩ := bd2 hr
 refine .tn fine (ca1 (ok0 (fiducialref01_Value_ok n x' v1 hc2)) (ca3 (ok0 (fiducialref01_Value_ok n y v3 hc4)))) <| .mu 1 <| .ca cf0 <| .mu 1 <| .ca (cfA (fun h => by rw [sv hc4 hc2 (fiducialref01_Value_cg n h)]) cf0) <| .mu 2 ?_
 refine .done ⟨by kernel_rfl, ?_⟩
 refine .n2 44 [(2, .hp 0 0), (3, .hp 1 0), (4, .hp 2 0)] [.own (api_Int.c v1), .own (api_Int.c v3), .own [aB false, nS]] <| .seq <| .seq <| .r3 fine 44 [(2, .hp 0 0), (3, .hp 1 0), (4, .hp 2 0), (13, aB (v1.Negative == v3.Negative))] ?_
 refine .cd hr (fun hb5 hr => ?_) (fun hb5 hr => ?_)
 ·refine .seq ?_
  obtain ⟨v6, hc7, v8, hc9, hr⟩ := bd2 hr
  refine .tn fine (ca1 (ok0 (fiducialref01_plus_ok n v1.Groups v3.Groups v6 hc7)) (ca3 (ok0 (fiducialref01_made_ok n v1.Negative v6 v8 hc9)))) <| .mu 6 <| .ca cf0 <| .ca (cfF cf0) <| .mu 1 ?_
  refine .done ⟨by kernel_rfl, ?_⟩
  refine .n2 44 [(4, .hp 2 0)] [.own (api_Int.c v1), .own (api_Int.c v3), .own (api_Int.c v8)] <| .ret ?_
  obtain rfl := Option.some.inj hr
  exact FinQ.r1 [.agg (api_Int.c v8)]
 ·refine .skip <| .seq <| .seq ?_
  obtain ⟨v10, hc11, hr⟩ := bd hr
  refine .g1 fine (ok0 (fiducialref01_size_ok n v1.Groups v3.Groups v10 hc11)) <| .mu 4 <| .ca cf0 <| .mu 1 <| .done <| .n2 44 [(2, .hp 0 0), (3, .hp 1 0), (4, .hp 2 0), (27, aB (decide (v10 ≥ 0)))] [.own (api_Int.c v1), .own (api_Int.c v3), .own [aB false, nS]] ?_
  refine .cd hr (fun hb12 hr => ?_) (fun hb12 hr => ?_)
  ·refine .seq ?_
   obtain ⟨v13, hc14, v15, hc16, hr⟩ := bd2 hr
   refine .tn fine (ca1 (ok0 (fiducialref01_minus_ok n v1.Groups v3.Groups v13 hc14)) (ca3 (ok0 (fiducialref01_made_ok n v1.Negative v13 v15 hc16)))) <| .mu 6 <| .ca cf0 <| .ca (cfF cf0) <| .mu 1 ?_
   refine .done ⟨by kernel_rfl, ?_⟩
   refine .n2 44 [(4, .hp 2 0)] [.own (api_Int.c v1), .own (api_Int.c v3), .own (api_Int.c v15)] <| .ret ?_
   obtain rfl := Option.some.inj hr
   exact FinQ.r1 [.agg (api_Int.c v15)]
  ·refine .skip <| .seq ?_
   obtain ⟨v17, hc18, v19, hc20, hr⟩ := bd2 hr
   refine .tn fine (ca1 (ok0 (fiducialref01_minus_ok n v3.Groups v1.Groups v17 hc18)) (ca3 (ok0 (fiducialref01_made_ok n v3.Negative v17 v19 hc20)))) <| .mu 6 <| .ca cf0 <| .ca (cfF cf0) <| .mu 1 ?_
   refine .done ⟨by kernel_rfl, ?_⟩
   refine .n2 44 [(4, .hp 2 0)] [.own (api_Int.c v1), .own (api_Int.c v3), .own (api_Int.c v19)] <| .ret ?_
   obtain rfl := Option.some.inj hr
   exact FinQ.r1 [.agg (api_Int.c v19)]

theorem fiducialref01_Sub_ok (n : Nat) (x' : api_Int) (y : api_Int) (r : api_Int) (hr : fiducialref01_Sub n x' y = some r) : FnOk Tryz.prog 188 [.agg (api_Int.c x'), .agg (api_Int.c y)] (.agg (api_Int.c r)) := by
 unfold fiducialref01_Sub at hr
 refine FnOk.bd fine Tryz.func188 [.cell 4 72] ?_
 unfold Tryz.f188
 simp only [Option.getD_some]
 refine .seq <| .r2 fine 9 [(2, .hp 0 0), (3, .hp 1 0), (4, .hp 2 0)] [.own (api_Int.c x'), .own (api_Int.c y), .own [aB false, nS]] <| .seq ?_
 obtain ⟨v1, hc2, v3, hc4, hr⟩ := bd2 hr
 refine .tn fine (ca1 (ok0 (fiducialref01_Neg_ok n y v1 hc2)) (ca3 (ok0 (fiducialref01_Add_ok n x' v1 v3 hc4)))) <| .mu 2 <| .ca cf0 <| .ca (cfF cf0) <| .mu 1 ?_
 refine .done ⟨by kernel_rfl, ?_⟩
 refine .n2 9 [(4, .hp 2 0)] [.own (api_Int.c x'), .own (api_Int.c y), .own (api_Int.c v3)] <| .ret ?_
 obtain rfl := Option.some.inj hr
 exact FinQ.r1 [.agg (api_Int.c v3)]

theorem fiducialref01_Compare_ok (n : Nat) (x' : api_Int) (y : api_Int) (r : Int) (hr : fiducialref01_Compare n x' y = some r) : FnOk Tryz.prog 138 [.agg (api_Int.c x'), .agg (api_Int.c y)] (aI64 r) := by
 unfold fiducialref01_Compare at hr
 refine FnOk.bd fine Tryz.func138 [.tmp 4] ?_
 unfold Tryz.f138
 simp only [Option.getD_some]
 refine .seq <| .r2 fine 9 [(2, .hp 0 0), (3, .hp 1 0)] [.own (api_Int.c x'), .own (api_Int.c y)] <| .seq ?_
 obtain ⟨v1, hc2, v3, hc4, hr⟩ := bd2 hr
 refine .gn fine (ca1 (ok0 (fiducialref01_Sub_ok n x' y v1 hc2)) (ca3 (ok0 (fiducialref01_Sign_ok n v1 v3 hc4)))) <| .mu 2 <| .ca cf0 <| .ca (cfF cf0) <| .mu 1 <| .done <| .ret ?_
 obtain rfl := Option.some.inj hr
 exact FinQ.r1 [aI64 v3]

theorem fiducialref02_Valid_inj {x' : api_Rat} {x'_ : api_Rat} (h : ([.agg [.at (.bool x'.Num.Negative), slT (iC .u32) x'.Num.Groups, .at (.bool x'.Den.Negative), slT (iC .u32) x'.Den.Groups]] : List AV) = [.agg [.at (.bool x'_.Num.Negative), slT (iC .u32) x'_.Num.Groups, .at (.bool x'_.Den.Negative), slT (iC .u32) x'_.Den.Groups]]) : x' = x'_ := by
 obtain ⟨⟨_, _⟩, ⟨_, _⟩⟩ := x'
 obtain ⟨⟨_, _⟩, ⟨_, _⟩⟩ := x'_
 simp only [List.cons.injEq, AV.agg.injEq, AV.at.injEq, Value.int.injEq, Value.bool.injEq, AV.fn.injEq, AV.pp.injEq, true_and, and_true, slT_inj_int] at h
 simp_all
theorem fiducialref02_Valid_cg (n : Nat) {x' : api_Rat} {x'_ : api_Rat} (h : ([.agg [.at (.bool x'.Num.Negative), slT (iC .u32) x'.Num.Groups, .at (.bool x'.Den.Negative), slT (iC .u32) x'.Den.Groups]] : List AV) = [.agg [.at (.bool x'_.Num.Negative), slT (iC .u32) x'_.Num.Groups, .at (.bool x'_.Den.Negative), slT (iC .u32) x'_.Den.Groups]]) : fiducialref02_Valid n x' = fiducialref02_Valid n x'_ := by
 obtain rfl := fiducialref02_Valid_inj h
 rfl
theorem fiducialref02_Valid_ok (n : Nat) (x' : api_Rat) (r : Bool) (hr : fiducialref02_Valid n x' = some r) : FnOk Tryz.prog 98 [.agg (api_Rat.c x')] (aB r) := by
 unfold fiducialref02_Valid at hr
 refine FnOk.bd fine Tryz.func98 [.tmp 2] ?_
 unfold Tryz.f98
 simp only [Option.getD_some]
 refine .seq <| .r2 fine 27 [(1, .hp 0 0)] [.own (api_Rat.c x')] <| .seq <| .seq ?_
 obtain ⟨v1, hc2, hr⟩ := bd hr
 rcases Bool.eq_false_or_eq_true (!v1) with hb3 | hb3
 ·replace hr := cd_t hb3 hr
  refine .g1 fine (ok0 (fiducialref01_Valid_ok n x'.Num v1 hc2)) <| .mu 2 <| .ca cf0 <| .p0 (v := aB true) (Eq.trans (b := some (.pure (aB (!v1)))) (by kernel_rfl) (by rw [hb3])) <| .mu 12 <| .done <| .n2 27 [(1, .hp 0 0), (18, aB true)] [.own (api_Rat.c x')] <| .cT (by kernel_rfl) <| .seq <| .ru fine <| .ret ?_
  obtain rfl := Option.some.inj hr
  exact FinQ.r1 [aB false]
 ·replace hr := cd_f hb3 hr
  obtain ⟨v4, hc5, hr⟩ := bd hr
  rcases Bool.eq_false_or_eq_true (!v4) with hb6 | hb6
  ·replace hr := cd_t hb6 hr
   refine .gn fine (ca1 (ok0 (fiducialref01_Valid_ok n x'.Num v1 hc2)) (ca3 (ok0 (fiducialref01_Valid_ok n x'.Den v4 hc5)))) <| .mu 2 <| .ca cf0 <| .p0 (v := aB false) (Eq.trans (b := some (.pure (aB (!v1)))) (by kernel_rfl) (by rw [hb3])) <| .mu 3 <| .ca (cfA (fun h => by rw [sv hc5 hc2 (fiducialref01_Valid_cg n h)]) cf0) <| .pure (v := aB true) (by kernel_rfl) (Eq.trans (b := some (.pure (aB (!v4)))) (by kernel_rfl) (by rw [hb6])) <| .mu 7 <| .done <| .n2 27 [(1, .hp 0 0), (18, aB true)] [.own (api_Rat.c x')] <| .cT (by kernel_rfl) <| .seq <| .ru fine <| .ret ?_
   obtain rfl := Option.some.inj hr
   exact FinQ.r1 [aB false]
  ·replace hr := cd_f hb6 hr
   obtain ⟨v7, hc8, hr⟩ := bd hr
   refine .gn fine (ca1 (ok0 (fiducialref01_Valid_ok n x'.Num v1 hc2)) (ca1 (ok0 (fiducialref01_Valid_ok n x'.Den v4 hc5)) (ca3 (ok0 (fiducialref01_Sign_ok n x'.Den v7 hc8))))) <| .mu 2 <| .ca cf0 <| .p0 (v := aB false) (Eq.trans (b := some (.pure (aB (!v1)))) (by kernel_rfl) (by rw [hb3])) <| .mu 3 <| .ca (cfA (fun h => by rw [sv hc5 hc2 (fiducialref01_Valid_cg n h)]) cf0) <| .pure (v := aB false) (by kernel_rfl) (Eq.trans (b := some (.pure (aB (!v4)))) (by kernel_rfl) (by rw [hb6])) <| .mu 4 <| .ca (cfF (cfF cf0)) <| .mu 2 <| .done <| .n2 27 [(1, .hp 0 0), (18, aB (decide (v7 ≤ 0)))] [.own (api_Rat.c x')] ?_
   refine .cd hr (fun hb9 hr => ?_) (fun hb9 hr => ?_)
   ·refine .seq <| .ru fine <| .ret ?_
    obtain rfl := Option.some.inj hr
    exact FinQ.r1 [aB false]
   ·refine .skip <| .seq ?_
    obtain ⟨v10, hc11, v12, hc13, v14, hc15, hr⟩ := bd3 hr
    refine .gn fine (ca1 (ok0 (fiducialref01_Gcd_ok n x'.Num x'.Den v10 hc11)) (ca1 (ok0 (fiducialref02_whole_ok n 1 v12 hc13)) (ca3 (ok0 (fiducialref01_Compare_ok n v10 v12 v14 hc15))))) <| .mu 4 <| .ca cf0 <| .ca (cfF cf0) <| .ca (cfF (cfF cf0)) <| .mu 2 <| .done <| .ret ?_
    obtain rfl := Option.some.inj hr
    exact FinQ.r1 [aB ((v14 : Int) == 0)]

theorem fiducialref02_Value_ok (n : Nat) (x' : api_Rat) (r : api_Rat) (hr : fiducialref02_Value n x' = some r) : FnOk Tryz.prog 192 [.agg (api_Rat.c x')] (.agg (api_Rat.c r)) := by
 unfold fiducialref02_Value at hr
 refine FnOk.bd fine Tryz.func192 [.cell 2 74] ?_
 unfold Tryz.f192
 simp only [Option.getD_some]
 refine .seq <| .r2 fine 7 [(1, .hp 0 0), (2, .hp 1 0)] [.own (api_Rat.c x'), .own [aB false, nS, aB false, nS]] <| .seq <| .seq ?_
 obtain ⟨v1, hc2, hr⟩ := bd hr
 refine .g1 fine (ok0 (fiducialref02_Valid_ok n x' v1 hc2)) <| .mu 1 <| .ca cf0 <| .done <| .n2 7 [(1, .hp 0 0), (2, .hp 1 0), (4, aB v1)] [.own (api_Rat.c x'), .own [aB false, nS, aB false, nS]] ?_
 refine .cd hr (fun hb3 hr => ?_) (fun hb3 hr => ?_)
 ·refine .seq <| .r2 fine 7 [(2, .hp 1 0)] [.own (api_Rat.c x'), .own (api_Rat.c x')] <| .ret ?_
  obtain rfl := Option.some.inj hr
  exact FinQ.r1 [.agg (api_Rat.c x')]
 ·refine .skip <| .seq ?_
  obtain ⟨v4, hc5, hr⟩ := bd hr
  refine .g1 fine (ok0 (fiducialref02_Whole_ok n 0 v4 hc5)) <| .ca cf0 <| .mu 1 <| .done <| .n2 7 [(2, .hp 1 0)] [.own (api_Rat.c x'), .own (api_Rat.c v4)] <| .ret ?_
  obtain rfl := Option.some.inj hr
  exact FinQ.r1 [.agg (api_Rat.c v4)]

theorem fiducialref02_Neg_ok (n : Nat) (x' : api_Rat) (r : api_Rat) (hr : fiducialref02_Neg n x' = some r) : FnOk Tryz.prog 194 [.agg (api_Rat.c x')] (.agg (api_Rat.c r)) := by
 unfold fiducialref02_Neg at hr
 refine FnOk.bd fine Tryz.func194 [.cell 2 74] ?_
 unfold Tryz.f194
 simp only [Option.getD_some]
 refine .seq <| .r2 fine 12 [(1, .hp 0 0), (2, .hp 1 0)] [.own (api_Rat.c x'), .own [aB false, nS, aB false, nS]] <| .seq ?_
 obtain ⟨v1, hc2, hr⟩ := bd hr
 refine .g1 fine (ok0 (fiducialref02_Value_ok n x' v1 hc2)) <| .mu 1 <| .ca cf0 <| .mu 2 <| .done <| .n2 12 [(2, .hp 1 0), (3, .hp 2 0)] [.own (api_Rat.c x'), .own [aB false, nS, aB false, nS], .own (api_Rat.c v1)] <| .seq ?_
 obtain ⟨v3, hc4, hr⟩ := bd hr
 refine .t1 fine (ok0 (fiducialref01_Neg_ok n v1.Num v3 hc4)) <| .mu 2 <| .ca cf0 <| .mu 4 ?_
 refine .done ⟨by kernel_rfl, ?_⟩
 refine .n2 12 [(2, .hp 1 0)] [.own (api_Rat.c x'), .own [aB v3.Negative, sU32 v3.Groups, aB v1.Den.Negative, sU32 v1.Den.Groups], .own (api_Rat.c v1)] <| .ret ?_
 obtain rfl := Option.some.inj hr
 exact FinQ.r1 [.agg [aB v3.Negative, sU32 v3.Groups, aB v1.Den.Negative, sU32 v1.Den.Groups]]

theorem fiducialref01_Mul_inj {x' : api_Int} {y : api_Int} {x'_ : api_Int} {y_ : api_Int} (h : ([.agg [.at (.bool x'.Negative), slT (iC .u32) x'.Groups], .agg [.at (.bool y.Negative), slT (iC .u32) y.Groups]] : List AV) = [.agg [.at (.bool x'_.Negative), slT (iC .u32) x'_.Groups], .agg [.at (.bool y_.Negative), slT (iC .u32) y_.Groups]]) : x' = x'_ ∧ y = y_ := by
 obtain ⟨_, _⟩ := x'
 obtain ⟨_, _⟩ := x'_
 obtain ⟨_, _⟩ := y
 obtain ⟨_, _⟩ := y_
 simp only [List.cons.injEq, AV.agg.injEq, AV.at.injEq, Value.int.injEq, Value.bool.injEq, AV.fn.injEq, AV.pp.injEq, true_and, and_true, slT_inj_int] at h
 simp_all
theorem fiducialref01_Mul_cg (n : Nat) {x' : api_Int} {y : api_Int} {x'_ : api_Int} {y_ : api_Int} (h : ([.agg [.at (.bool x'.Negative), slT (iC .u32) x'.Groups], .agg [.at (.bool y.Negative), slT (iC .u32) y.Groups]] : List AV) = [.agg [.at (.bool x'_.Negative), slT (iC .u32) x'_.Groups], .agg [.at (.bool y_.Negative), slT (iC .u32) y_.Groups]]) : fiducialref01_Mul n x' y = fiducialref01_Mul n x'_ y_ := by
 obtain ⟨rfl, rfl⟩ := fiducialref01_Mul_inj h
 rfl
theorem fiducialref01_Mul_ok (n : Nat) (x' : api_Int) (y : api_Int) (r : api_Int) (hr : fiducialref01_Mul n x' y = some r) : FnOk Tryz.prog 223 [.agg (api_Int.c x'), .agg (api_Int.c y)] (.agg (api_Int.c r)) := by
 unfold fiducialref01_Mul at hr
 refine FnOk.bd fine Tryz.func223 [.cell 4 72] ?_
 unfold Tryz.f223
 simp only [Option.getD_some]
 refine .seq <| .r2 fine 85 [(2, .hp 0 0), (3, .hp 1 0), (4, .hp 2 0)] [.own (api_Int.c x'), .own (api_Int.c y), .own [aB false, nS]] <| .seq ?_
 obtain ⟨v1, hc2, v3, hc4, hr⟩ := bd2 hr
 refine .tn fine (ca1 (ok0 (fiducialref01_Value_ok n x' v1 hc2)) (ca3 (ok0 (fiducialref01_Value_ok n y v3 hc4)))) <| .mu 1 <| .ca cf0 <| .mu 1 <| .ca (cfA (fun h => by rw [sv hc4 hc2 (fiducialref01_Value_cg n h)]) cf0) <| .mu 2 ?_
 refine .done ⟨by kernel_rfl, ?_⟩
 refine .n2 85 [(2, .hp 0 0), (3, .hp 1 0), (4, .hp 2 0)] [.own (api_Int.c v1), .own (api_Int.c v3), .own [aB false, nS]] <| .seq ?_
 obtain ⟨hg5, hg6, hg7, hr⟩ := gd3 hr
 refine .r0 fine <| .mu 7 <| .e0 (v := .hs 3 0 (List.replicate (wrapF .i64 ((v1.Groups.length : Int) + (v3.Groups.length : Int))).toNat ((0 : Int) : Int)).length 1) (ws := [(3, .own ((List.replicate (wrapF .i64 ((v1.Groups.length : Int) + (v3.Groups.length : Int))).toNat ((0 : Int) : Int)).flatMap (iC .u32)))]) (Eq.trans (b := guardO (decide (0 ≤ (wrapF .i64 ((v1.Groups.length : Int) + (v3.Groups.length : Int)))) && decide ((wrapF .i64 ((v1.Groups.length : Int) + (v3.Groups.length : Int))) ≤ (wrapF .i64 ((v1.Groups.length : Int) + (v3.Groups.length : Int)))) && decide ((4 : Int) * (wrapF .i64 ((v1.Groups.length : Int) + (v3.Groups.length : Int))) ≤ 281474976710656) && decide ((wrapF .i64 ((v1.Groups.length : Int) + (v3.Groups.length : Int))) ≤ 9223372036854775807) && true && true && true) (some (.eff (.hs 3 0 (wrapF .i64 ((v1.Groups.length : Int) + (v3.Groups.length : Int))).toNat 1) [(3, .own (zerosA [aU32 0] (wrapF .i64 ((v1.Groups.length : Int) + (v3.Groups.length : Int))).toNat))]))) (by kernel_rfl) (make_own (c := (iC .u32)) (z := (0 : Int)) (n := wrapF .i64 ((v1.Groups.length : Int) + (v3.Groups.length : Int))) (by_ := 4) rfl hg5 hg6 hg7)) <| .mu 1 <| .done <| .n2 85 [(2, .hp 0 0), (3, .hp 1 0), (4, .hp 2 0), (5, .hs 3 0 (List.replicate (wrapF .i64 ((v1.Groups.length : Int) + (v3.Groups.length : Int))).toNat ((0 : Int) : Int)).length 1)] [.own (api_Int.c v1), .own (api_Int.c v3), .own [aB false, nS], .own ((List.replicate (wrapF .i64 ((v1.Groups.length : Int) + (v3.Groups.length : Int))).toNat ((0 : Int) : Int)).flatMap (iC .u32))] <| .seq <| .seq <| .r3 fine 85 [(2, .hp 0 0), (3, .hp 1 0), (4, .hp 2 0), (5, .hs 3 0 (List.replicate (wrapF .i64 ((v1.Groups.length : Int) + (v3.Groups.length : Int))).toNat ((0 : Int) : Int)).length 1), (6, aI64 0)] <| .block ?_
 replace hr := bd hr; obtain ⟨out_29, hL51, hr⟩ := hr
 refine .loopO (σ := fun z0 => match z0 with | (out_8, i_9) => ⟨mkS 85 0 [(2, .hp 0 0), (3, .hp 1 0), (4, .hp 2 0), (5, .hs 3 0 out_8.length 1), (6, aI64 i_9)], [.own (api_Int.c v1), .own (api_Int.c v3), .own [aB false, nS], .own (out_8.flatMap (iC .u32))]⟩) (Q := fun x st' => x = .exit 0 ∧ Wk 0 st' ⟨mkS 85 0 [(2, .hp 0 0), (3, .hp 1 0), (4, .hp 2 0), (5, .hs 3 0 out_29.length 1)], [.own (api_Int.c v1), .own (api_Int.c v3), .own [aB false, nS], .own (out_29.flatMap (iC .u32))]⟩) hL51 ((Wk.gc [2, 3, 4, 5, 6] [(0, true), (1, true), (2, true), (3, false)] rfl (pKt (pKt (pKt (pKo (iC .u32) (iC_pure _) (List.replicate (wrapF .i64 ((v1.Groups.length : Int) + (v3.Groups.length : Int))).toNat ((0 : Int) : Int)) trivial))))).to (by kernel_rfl)) ?_ ?_
 ·clear hr
  rintro m ⟨out_8, i_9⟩ hr
  show CQ _ _ _ _ _ ⟨_, _⟩
  refine .seq <| .seq <| .r3 fine 85 [(2, .hp 0 0), (3, .hp 1 0), (4, .hp 2 0), (5, .hs 3 0 out_8.length 1), (6, aI64 i_9), (26, aB (decide (i_9 < (v1.Groups.length : Int))))] ?_
  refine .cd hr (fun hb31 hr => ?_) (fun hb31 hr => ?_)
  ·refine .skip <| .seq <| .block <| .seq <| .r3 fine 85 [(2, .hp 0 0), (3, .hp 1 0), (4, .hp 2 0), (5, .hs 3 0 out_8.length 1), (6, aI64 i_9), (7, aU64 0)] <| .seq <| .seq <| .r3 fine 85 [(2, .hp 0 0), (3, .hp 1 0), (4, .hp 2 0), (5, .hs 3 0 out_8.length 1), (6, aI64 i_9), (7, aU64 0), (8, aI64 0)] <| .block ?_
   replace hr := bd hr; obtain ⟨o46, hL47, hr⟩ := hr
   refine .loopO (σ := fun z0 => match z0 with | (out_32, carry_33, j_34) => ⟨mkS 85 0 [(2, .hp 0 0), (3, .hp 1 0), (4, .hp 2 0), (5, .hs 3 0 out_32.length 1), (6, aI64 i_9), (7, aU64 carry_33), (8, aI64 j_34)], [.own (api_Int.c v1), .own (api_Int.c v3), .own [aB false, nS], .own (out_32.flatMap (iC .u32))]⟩) (Q := fun x st' => match (generalizing := false) o46 with | (out_39, carry_40) => x = .exit 2 ∧ Wk 0 st' ⟨mkS 85 0 [(2, .hp 0 0), (3, .hp 1 0), (4, .hp 2 0), (5, .hs 3 0 out_39.length 1), (6, aI64 i_9), (7, aU64 carry_40)], [.own (api_Int.c v1), .own (api_Int.c v3), .own [aB false, nS], .own (out_39.flatMap (iC .u32))]⟩) hL47 ((Wk.gc [2, 3, 4, 5, 6, 7, 8] [(0, true), (1, true), (2, true), (3, false)] rfl (pKt (pKt (pKt (pKo (iC .u32) (iC_pure _) out_8 trivial))))).to (by kernel_rfl)) ?_ ?_
   ·clear hr
    rintro m ⟨out_32, carry_33, j_34⟩ hr
    show CQ _ _ _ _ _ ⟨_, _⟩
    refine .seq <| .seq <| .r3 fine 85 [(2, .hp 0 0), (3, .hp 1 0), (4, .hp 2 0), (5, .hs 3 0 out_32.length 1), (6, aI64 i_9), (7, aU64 carry_33), (8, aI64 j_34), (33, aB (decide (j_34 < (v3.Groups.length : Int))))] ?_
    refine .cd hr (fun hb42 hr => ?_) (fun hb42 hr => ?_)
    ·refine .skip <| .seq <| .block <| .seq ?_
     obtain ⟨hg43, hg44, hg45, hr⟩ := gd3 hr
     refine .regionT fine callOf_nil <| .mu 4 <| .pure (v := .hp 3 (0 + (wrapF .i64 (i_9 + j_34)).toNat * 1)) (by kernel_rfl) (Eq.trans (b := ORes.ofP (guardV (inR (wrapF .i64 (i_9 + j_34)) out_32.length) (.hp 3 (0 + (wrapF .i64 (i_9 + j_34)).toNat * 1)))) (by kernel_rfl) (ofP_guard hg43)) (by kernel_rfl) <| .pure (v := aU32 (gt out_32 (wrapF .i64 (i_9 + j_34)))) (by kernel_rfl) (Eq.trans (b := ORes.ofP ((out_32.flatMap (iC .u32))[0 + (wrapF .i64 (i_9 + j_34)).toNat * 1]?)) (by kernel_rfl) (ofP_some (flat_get (iC_len _) (inR_lt hg43) (by decide : 0 < 1) (by omega : 0 + (wrapF .i64 (i_9 + j_34)).toNat * 1 = (wrapF .i64 (i_9 + j_34)).toNat * 1 + 0) (by kernel_rfl)))) (by kernel_rfl) <| .mu 4 <| .pure (v := .pp (v1.Groups.flatMap (iC .u32)) (i_9.toNat * 1)) (by kernel_rfl) (Eq.trans (b := ORes.ofP (guardV (inR i_9 v1.Groups.length) (.pp (v1.Groups.flatMap (iC .u32)) (i_9.toNat * 1)))) (by kernel_rfl) (ofP_guard hg44)) (by kernel_rfl) <| .pure (v := aU32 (gt v1.Groups i_9)) (by kernel_rfl) (Eq.trans (b := ORes.ofP ((v1.Groups.flatMap (iC .u32))[i_9.toNat * 1]?)) (by kernel_rfl) (ofP_some (flat_get (iC_len _) (inR_lt hg44) (by decide : 0 < 1) (by omega : i_9.toNat * 1 = i_9.toNat * 1 + 0) (by kernel_rfl)))) (by kernel_rfl) <| .mu 4 <| .pure (v := .pp (v3.Groups.flatMap (iC .u32)) (j_34.toNat * 1)) (by kernel_rfl) (Eq.trans (b := ORes.ofP (guardV (inR j_34 v3.Groups.length) (.pp (v3.Groups.flatMap (iC .u32)) (j_34.toNat * 1)))) (by kernel_rfl) (ofP_guard hg45)) (by kernel_rfl) <| .pure (v := aU32 (gt v3.Groups j_34)) (by kernel_rfl) (Eq.trans (b := ORes.ofP ((v3.Groups.flatMap (iC .u32))[j_34.toNat * 1]?)) (by kernel_rfl) (ofP_some (flat_get (iC_len _) (inR_lt hg45) (by decide : 0 < 1) (by omega : j_34.toNat * 1 = j_34.toNat * 1 + 0) (by kernel_rfl)))) (by kernel_rfl) <| .mu 6 ?_
     refine .done ⟨by kernel_rfl, ?_⟩
     refine .n2 85 [(2, .hp 0 0), (3, .hp 1 0), (4, .hp 2 0), (5, .hs 3 0 out_32.length 1), (6, aI64 i_9), (8, aI64 j_34), (9, aU64 (wrapF .u64 ((wrapF .u64 ((wrapF .u64 (gt out_32 (wrapF .i64 (i_9 + j_34)))) + (wrapF .u64 ((wrapF .u64 (gt v1.Groups i_9)) * (wrapF .u64 (gt v3.Groups j_34)))))) + carry_33)))] [.own (api_Int.c v1), .own (api_Int.c v3), .own [aB false, nS], .own (out_32.flatMap (iC .u32))] <| .seq <| .r0 fine <| .mu 7 <| .p0 (v := .hp 3 (0 + (wrapF .i64 (i_9 + j_34)).toNat * 1)) (Eq.trans (b := ORes.ofP (guardV (inR (wrapF .i64 (i_9 + j_34)) out_32.length) (.hp 3 (0 + (wrapF .i64 (i_9 + j_34)).toNat * 1)))) (by kernel_rfl) (ofP_guard hg43)) <| .e0 (v := .unk) (ws := [(3, .own ((out_32.set (wrapF .i64 (i_9 + j_34)).toNat (wrapF .u32 ((wrapF .u64 ((wrapF .u64 ((wrapF .u64 (gt out_32 (wrapF .i64 (i_9 + j_34)))) + (wrapF .u64 ((wrapF .u64 (gt v1.Groups i_9)) * (wrapF .u64 (gt v3.Groups j_34)))))) + carry_33)).tmod 1000000000))).flatMap (iC .u32)))]) (Eq.trans (b := stO (decide ((0 + (wrapF .i64 (i_9 + j_34)).toNat * 1) + 1 ≤ (out_32.flatMap (iC .u32)).length) && true) [(3, .own (setCells (out_32.flatMap (iC .u32)) (0 + (wrapF .i64 (i_9 + j_34)).toNat * 1) [aU32 (wrapF .u32 ((wrapF .u64 ((wrapF .u64 ((wrapF .u64 (gt out_32 (wrapF .i64 (i_9 + j_34)))) + (wrapF .u64 ((wrapF .u64 (gt v1.Groups i_9)) * (wrapF .u64 (gt v3.Groups j_34)))))) + carry_33)).tmod 1000000000))]))]) (by kernel_rfl) (stO_t (and_t (flat_fits (iC_len _) (inR_lt hg43) (Nat.le_of_ble_eq_true rfl) (by omega : 0 + (wrapF .i64 (i_9 + j_34)).toNat * 1 = (wrapF .i64 (i_9 + j_34)).toNat * 1 + 0))) (congrArg Blk.own (flat_set (iC_len _) (inR_lt hg43) (Nat.le_of_ble_eq_true rfl) (by omega : 0 + (wrapF .i64 (i_9 + j_34)).toNat * 1 = (wrapF .i64 (i_9 + j_34)).toNat * 1 + 0) (by kernel_rfl))))) <| .done <| .n2 85 [(2, .hp 0 0), (3, .hp 1 0), (4, .hp 2 0), (5, .hs 3 0 out_32.length 1), (6, aI64 i_9), (8, aI64 j_34), (9, aU64 (wrapF .u64 ((wrapF .u64 ((wrapF .u64 (gt out_32 (wrapF .i64 (i_9 + j_34)))) + (wrapF .u64 ((wrapF .u64 (gt v1.Groups i_9)) * (wrapF .u64 (gt v3.Groups j_34)))))) + carry_33)))] [.own (api_Int.c v1), .own (api_Int.c v3), .own [aB false, nS], .own ((out_32.set (wrapF .i64 (i_9 + j_34)).toNat (wrapF .u32 ((wrapF .u64 ((wrapF .u64 ((wrapF .u64 (gt out_32 (wrapF .i64 (i_9 + j_34)))) + (wrapF .u64 ((wrapF .u64 (gt v1.Groups i_9)) * (wrapF .u64 (gt v3.Groups j_34)))))) + carry_33)).tmod 1000000000))).flatMap (iC .u32))] <| .ru fine <| .pop <| .ru fine ?_
     exact loopF_back (out_32.set (wrapF .i64 (i_9 + j_34)).toNat (wrapF .u32 ((wrapF .u64 ((wrapF .u64 ((wrapF .u64 (gt out_32 (wrapF .i64 (i_9 + j_34)))) + (wrapF .u64 ((wrapF .u64 (gt v1.Groups i_9)) * (wrapF .u64 (gt v3.Groups j_34)))))) + carry_33)).tmod 1000000000)), wrapF .u64 ((wrapF .u64 ((wrapF .u64 ((wrapF .u64 (gt out_32 (wrapF .i64 (i_9 + j_34)))) + (wrapF .u64 ((wrapF .u64 (gt v1.Groups i_9)) * (wrapF .u64 (gt v3.Groups j_34)))))) + carry_33)).tdiv 1000000000), wrapF .i64 (j_34 + 1)) hr ((Wk.relen 5 (b := 3) (es := 1) (len := out_32.length) (out_32.set (wrapF .i64 (i_9 + j_34)).toNat (wrapF .u32 ((wrapF .u64 ((wrapF .u64 ((wrapF .u64 (gt out_32 (wrapF .i64 (i_9 + j_34)))) + (wrapF .u64 ((wrapF .u64 (gt v1.Groups i_9)) * (wrapF .u64 (gt v3.Groups j_34)))))) + carry_33)).tmod 1000000000))).length (by kernel_rfl) (Eq.symm (List.length_set.trans rfl))).trans ((Wk.gc [2, 3, 4, 5, 6, 7, 8] [(0, true), (1, true), (2, true), (3, false)] rfl (pKt (pKt (pKt (pKo (iC .u32) (iC_pure _) (out_32.set (wrapF .i64 (i_9 + j_34)).toNat (wrapF .u32 ((wrapF .u64 ((wrapF .u64 ((wrapF .u64 (gt out_32 (wrapF .i64 (i_9 + j_34)))) + (wrapF .u64 ((wrapF .u64 (gt v1.Groups i_9)) * (wrapF .u64 (gt v3.Groups j_34)))))) + carry_33)).tmod 1000000000))) trivial))))).to (by kernel_rfl)))
    ·refine .leave rfl ?_
     obtain rfl := Option.some.inj hr
     exact ⟨rfl, ((Wk.gc [2, 3, 4, 5, 6, 7] [(0, true), (1, true), (2, true), (3, false)] rfl (pKt (pKt (pKt (pKo (iC .u32) (iC_pure _) out_32 trivial))))).to (by kernel_rfl))⟩
   ·rcases o46 with ⟨out_39, carry_40⟩
    rintro x st' hq48
    clear hL47
    obtain ⟨rfl, hq48⟩ := hq48
    refine CQ_exit _ rfl <| .wk hq48 ?_
    obtain ⟨hg49, hr⟩ := gd hr
    refine .r0 fine <| .mu 8 <| .p0 (v := .hp 3 (0 + (wrapF .i64 (i_9 + (v3.Groups.length : Int))).toNat * 1)) (Eq.trans (b := ORes.ofP (guardV (inR (wrapF .i64 (i_9 + (v3.Groups.length : Int))) out_39.length) (.hp 3 (0 + (wrapF .i64 (i_9 + (v3.Groups.length : Int))).toNat * 1)))) (by kernel_rfl) (ofP_guard hg49)) <| .e0 (v := .unk) (ws := [(3, .own ((out_39.set (wrapF .i64 (i_9 + (v3.Groups.length : Int))).toNat (wrapF .u32 carry_40)).flatMap (iC .u32)))]) (Eq.trans (b := stO (decide ((0 + (wrapF .i64 (i_9 + (v3.Groups.length : Int))).toNat * 1) + 1 ≤ (out_39.flatMap (iC .u32)).length) && true) [(3, .own (setCells (out_39.flatMap (iC .u32)) (0 + (wrapF .i64 (i_9 + (v3.Groups.length : Int))).toNat * 1) [aU32 (wrapF .u32 carry_40)]))]) (by kernel_rfl) (stO_t (and_t (flat_fits (iC_len _) (inR_lt hg49) (Nat.le_of_ble_eq_true rfl) (by omega : 0 + (wrapF .i64 (i_9 + (v3.Groups.length : Int))).toNat * 1 = (wrapF .i64 (i_9 + (v3.Groups.length : Int))).toNat * 1 + 0))) (congrArg Blk.own (flat_set (iC_len _) (inR_lt hg49) (Nat.le_of_ble_eq_true rfl) (by omega : 0 + (wrapF .i64 (i_9 + (v3.Groups.length : Int))).toNat * 1 = (wrapF .i64 (i_9 + (v3.Groups.length : Int))).toNat * 1 + 0) (by kernel_rfl))))) <| .done <| .pop <| .ru fine ?_
    exact loopF_back (out_39.set (wrapF .i64 (i_9 + (v3.Groups.length : Int))).toNat (wrapF .u32 carry_40), wrapF .i64 (i_9 + 1)) hr ((Wk.relen 5 (b := 3) (es := 1) (len := out_39.length) (out_39.set (wrapF .i64 (i_9 + (v3.Groups.length : Int))).toNat (wrapF .u32 carry_40)).length (by kernel_rfl) (Eq.symm (List.length_set.trans rfl))).trans ((Wk.gc [2, 3, 4, 5, 6] [(0, true), (1, true), (2, true), (3, false)] rfl (pKt (pKt (pKt (pKo (iC .u32) (iC_pure _) (out_39.set (wrapF .i64 (i_9 + (v3.Groups.length : Int))).toNat (wrapF .u32 carry_40)) trivial))))).to (by kernel_rfl)))
  ·refine .leave rfl ?_
   obtain rfl := Option.some.inj hr
   exact ⟨rfl, ((Wk.gc [2, 3, 4, 5] [(0, true), (1, true), (2, true), (3, false)] rfl (pKt (pKt (pKt (pKo (iC .u32) (iC_pure _) out_8 trivial))))).to (by kernel_rfl))⟩
 ·rintro x st' hq52
  clear hL51
  obtain ⟨rfl, hq52⟩ := hq52
  refine CQ_exit _ rfl <| .wk hq52 <| .seq ?_
  obtain ⟨v53, hc54, hr⟩ := bd hr
  refine .g1 fine (callOk_ref (args := [aB (v1.Negative != v3.Negative), .hs 3 0 out_29.length 1]) (l := [3]) (SnL.cons (Sn.pure rfl) (SnL.cons (Sn.hs rfl (.inl rfl) (SnC.pure (ids_flat (iC_pure _) _)) (fun h => flat_nil0 h)) SnL.nil)) (fiducialref01_made_ok n (v1.Negative != v3.Negative) out_29 v53 hc54)) <| .mu 6 <| .ca cf0 <| .mu 1 <| .done <| .n2 85 [(4, .hp 2 0)] [.own (api_Int.c v1), .own (api_Int.c v3), .own (api_Int.c v53), .fix (out_29.flatMap (iC .u32))] <| .ret ?_
  obtain rfl := Option.some.inj hr
  exact FinQ.r1 [.agg (api_Int.c v53)]
end Go.L
