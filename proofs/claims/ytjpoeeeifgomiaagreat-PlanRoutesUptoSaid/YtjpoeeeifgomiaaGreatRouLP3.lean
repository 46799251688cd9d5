/- The program's functions compute what the plain Lean programs compute, part 3; printed by a program. -/
import Derived.Test.YtjpoeeeifgomiaaGreatRouLP2
import Derived.Test.YtjpoeeeifgomiaaGreatL0ilhddkmg
import Derived.Test.YtjpoeeeifgomiaaGreatSortbegfnjbj
import Derived.Test.YtjpoeeeifgomiaaGreatChecked
import Derived.KernelRfl
set_option linter.unusedVariables false
set_option linter.unusedSimpArgs false
set_option maxRecDepth 100000
set_option maxHeartbeats 4000000
namespace Go.L
open Go Go.Eng Go.Proofs
theorem fiducialref01_size_ok (n : Nat) (a : List Int) (b : List Int) (r : Int) (hr : fiducialref01_size n a b = some r) : FnOk Tryz.prog 133 [sU32 a, sU32 b] (aI64 r) := by
 unfold fiducialref01_size at hr
 refine FnOk.bd fine Tryz.func133 [.tmp 4] ?_
 unfold Tryz.f133
 simp only [Option.getD_some]
 refine .seq <| .r3 fine 41 [(0, sU32 a), (1, sU32 b)] <| .seq <| .seq <| .r3 fine 41 [(0, sU32 a), (1, sU32 b), (10, aB (((a.length : Int) : Int) != (b.length : Int)))] ?_
 refine .cd hr (fun hb1 hr => ?_) (fun hb1 hr => ?_)
 ·refine .seq <| .seq <| .r3 fine 41 [(15, aB (decide ((a.length : Int) < (b.length : Int))))] ?_
  refine .cd hr (fun hb2 hr => ?_) (fun hb2 hr => ?_)
  ·refine .seq <| .ru fine <| .ret ?_
   obtain rfl := Option.some.inj hr
   exact FinQ.r1 [aI64 (-1)]
  ·refine .skip <| .seq <| .ru fine <| .ret ?_
   obtain rfl := Option.some.inj hr
   exact FinQ.r1 [aI64 1]
 ·refine .skip <| .seq <| .seq <| .r3 fine 41 [(0, sU32 a), (1, sU32 b), (5, aI64 (wrapF .i64 ((a.length : Int) - 1)))] <| .block ?_
  replace hr := bd hr; obtain ⟨o15, hL16, hr⟩ := hr
  refine .loopO (σ := fun z0 => match z0 with | i_3 => ⟨mkS 41 0 [(0, sU32 a), (1, sU32 b), (5, aI64 i_3)], []⟩) (Q := fun x st' => match (generalizing := false) o15 with | .inl _ => x = .exit 0 ∧ Wk 0 st' ⟨mkS 41 0 [], []⟩ | .inr (r0) => x = .ret ∧ FinQ Tryz.prog [.tmp 4] (aI64 r0) .ret st') hL16 ((Wk.gc [0, 1, 5] [] rfl pK0).to (by kernel_rfl)) ?_ ?_
  ·clear hr
   rintro m i_3 hr
   show CQ _ _ _ _ _ ⟨_, _⟩
   refine .seq <| .seq <| .r3 fine 41 [(0, sU32 a), (1, sU32 b), (5, aI64 i_3), (20, aB (decide (i_3 ≥ 0)))] ?_
   refine .cd hr (fun hb10 hr => ?_) (fun hb10 hr => ?_)
   ·refine .skip <| .seq <| .block <| .seq <| .seq ?_
    obtain ⟨hg11, hg12, hr⟩ := gd2 hr
    refine .regionT fine callOf_nil <| .mu 2 <| .pure (v := .pp (a.flatMap (iC .u32)) (i_3.toNat * 1)) (by kernel_rfl) (Eq.trans (b := ORes.ofP (guardV (inR i_3 a.length) (.pp (a.flatMap (iC .u32)) (i_3.toNat * 1)))) (by kernel_rfl) (ofP_guard hg11)) (by kernel_rfl) <| .pure (v := aU32 (gt a i_3)) (by kernel_rfl) (Eq.trans (b := ORes.ofP ((a.flatMap (iC .u32))[i_3.toNat * 1]?)) (by kernel_rfl) (ofP_some (flat_get (iC_len _) (inR_lt hg11) (by decide : 0 < 1) (by omega : i_3.toNat * 1 = i_3.toNat * 1 + 0) (by kernel_rfl)))) (by kernel_rfl) <| .mu 2 <| .pure (v := .pp (b.flatMap (iC .u32)) (i_3.toNat * 1)) (by kernel_rfl) (Eq.trans (b := ORes.ofP (guardV (inR i_3 b.length) (.pp (b.flatMap (iC .u32)) (i_3.toNat * 1)))) (by kernel_rfl) (ofP_guard hg12)) (by kernel_rfl) <| .pure (v := aU32 (gt b i_3)) (by kernel_rfl) (Eq.trans (b := ORes.ofP ((b.flatMap (iC .u32))[i_3.toNat * 1]?)) (by kernel_rfl) (ofP_some (flat_get (iC_len _) (inR_lt hg12) (by decide : 0 < 1) (by omega : i_3.toNat * 1 = i_3.toNat * 1 + 0) (by kernel_rfl)))) (by kernel_rfl) <| .mu 1 ?_
    refine .done ⟨by kernel_rfl, ?_⟩
    refine .n2 41 [(0, sU32 a), (1, sU32 b), (5, aI64 i_3), (31, aB (decide ((gt a i_3) < (gt b i_3))))] [] ?_
    refine .cd hr (fun hb13 hr => ?_) (fun hb13 hr => ?_)
    ·refine .seq <| .ru fine <| .ret ?_
     obtain rfl := Option.some.inj hr
     exact ⟨rfl, FinQ.ret (vs := [aI64 (-1)]) (by kernel_rfl) (Sn.pure rfl)⟩
    ·refine .skip <| .seq <| .regionT fine callOf_nil <| .mu 2 <| .pure (v := .pp (a.flatMap (iC .u32)) (i_3.toNat * 1)) (by kernel_rfl) (Eq.trans (b := ORes.ofP (guardV (inR i_3 a.length) (.pp (a.flatMap (iC .u32)) (i_3.toNat * 1)))) (by kernel_rfl) (ofP_guard hg11)) (by kernel_rfl) <| .pure (v := aU32 (gt a i_3)) (by kernel_rfl) (Eq.trans (b := ORes.ofP ((a.flatMap (iC .u32))[i_3.toNat * 1]?)) (by kernel_rfl) (ofP_some (flat_get (iC_len _) (inR_lt hg11) (by decide : 0 < 1) (by omega : i_3.toNat * 1 = i_3.toNat * 1 + 0) (by kernel_rfl)))) (by kernel_rfl) <| .mu 2 <| .pure (v := .pp (b.flatMap (iC .u32)) (i_3.toNat * 1)) (by kernel_rfl) (Eq.trans (b := ORes.ofP (guardV (inR i_3 b.length) (.pp (b.flatMap (iC .u32)) (i_3.toNat * 1)))) (by kernel_rfl) (ofP_guard hg12)) (by kernel_rfl) <| .pure (v := aU32 (gt b i_3)) (by kernel_rfl) (Eq.trans (b := ORes.ofP ((b.flatMap (iC .u32))[i_3.toNat * 1]?)) (by kernel_rfl) (ofP_some (flat_get (iC_len _) (inR_lt hg12) (by decide : 0 < 1) (by omega : i_3.toNat * 1 = i_3.toNat * 1 + 0) (by kernel_rfl)))) (by kernel_rfl) <| .mu 1 ?_
     refine .done ⟨by kernel_rfl, ?_⟩
     refine .n2 41 [(0, sU32 a), (1, sU32 b), (5, aI64 i_3), (40, aB (decide ((gt a i_3) > (gt b i_3))))] [] ?_
     refine .cd hr (fun hb14 hr => ?_) (fun hb14 hr => ?_)
     ·refine .seq <| .ru fine <| .ret ?_
      obtain rfl := Option.some.inj hr
      exact ⟨rfl, FinQ.ret (vs := [aI64 1]) (by kernel_rfl) (Sn.pure rfl)⟩
     ·refine .skip <| .pop <| .ru fine ?_
      exact loopF_back (wrapF .i64 (i_3 - 1)) hr ((Wk.gc [0, 1, 5] [] rfl pK0).to (by kernel_rfl))
   ·refine .leave rfl ?_
    obtain rfl := Option.some.inj hr
    exact ⟨rfl, ((Wk.gc [] [] rfl pK0).to (by kernel_rfl))⟩
  ·rcases o15 with ⟨⟩ | r0
   ·rintro x st' hq17
    clear hL16
    obtain ⟨rfl, hq17⟩ := hq17
    refine CQ_exit _ rfl <| .wk hq17 <| .seq <| .ru fine <| .ret ?_
    obtain rfl := Option.some.inj hr
    exact FinQ.r1 [aI64 0]
   ·rintro x st' hq17
    clear hL16
    obtain ⟨rfl, hq17⟩ := hq17
    obtain rfl := Option.some.inj hr
    exact CQ_ret _ hq17

theorem fiducialref01_scaled_inj {a : List Int} {d : Int} {a_ : List Int} {d_ : Int} (h : ([slT (iC .u32) a, .at (.int .u64 d)] : List AV) = [slT (iC .u32) a_, .at (.int .u64 d_)]) : a = a_ ∧ d = d_ := by
 simp only [List.cons.injEq, AV.agg.injEq, AV.at.injEq, Value.int.injEq, Value.bool.injEq, AV.fn.injEq, AV.pp.injEq, true_and, and_true, slT_inj_int] at h
 simp_all
theorem fiducialref01_scaled_cg (n : Nat) {a : List Int} {d : Int} {a_ : List Int} {d_ : Int} (h : ([slT (iC .u32) a, .at (.int .u64 d)] : List AV) = [slT (iC .u32) a_, .at (.int .u64 d_)]) : fiducialref01_scaled n a d = fiducialref01_scaled n a_ d_ := by
 obtain ⟨rfl, rfl⟩ := fiducialref01_scaled_inj h
 rfl
theorem fiducialref01_scaled_ok (n : Nat) (a : List Int) (d : Int) (r : List Int) (hr : fiducialref01_scaled n a d = some r) : FnOk Tryz.prog 134 [sU32 a, aU64 d] (sU32 r) := by
 unfold fiducialref01_scaled at hr
 refine FnOk.bd fine Tryz.func134 [.tmp 4] ?_
 unfold Tryz.f134
 simp only [Option.getD_some]
 refine .seq <| .r3 fine 40 [(0, sU32 a), (1, aU64 d)] <| .seq <| .r2 fine 40 [(0, sU32 a), (1, aU64 d), (5, .hs 0 0 0 1)] [.own []] <| .seq <| .r3 fine 40 [(0, sU32 a), (1, aU64 d), (5, .hs 0 0 0 1), (6, aU64 0)] <| .seq <| .seq <| .r3 fine 40 [(0, sU32 a), (1, aU64 d), (5, .hs 0 0 0 1), (6, aU64 0), (7, aI64 0)] <| .block ?_
 replace hr := bd hr; obtain ⟨o15, hL16, hr⟩ := hr
 refine .loopO (σ := fun z0 => match z0 with | (out_1, carry_2, i_3) => ⟨mkS 40 0 [(0, sU32 a), (1, aU64 d), (5, .hs 0 0 out_1.length 1), (6, aU64 carry_2), (7, aI64 i_3)], [.own (out_1.flatMap (iC .u32))]⟩) (Q := fun x st' => match (generalizing := false) o15 with | (out_8, carry_9) => x = .exit 0 ∧ Wk 0 st' ⟨mkS 40 0 [(5, .hs 0 0 out_8.length 1), (6, aU64 carry_9)], [.own (out_8.flatMap (iC .u32))]⟩) hL16 ((Wk.gc [0, 1, 5, 6, 7] [(0, false)] rfl (pKc trivial)).to (by kernel_rfl)) ?_ ?_
 ·clear hr
  rintro m ⟨out_1, carry_2, i_3⟩ hr
  show CQ _ _ _ _ _ ⟨_, _⟩
  refine .seq <| .seq <| .r3 fine 40 [(0, sU32 a), (1, aU64 d), (5, .hs 0 0 out_1.length 1), (6, aU64 carry_2), (7, aI64 i_3), (13, aB (decide (i_3 < (a.length : Int))))] ?_
  refine .cd hr (fun hb11 hr => ?_) (fun hb11 hr => ?_)
  ·refine .skip <| .seq <| .block <| .seq ?_
   obtain ⟨hg12, hr⟩ := gd hr
   refine .r0 fine <| .mu 2 <| .p0 (v := .pp (a.flatMap (iC .u32)) (i_3.toNat * 1)) (Eq.trans (b := ORes.ofP (guardV (inR i_3 a.length) (.pp (a.flatMap (iC .u32)) (i_3.toNat * 1)))) (by kernel_rfl) (ofP_guard hg12)) <| .p0 (v := aU32 (gt a i_3)) (Eq.trans (b := ORes.ofP ((a.flatMap (iC .u32))[i_3.toNat * 1]?)) (by kernel_rfl) (ofP_some (flat_get (iC_len _) (inR_lt hg12) (by decide : 0 < 1) (by omega : i_3.toNat * 1 = i_3.toNat * 1 + 0) (by kernel_rfl)))) <| .mu 6 <| .done <| .n2 40 [(0, sU32 a), (1, aU64 d), (5, .hs 0 0 out_1.length 1), (7, aI64 i_3), (8, aU64 (wrapF .u64 ((wrapF .u64 ((wrapF .u64 (gt a i_3)) * d)) + carry_2)))] [.own (out_1.flatMap (iC .u32))] <| .seq ?_
   obtain ⟨hg13, hg14, hr⟩ := gd2 hr
   refine .r0 fine <| .mu 5 <| .e0 (v := .hs 2 0 (out_1 ++ [wrapF .u32 ((wrapF .u64 ((wrapF .u64 ((wrapF .u64 (gt a i_3)) * d)) + carry_2)).tmod 1000000000)]).length 1) (ws := [(0, .dead), (2, .own ((out_1 ++ [wrapF .u32 ((wrapF .u64 ((wrapF .u64 ((wrapF .u64 (gt a i_3)) * d)) + carry_2)).tmod 1000000000)]).flatMap (iC .u32)))]) (Eq.trans (b := guardO (decide (0 + out_1.length * 1 ≤ (out_1.flatMap (iC .u32)).length) && decide ((out_1.length + 1) * 4 ≤ 140737488355328) && decide (out_1.length + 1 ≤ 4611686018427387904)) (some (.eff (.hs 2 0 (out_1.length + 1) 1) [(0, .dead), (2, .own (((out_1.flatMap (iC .u32)).drop 0).take (out_1.length * 1) ++ [aU32 (wrapF .u32 ((wrapF .u64 ((wrapF .u64 ((wrapF .u64 (gt a i_3)) * d)) + carry_2)).tmod 1000000000))]))]))) (by kernel_rfl) (app_own (l := out_1) (xs := [wrapF .u32 ((wrapF .u64 ((wrapF .u64 ((wrapF .u64 (gt a i_3)) * d)) + carry_2)).tmod 1000000000)]) (iC_len _) rfl rfl (by kernel_rfl) hg13 hg14)) <| .mu 1 <| .done <| .n2 40 [(0, sU32 a), (1, aU64 d), (5, .hs 2 0 (out_1 ++ [wrapF .u32 ((wrapF .u64 ((wrapF .u64 ((wrapF .u64 (gt a i_3)) * d)) + carry_2)).tmod 1000000000)]).length 1), (7, aI64 i_3), (8, aU64 (wrapF .u64 ((wrapF .u64 ((wrapF .u64 (gt a i_3)) * d)) + carry_2)))] [.dead, .own [aU32 (wrapF .u32 ((wrapF .u64 ((wrapF .u64 ((wrapF .u64 (gt a i_3)) * d)) + carry_2)).tmod 1000000000))], .own ((out_1 ++ [wrapF .u32 ((wrapF .u64 ((wrapF .u64 ((wrapF .u64 (gt a i_3)) * d)) + carry_2)).tmod 1000000000)]).flatMap (iC .u32))] <| .ru fine <| .pop <| .ru fine ?_
   exact loopF_back (out_1 ++ [wrapF .u32 ((wrapF .u64 ((wrapF .u64 ((wrapF .u64 (gt a i_3)) * d)) + carry_2)).tmod 1000000000)], wrapF .u64 ((wrapF .u64 ((wrapF .u64 ((wrapF .u64 (gt a i_3)) * d)) + carry_2)).tdiv 1000000000), wrapF .i64 (i_3 + 1)) hr ((Wk.gc [0, 1, 5, 6, 7] [(2, false)] rfl (pKo (iC .u32) (iC_pure _) (out_1 ++ [wrapF .u32 ((wrapF .u64 ((wrapF .u64 ((wrapF .u64 (gt a i_3)) * d)) + carry_2)).tmod 1000000000)]) trivial)).to (by kernel_rfl))
  ·refine .leave rfl ?_
   obtain rfl := Option.some.inj hr
   exact ⟨rfl, ((Wk.gc [5, 6] [(0, false)] rfl (pKo (iC .u32) (iC_pure _) out_1 trivial)).to (by kernel_rfl))⟩
 ·rcases o15 with ⟨out_8, carry_9⟩
  rintro x st' hq17
  clear hL16
  obtain ⟨rfl, hq17⟩ := hq17
  refine CQ_exit _ rfl <| .wk hq17 <| .seq ?_
  obtain ⟨hg18, hg19, hr⟩ := gd2 hr
  obtain ⟨v20, hc21, hr⟩ := bd hr
  refine .gn fine (ca4 [.dead, .own [aU32 (wrapF .u32 carry_9)], .own ((out_8 ++ [wrapF .u32 carry_9]).flatMap (iC .u32))] (callOk_ref (args := [aB false, .hs 2 0 (out_8 ++ [wrapF .u32 carry_9]).length 1]) (l := [2]) (SnL.cons (Sn.pure rfl) (SnL.cons (Sn.hs rfl (.inl rfl) (SnC.pure (ids_flat (iC_pure _) _)) (fun h => flat_nil0 h)) SnL.nil)) (fiducialref01_made_ok n false (out_8 ++ [wrapF .u32 carry_9]) v20 hc21))) <| .mu 4 <| .e0 (v := .hs 2 0 (out_8 ++ [wrapF .u32 carry_9]).length 1) (ws := [(0, .dead), (2, .own ((out_8 ++ [wrapF .u32 carry_9]).flatMap (iC .u32)))]) (Eq.trans (b := guardO (decide (0 + out_8.length * 1 ≤ (out_8.flatMap (iC .u32)).length) && decide ((out_8.length + 1) * 4 ≤ 140737488355328) && decide (out_8.length + 1 ≤ 4611686018427387904)) (some (.eff (.hs 2 0 (out_8.length + 1) 1) [(0, .dead), (2, .own (((out_8.flatMap (iC .u32)).drop 0).take (out_8.length * 1) ++ [aU32 (wrapF .u32 carry_9)]))]))) (by kernel_rfl) (app_own (l := out_8) (xs := [wrapF .u32 carry_9]) (iC_len _) rfl rfl (by kernel_rfl) hg18 hg19)) <| .ca cf0 <| .mu 2 <| .done <| .ret ?_
  obtain rfl := Option.some.inj hr
  exact FinQ.r1 [sU32 v20.Groups]

theorem fiducialref01_shifted_ok (n : Nat) (a : List Int) (d : Int) (r : List Int) (hr : fiducialref01_shifted n a d = some r) : FnOk Tryz.prog 135 [sU32 a, aU32 d] (sU32 r) := by
 unfold fiducialref01_shifted at hr
 refine FnOk.bd fine Tryz.func135 [.tmp 4] ?_
 unfold Tryz.f135
 simp only [Option.getD_some]
 refine .seq <| .r3 fine 11 [(0, sU32 a), (1, aU32 d)] <| .seq ?_
 obtain ⟨hg1, hg2, hr⟩ := gd2 hr
 obtain ⟨v3, hc4, hr⟩ := bd hr
 refine .gn fine (ca4 [.dead, .own (([d] ++ a).flatMap (iC .u32))] (callOk_ref (args := [aB false, .hs 1 0 ([d] ++ a).length 1]) (l := [1]) (SnL.cons (Sn.pure rfl) (SnL.cons (Sn.hs rfl (.inl rfl) (SnC.pure (ids_flat (iC_pure _) _)) (fun h => flat_nil0 h)) SnL.nil)) (fiducialref01_made_ok n false ([d] ++ a) v3 hc4))) <| .mu 3 <| .e0 (v := .hs 1 0 ([d] ++ a).length 1) (ws := [(0, .dead), (1, .own (([d] ++ a).flatMap (iC .u32)))]) (Eq.trans (b := appS (decide (((a.flatMap (iC .u32))).length = a.length * 1)) (a.flatMap (iC .u32)) a.length (fun z1 z2 => guardO (decide (0 + 1 * 1 ≤ ([d].flatMap (iC .u32)).length) && decide ((1 + z2) * 4 ≤ 140737488355328) && decide (1 + z2 ≤ 4611686018427387904)) (some (.eff (.hs 1 0 (1 + z2) 1) [(0, .dead), (1, .own ((([d].flatMap (iC .u32)).drop 0).take (1 * 1) ++ z1))])))) (by kernel_rfl) (appS_t (flat_lenB (iC_len _)) rfl (app_own (l := [d]) (xs := a) (iC_len _) rfl rfl rfl hg1 hg2))) <| .ca cf0 <| .mu 2 <| .done <| .ret ?_
 obtain rfl := Option.some.inj hr
 exact FinQ.r1 [sU32 v3.Groups]

theorem fiducialref01_group_inj {l : List Int} {i : Int} {l_ : List Int} {i_ : Int} (h : ([slT (iC .u32) l, .at (.int .i64 i)] : List AV) = [slT (iC .u32) l_, .at (.int .i64 i_)]) : l = l_ ∧ i = i_ := by
 simp only [List.cons.injEq, AV.agg.injEq, AV.at.injEq, Value.int.injEq, Value.bool.injEq, AV.fn.injEq, AV.pp.injEq, true_and, and_true, slT_inj_int] at h
 simp_all
theorem fiducialref01_group_cg (n : Nat) {l : List Int} {i : Int} {l_ : List Int} {i_ : Int} (h : ([slT (iC .u32) l, .at (.int .i64 i)] : List AV) = [slT (iC .u32) l_, .at (.int .i64 i_)]) : fiducialref01_group n l i = fiducialref01_group n l_ i_ := by
 obtain ⟨rfl, rfl⟩ := fiducialref01_group_inj h
 rfl
theorem fiducialref01_group_ok (n : Nat) (l : List Int) (i : Int) (r : Int) (hr : fiducialref01_group n l i = some r) : FnOk Tryz.prog 136 [sU32 l, aI64 i] (aU64 r) := by
 unfold fiducialref01_group at hr
 refine FnOk.bd fine Tryz.func136 [.tmp 4] ?_
 unfold Tryz.f136
 simp only [Option.getD_some]
 refine .seq <| .r3 fine 14 [(0, sU32 l), (1, aI64 i)] <| .seq <| .seq <| .r3 fine 14 [(0, sU32 l), (1, aI64 i), (8, aB (decide (i < (l.length : Int))))] ?_
 refine .cd hr (fun hb1 hr => ?_) (fun hb1 hr => ?_)
 ·refine .seq ?_
  obtain ⟨hg2, hr⟩ := gd hr
  refine .r0 fine <| .mu 2 <| .p0 (v := .pp (l.flatMap (iC .u32)) (i.toNat * 1)) (Eq.trans (b := ORes.ofP (guardV (inR i l.length) (.pp (l.flatMap (iC .u32)) (i.toNat * 1)))) (by kernel_rfl) (ofP_guard hg2)) <| .p0 (v := aU32 (gt l i)) (Eq.trans (b := ORes.ofP ((l.flatMap (iC .u32))[i.toNat * 1]?)) (by kernel_rfl) (ofP_some (flat_get (iC_len _) (inR_lt hg2) (by decide : 0 < 1) (by omega : i.toNat * 1 = i.toNat * 1 + 0) (by kernel_rfl)))) <| .mu 2 <| .done <| .ret ?_
  obtain rfl := Option.some.inj hr
  exact FinQ.r1 [aU64 (wrapF .u64 (gt l i))]
 ·refine .skip <| .seq <| .ru fine <| .ret ?_
  obtain rfl := Option.some.inj hr
  exact FinQ.r1 [aU64 0]

theorem fiducialref01_minus_ok (n : Nat) (a : List Int) (b : List Int) (r : List Int) (hr : fiducialref01_minus n a b = some r) : FnOk Tryz.prog 137 [sU32 a, sU32 b] (sU32 r) := by
 unfold fiducialref01_minus at hr
 refine FnOk.bd fine Tryz.func137 [.tmp 4] ?_
 unfold Tryz.f137
 simp only [Option.getD_some]
 refine .seq <| .r3 fine 38 [(0, sU32 a), (1, sU32 b)] <| .seq <| .r2 fine 38 [(0, sU32 a), (1, sU32 b), (5, .hs 0 0 0 1)] [.own []] <| .seq <| .r3 fine 38 [(0, sU32 a), (1, sU32 b), (5, .hs 0 0 0 1), (6, aU64 0)] <| .seq <| .seq <| .r3 fine 38 [(0, sU32 a), (1, sU32 b), (5, .hs 0 0 0 1), (6, aU64 0), (7, aI64 0)] <| .block ?_
 replace hr := bd hr; obtain ⟨out_11, hL21, hr⟩ := hr
 refine .loopO (σ := fun z0 => match z0 with | (out_1, borrow_2, i_3) => ⟨mkS 38 0 [(0, sU32 a), (1, sU32 b), (5, .hs 0 0 out_1.length 1), (6, aU64 borrow_2), (7, aI64 i_3)], [.own (out_1.flatMap (iC .u32))]⟩) (Q := fun x st' => x = .exit 0 ∧ Wk 0 st' ⟨mkS 38 0 [(5, .hs 0 0 out_11.length 1)], [.own (out_11.flatMap (iC .u32))]⟩) hL21 ((Wk.gc [0, 1, 5, 6, 7] [(0, false)] rfl (pKc trivial)).to (by kernel_rfl)) ?_ ?_
 ·clear hr
  rintro m ⟨out_1, borrow_2, i_3⟩ hr
  show CQ _ _ _ _ _ ⟨_, _⟩
  refine .seq <| .seq <| .r3 fine 38 [(0, sU32 a), (1, sU32 b), (5, .hs 0 0 out_1.length 1), (6, aU64 borrow_2), (7, aI64 i_3), (13, aB (decide (i_3 < (a.length : Int))))] ?_
  refine .cd hr (fun hb13 hr => ?_) (fun hb13 hr => ?_)
  ·refine .skip <| .seq <| .block <| .seq ?_
   obtain ⟨v14, hc15, v16, hc17, hr⟩ := bd2 hr
   refine .gn fine (ca1 (ok0 (fiducialref01_group_ok n a i_3 v14 hc15)) (ca3 (ok0 (fiducialref01_group_ok n b i_3 v16 hc17)))) <| .mu 2 <| .ca cf0 <| .mu 3 <| .ca (cfA (fun h => by rw [sv hc17 hc15 (fiducialref01_group_cg n h)]) cf0) <| .mu 4 <| .done <| .n2 38 [(0, sU32 a), (1, sU32 b), (5, .hs 0 0 out_1.length 1), (7, aI64 i_3), (8, aU64 (wrapF .u64 ((wrapF .u64 ((wrapF .u64 (1000000000 + v14)) - v16)) - borrow_2)))] [.own (out_1.flatMap (iC .u32))] <| .seq ?_
   obtain ⟨hg18, hg19, hr⟩ := gd2 hr
   refine .r0 fine <| .mu 5 <| .e0 (v := .hs 2 0 (out_1 ++ [wrapF .u32 ((wrapF .u64 ((wrapF .u64 ((wrapF .u64 (1000000000 + v14)) - v16)) - borrow_2)).tmod 1000000000)]).length 1) (ws := [(0, .dead), (2, .own ((out_1 ++ [wrapF .u32 ((wrapF .u64 ((wrapF .u64 ((wrapF .u64 (1000000000 + v14)) - v16)) - borrow_2)).tmod 1000000000)]).flatMap (iC .u32)))]) (Eq.trans (b := guardO (decide (0 + out_1.length * 1 ≤ (out_1.flatMap (iC .u32)).length) && decide ((out_1.length + 1) * 4 ≤ 140737488355328) && decide (out_1.length + 1 ≤ 4611686018427387904)) (some (.eff (.hs 2 0 (out_1.length + 1) 1) [(0, .dead), (2, .own (((out_1.flatMap (iC .u32)).drop 0).take (out_1.length * 1) ++ [aU32 (wrapF .u32 ((wrapF .u64 ((wrapF .u64 ((wrapF .u64 (1000000000 + v14)) - v16)) - borrow_2)).tmod 1000000000))]))]))) (by kernel_rfl) (app_own (l := out_1) (xs := [wrapF .u32 ((wrapF .u64 ((wrapF .u64 ((wrapF .u64 (1000000000 + v14)) - v16)) - borrow_2)).tmod 1000000000)]) (iC_len _) rfl rfl (by kernel_rfl) hg18 hg19)) <| .mu 1 <| .done <| .n2 38 [(0, sU32 a), (1, sU32 b), (5, .hs 2 0 (out_1 ++ [wrapF .u32 ((wrapF .u64 ((wrapF .u64 ((wrapF .u64 (1000000000 + v14)) - v16)) - borrow_2)).tmod 1000000000)]).length 1), (7, aI64 i_3), (8, aU64 (wrapF .u64 ((wrapF .u64 ((wrapF .u64 (1000000000 + v14)) - v16)) - borrow_2)))] [.dead, .own [aU32 (wrapF .u32 ((wrapF .u64 ((wrapF .u64 ((wrapF .u64 (1000000000 + v14)) - v16)) - borrow_2)).tmod 1000000000))], .own ((out_1 ++ [wrapF .u32 ((wrapF .u64 ((wrapF .u64 ((wrapF .u64 (1000000000 + v14)) - v16)) - borrow_2)).tmod 1000000000)]).flatMap (iC .u32))] <| .ru fine <| .pop <| .ru fine ?_
   exact loopF_back (out_1 ++ [wrapF .u32 ((wrapF .u64 ((wrapF .u64 ((wrapF .u64 (1000000000 + v14)) - v16)) - borrow_2)).tmod 1000000000)], wrapF .u64 (1 - (wrapF .u64 ((wrapF .u64 ((wrapF .u64 ((wrapF .u64 (1000000000 + v14)) - v16)) - borrow_2)).tdiv 1000000000))), wrapF .i64 (i_3 + 1)) hr ((Wk.gc [0, 1, 5, 6, 7] [(2, false)] rfl (pKo (iC .u32) (iC_pure _) (out_1 ++ [wrapF .u32 ((wrapF .u64 ((wrapF .u64 ((wrapF .u64 (1000000000 + v14)) - v16)) - borrow_2)).tmod 1000000000)]) trivial)).to (by kernel_rfl))
  ·refine .leave rfl ?_
   obtain rfl := Option.some.inj hr
   exact ⟨rfl, ((Wk.gc [5] [(0, false)] rfl (pKo (iC .u32) (iC_pure _) out_1 trivial)).to (by kernel_rfl))⟩
 ·rintro x st' hq22
  clear hL21
  obtain ⟨rfl, hq22⟩ := hq22
  refine CQ_exit _ rfl <| .wk hq22 <| .seq ?_
  obtain ⟨v23, hc24, hr⟩ := bd hr
  refine .g1 fine (callOk_ref (args := [aB false, .hs 0 0 out_11.length 1]) (l := [0]) (SnL.cons (Sn.pure rfl) (SnL.cons (Sn.hs rfl (.inl rfl) (SnC.pure (ids_flat (iC_pure _) _)) (fun h => flat_nil0 h)) SnL.nil)) (fiducialref01_made_ok n false out_11 v23 hc24)) <| .mu 1 <| .ca cf0 <| .mu 2 <| .done <| .ret ?_
  obtain rfl := Option.some.inj hr
  exact FinQ.r1 [sU32 v23.Groups]

theorem fiducialref01_parts_ok (n : Nat) (a : List Int) (b : List Int) (r : List Int × List Int) (hr : fiducialref01_parts n a b = some r) : FnOk Tryz.prog 111 [sU32 a, sU32 b] (.tup [sU32 r.1, sU32 r.2]) := by
 unfold fiducialref01_parts at hr
 refine FnOk.bd fine Tryz.func111 [.tmp 4, .tmp 5] ?_
 unfold Tryz.f111
 simp only [Option.getD_some]
 refine .seq <| .r3 fine 130 [(0, sU32 a), (1, sU32 b)] <| .seq <| .r3 fine 130 [(0, sU32 a), (1, sU32 b), (6, aI64 (b.length : Int))] <| .seq <| .seq <| .r3 fine 130 [(0, sU32 a), (1, sU32 b), (6, aI64 (b.length : Int)), (19, aB (((b.length : Int) : Int) == 1))] ?_
 refine .cd hr (fun hb1 hr => ?_) (fun hb1 hr => ?_)
 ·refine .seq ?_
  obtain ⟨hg2, hr⟩ := gd hr
  obtain ⟨v3, hc4, hr⟩ := bd hr
  refine .g1 fine (ok0 (fiducialref01_short_ok n a (wrapF .u64 (gt b 0)) v3 hc4)) <| .mu 2 <| .p0 (v := .pp (b.flatMap (iC .u32)) ((0 : Int).toNat * 1)) (Eq.trans (b := ORes.ofP (guardV (inR 0 b.length) (.pp (b.flatMap (iC .u32)) ((0 : Int).toNat * 1)))) (by kernel_rfl) (ofP_guard hg2)) <| .p0 (v := aU32 (gt b 0)) (Eq.trans (b := ORes.ofP ((b.flatMap (iC .u32))[(0 : Int).toNat * 1]?)) (by kernel_rfl) (ofP_some (flat_get (iC_len _) (inR_lt hg2) (by decide : 0 < 1) (by omega : (0 : Int).toNat * 1 = (0 : Int).toNat * 1 + 0) (by kernel_rfl)))) <| .mu 1 <| .ca cf0 <| .mu 5 <| .done <| .n2 130 [(7, sU32 v3.1), (8, aU64 v3.2)] [] <| .seq ?_
  obtain ⟨v5, hc6, hr⟩ := bd hr
  refine .gn fine (ca4 [.own [aU32 (wrapF .u32 v3.2)]] (callOk_ref (args := [aB false, .hs 0 0 1 1]) (l := [0]) (SnL.cons (Sn.pure rfl) (SnL.cons (Sn.hs rfl (.inl rfl) (SnC.cons (Sn.pure rfl) SnC.nil) (fun h => nomatch h)) SnL.nil)) (fiducialref01_made_ok n false [(wrapF .u32 v3.2)] v5 hc6))) <| .mu 4 <| .ca cf0 <| .mu 3 <| .done <| .ret ?_
  obtain rfl := Option.some.inj hr
  exact FinQ.ret (vs := [sU32 v3.1, sU32 v5.Groups]) (by kernel_rfl) (Sn.tup (SnL.cons (Sn.pure rfl) (SnL.cons (Sn.pure rfl) SnL.nil)))
 ·refine .skip <| .seq <| .seq ?_
  obtain ⟨v7, hc8, hr⟩ := bd hr
  refine .g1 fine (ok0 (fiducialref01_size_ok n a b v7 hc8)) <| .mu 2 <| .ca cf0 <| .mu 1 <| .done <| .n2 130 [(0, sU32 a), (1, sU32 b), (6, aI64 (b.length : Int)), (38, aB (decide (v7 < 0)))] [] ?_
  refine .cd hr (fun hb9 hr => ?_) (fun hb9 hr => ?_)
  ·refine .seq <| .r2 fine 130 [(4, .hs 0 0 0 1), (5, sU32 a)] [.own []] <| .ret ?_
   obtain rfl := Option.some.inj hr
   exact FinQ.ret (vs := [.hs 0 0 0 1, sU32 a]) (by kernel_rfl) (Sn.tup (SnL.cons (Sn.hs rfl (.inl rfl) SnC.nil (fun _ => rfl)) (SnL.cons (Sn.pure rfl) SnL.nil)))
  ·refine .skip <| .seq ?_
   obtain ⟨hg10, hg11, hr⟩ := gd2 hr
   refine .r0 fine <| .mu 3 <| .p0 (v := .pp (b.flatMap (iC .u32)) ((wrapF .i64 ((b.length : Int) - 1)).toNat * 1)) (Eq.trans (b := ORes.ofP (guardV (inR (wrapF .i64 ((b.length : Int) - 1)) b.length) (.pp (b.flatMap (iC .u32)) ((wrapF .i64 ((b.length : Int) - 1)).toNat * 1)))) (by kernel_rfl) (ofP_guard hg10)) <| .p0 (v := aU32 (gt b (wrapF .i64 ((b.length : Int) - 1)))) (Eq.trans (b := ORes.ofP ((b.flatMap (iC .u32))[(wrapF .i64 ((b.length : Int) - 1)).toNat * 1]?)) (by kernel_rfl) (ofP_some (flat_get (iC_len _) (inR_lt hg10) (by decide : 0 < 1) (by omega : (wrapF .i64 ((b.length : Int) - 1)).toNat * 1 = (wrapF .i64 ((b.length : Int) - 1)).toNat * 1 + 0) (by kernel_rfl)))) <| .mu 2 <| .p0 (v := aU64 (wrapF .u64 ((1000000000 : Int).tdiv (wrapF .u64 ((wrapF .u64 (gt b (wrapF .i64 ((b.length : Int) - 1)))) + 1))))) (op_quo (x := 1000000000) (y := wrapF .u64 ((wrapF .u64 (gt b (wrapF .i64 ((b.length : Int) - 1)))) + 1)) (by kernel_rfl) (by kernel_rfl) hg11) <| .mu 1 <| .done <| .n2 130 [(0, sU32 a), (1, sU32 b), (6, aI64 (b.length : Int)), (9, aU64 (wrapF .u64 ((1000000000 : Int).tdiv (wrapF .u64 ((wrapF .u64 (gt b (wrapF .i64 ((b.length : Int) - 1)))) + 1)))))] [] <| .seq ?_
   obtain ⟨v12, hc13, v14, hc15, hr⟩ := bd2 hr
   refine .gn fine (ca1 (ok0 (fiducialref01_scaled_ok n a (wrapF .u64 ((1000000000 : Int).tdiv (wrapF .u64 ((wrapF .u64 (gt b (wrapF .i64 ((b.length : Int) - 1)))) + 1)))) v12 hc13)) (ca3 (ok0 (fiducialref01_scaled_ok n b (wrapF .u64 ((1000000000 : Int).tdiv (wrapF .u64 ((wrapF .u64 (gt b (wrapF .i64 ((b.length : Int) - 1)))) + 1)))) v14 hc15)))) <| .mu 2 <| .ca cf0 <| .mu 2 <| .ca (cfA (fun h => by rw [sv hc15 hc13 (fiducialref01_scaled_cg n h)]) cf0) <| .mu 2 <| .done <| .n2 130 [(0, sU32 v12), (1, sU32 v14), (6, aI64 (b.length : Int)), (9, aU64 (wrapF .u64 ((1000000000 : Int).tdiv (wrapF .u64 ((wrapF .u64 (gt b (wrapF .i64 ((b.length : Int) - 1)))) + 1)))))] [] <| .seq ?_
   obtain ⟨hg16, hr⟩ := gd hr
   obtain ⟨v17, hc18, hr⟩ := bd hr
   refine .g1 fine (ok0 (fiducialref01_made_ok n false ((v12.drop (wrapF .i64 ((wrapF .i64 ((v12.length : Int) - (b.length : Int))) + 1)).toNat).take ((v12.length : Int).toNat - (wrapF .i64 ((wrapF .i64 ((v12.length : Int) - (b.length : Int))) + 1)).toNat)) v17 hc18)) <| .mu 6 <| .p0 (v := sU32 ((v12.drop (wrapF .i64 ((wrapF .i64 ((v12.length : Int) - (b.length : Int))) + 1)).toNat).take ((v12.length : Int).toNat - (wrapF .i64 ((wrapF .i64 ((v12.length : Int) - (b.length : Int))) + 1)).toNat))) (Eq.trans (b := slO (inS (wrapF .i64 ((wrapF .i64 ((v12.length : Int) - (b.length : Int))) + 1)) (v12.length : Int) v12.length) (wrapF .i64 ((wrapF .i64 ((v12.length : Int) - (b.length : Int))) + 1)).toNat (v12.length : Int).toNat (fun z1 z2 => .sl true (((v12.flatMap (iC .u32)).drop (z1 * 1)).take ((z2 - z1) * 1)) (z2 - z1))) (by kernel_rfl) (slO_t hg16 (sub_sl (iC_len _) (inS_le hg16)))) <| .ca cf0 <| .mu 2 <| .done <| .n2 130 [(0, sU32 v12), (1, sU32 v14), (6, aI64 (b.length : Int)), (9, aU64 (wrapF .u64 ((1000000000 : Int).tdiv (wrapF .u64 ((wrapF .u64 (gt b (wrapF .i64 ((b.length : Int) - 1)))) + 1))))), (10, sU32 v17.Groups)] [] <| .seq ?_
   obtain ⟨hg19, hg20, hg21, hr⟩ := gd3 hr
   refine .r0 fine <| .mu 5 <| .e0 (v := .hs 0 0 (List.replicate (wrapF .i64 ((wrapF .i64 ((v12.length : Int) - (b.length : Int))) + 1)).toNat ((0 : Int) : Int)).length 1) (ws := [(0, .own ((List.replicate (wrapF .i64 ((wrapF .i64 ((v12.length : Int) - (b.length : Int))) + 1)).toNat ((0 : Int) : Int)).flatMap (iC .u32)))]) (Eq.trans (b := guardO (decide (0 ≤ (wrapF .i64 ((wrapF .i64 ((v12.length : Int) - (b.length : Int))) + 1))) && decide ((wrapF .i64 ((wrapF .i64 ((v12.length : Int) - (b.length : Int))) + 1)) ≤ (wrapF .i64 ((wrapF .i64 ((v12.length : Int) - (b.length : Int))) + 1))) && decide ((4 : Int) * (wrapF .i64 ((wrapF .i64 ((v12.length : Int) - (b.length : Int))) + 1)) ≤ 281474976710656) && decide ((wrapF .i64 ((wrapF .i64 ((v12.length : Int) - (b.length : Int))) + 1)) ≤ 9223372036854775807) && true && true && true) (some (.eff (.hs 0 0 (wrapF .i64 ((wrapF .i64 ((v12.length : Int) - (b.length : Int))) + 1)).toNat 1) [(0, .own (zerosA [aU32 0] (wrapF .i64 ((wrapF .i64 ((v12.length : Int) - (b.length : Int))) + 1)).toNat))]))) (by kernel_rfl) (make_own (c := (iC .u32)) (z := (0 : Int)) (n := wrapF .i64 ((wrapF .i64 ((v12.length : Int) - (b.length : Int))) + 1)) (by_ := 4) rfl hg19 hg20 hg21)) <| .mu 1 <| .done <| .n2 130 [(0, sU32 v12), (1, sU32 v14), (6, aI64 (b.length : Int)), (9, aU64 (wrapF .u64 ((1000000000 : Int).tdiv (wrapF .u64 ((wrapF .u64 (gt b (wrapF .i64 ((b.length : Int) - 1)))) + 1))))), (10, sU32 v17.Groups), (11, .hs 0 0 (List.replicate (wrapF .i64 ((wrapF .i64 ((v12.length : Int) - (b.length : Int))) + 1)).toNat ((0 : Int) : Int)).length 1)] [.own ((List.replicate (wrapF .i64 ((wrapF .i64 ((v12.length : Int) - (b.length : Int))) + 1)).toNat ((0 : Int) : Int)).flatMap (iC .u32))] <| .seq <| .seq <| .r3 fine 130 [(0, sU32 v12), (1, sU32 v14), (6, aI64 (b.length : Int)), (9, aU64 (wrapF .u64 ((1000000000 : Int).tdiv (wrapF .u64 ((wrapF .u64 (gt b (wrapF .i64 ((b.length : Int) - 1)))) + 1))))), (10, sU32 v17.Groups), (11, .hs 0 0 (List.replicate (wrapF .i64 ((wrapF .i64 ((v12.length : Int) - (b.length : Int))) + 1)).toNat ((0 : Int) : Int)).length 1), (12, aI64 (wrapF .i64 ((v12.length : Int) - (b.length : Int))))] <| .block ?_
   replace hr := bd hr; obtain ⟨o94, hL95, hr⟩ := hr
   refine .loopO (σ := fun z0 => match z0 with | (rest_22, q_23, i_24) => ⟨mkS 130 0 [(0, sU32 v12), (1, sU32 v14), (6, aI64 (b.length : Int)), (9, aU64 (wrapF .u64 ((1000000000 : Int).tdiv (wrapF .u64 ((wrapF .u64 (gt b (wrapF .i64 ((b.length : Int) - 1)))) + 1))))), (10, sU32 rest_22), (11, .hs 0 0 q_23.length 1), (12, aI64 i_24)], [.own (q_23.flatMap (iC .u32))]⟩) (Q := fun x st' => match (generalizing := false) o94 with | (rest_58, q_59) => x = .exit 0 ∧ Wk 0 st' ⟨mkS 130 0 [(9, aU64 (wrapF .u64 ((1000000000 : Int).tdiv (wrapF .u64 ((wrapF .u64 (gt b (wrapF .i64 ((b.length : Int) - 1)))) + 1))))), (10, sU32 rest_58), (11, .hs 0 0 q_59.length 1)], [.own (q_59.flatMap (iC .u32))]⟩) hL95 ((Wk.gc [0, 1, 6, 9, 10, 11, 12] [(0, false)] rfl (pKo (iC .u32) (iC_pure _) (List.replicate (wrapF .i64 ((wrapF .i64 ((v12.length : Int) - (b.length : Int))) + 1)).toNat ((0 : Int) : Int)) trivial)).to (by kernel_rfl)) ?_ ?_
   ·clear hr
    rintro m ⟨rest_22, q_23, i_24⟩ hr
    show CQ _ _ _ _ _ ⟨_, _⟩
    refine .seq <| .seq <| .r3 fine 130 [(0, sU32 v12), (1, sU32 v14), (6, aI64 (b.length : Int)), (9, aU64 (wrapF .u64 ((1000000000 : Int).tdiv (wrapF .u64 ((wrapF .u64 (gt b (wrapF .i64 ((b.length : Int) - 1)))) + 1))))), (10, sU32 rest_22), (11, .hs 0 0 q_23.length 1), (12, aI64 i_24), (75, aB (decide (i_24 ≥ 0)))] ?_
    refine .cd hr (fun hb61 hr => ?_) (fun hb61 hr => ?_)
    ·refine .skip <| .seq <| .block <| .seq ?_
     obtain ⟨hg62, hr⟩ := gd hr
     obtain ⟨v63, hc64, hr⟩ := bd hr
     refine .g1 fine (ok0 (fiducialref01_shifted_ok n rest_22 (gt v12 i_24) v63 hc64)) <| .mu 3 <| .p0 (v := .pp (v12.flatMap (iC .u32)) (i_24.toNat * 1)) (Eq.trans (b := ORes.ofP (guardV (inR i_24 v12.length) (.pp (v12.flatMap (iC .u32)) (i_24.toNat * 1)))) (by kernel_rfl) (ofP_guard hg62)) <| .p0 (v := aU32 (gt v12 i_24)) (Eq.trans (b := ORes.ofP ((v12.flatMap (iC .u32))[i_24.toNat * 1]?)) (by kernel_rfl) (ofP_some (flat_get (iC_len _) (inR_lt hg62) (by decide : 0 < 1) (by omega : i_24.toNat * 1 = i_24.toNat * 1 + 0) (by kernel_rfl)))) <| .ca cf0 <| .mu 1 <| .done <| .n2 130 [(0, sU32 v12), (1, sU32 v14), (6, aI64 (b.length : Int)), (9, aU64 (wrapF .u64 ((1000000000 : Int).tdiv (wrapF .u64 ((wrapF .u64 (gt b (wrapF .i64 ((b.length : Int) - 1)))) + 1))))), (10, sU32 v63), (11, .hs 0 0 q_23.length 1), (12, aI64 i_24)] [.own (q_23.flatMap (iC .u32))] <| .seq ?_
     obtain ⟨v65, hc66, v67, hc68, hr⟩ := bd2 hr
     obtain ⟨hg69, hg70, hr⟩ := gd2 hr
     refine .tn fine (ca1 (ok0 (fiducialref01_group_ok n v63 (b.length : Int) v65 hc66)) (ca3 (ok0 (fiducialref01_group_ok n v63 (wrapF .i64 ((b.length : Int) - 1)) v67 hc68)))) <| .mu 2 <| .ca cf0 <| .mu 4 <| .ca (cfA (fun h => by rw [sv hc68 hc66 (fiducialref01_group_cg n h)]) cf0) <| .mu 4 <| .pure (v := .pp (v14.flatMap (iC .u32)) ((wrapF .i64 ((b.length : Int) - 1)).toNat * 1)) (by kernel_rfl) (Eq.trans (b := ORes.ofP (guardV (inR (wrapF .i64 ((b.length : Int) - 1)) v14.length) (.pp (v14.flatMap (iC .u32)) ((wrapF .i64 ((b.length : Int) - 1)).toNat * 1)))) (by kernel_rfl) (ofP_guard hg69)) (by kernel_rfl) <| .pure (v := aU32 (gt v14 (wrapF .i64 ((b.length : Int) - 1)))) (by kernel_rfl) (Eq.trans (b := ORes.ofP ((v14.flatMap (iC .u32))[(wrapF .i64 ((b.length : Int) - 1)).toNat * 1]?)) (by kernel_rfl) (ofP_some (flat_get (iC_len _) (inR_lt hg69) (by decide : 0 < 1) (by omega : (wrapF .i64 ((b.length : Int) - 1)).toNat * 1 = (wrapF .i64 ((b.length : Int) - 1)).toNat * 1 + 0) (by kernel_rfl)))) (by kernel_rfl) <| .mu 2 <| .pure (v := aU64 (wrapF .u64 ((wrapF .u64 ((wrapF .u64 (v65 * 1000000000)) + v67)).tdiv (wrapF .u64 ((wrapF .u64 (gt v14 (wrapF .i64 ((b.length : Int) - 1)))) + 1))))) (by kernel_rfl) (op_quo (x := wrapF .u64 ((wrapF .u64 (v65 * 1000000000)) + v67)) (y := wrapF .u64 ((wrapF .u64 (gt v14 (wrapF .i64 ((b.length : Int) - 1)))) + 1)) (by kernel_rfl) (by kernel_rfl) hg70) (by kernel_rfl) <| .mu 1 ?_
     refine .done ⟨by kernel_rfl, ?_⟩
     refine .n2 130 [(0, sU32 v12), (1, sU32 v14), (6, aI64 (b.length : Int)), (9, aU64 (wrapF .u64 ((1000000000 : Int).tdiv (wrapF .u64 ((wrapF .u64 (gt b (wrapF .i64 ((b.length : Int) - 1)))) + 1))))), (10, sU32 v63), (11, .hs 0 0 q_23.length 1), (12, aI64 i_24), (13, aU64 (wrapF .u64 ((wrapF .u64 ((wrapF .u64 (v65 * 1000000000)) + v67)).tdiv (wrapF .u64 ((wrapF .u64 (gt v14 (wrapF .i64 ((b.length : Int) - 1)))) + 1)))))] [.own (q_23.flatMap (iC .u32))] <| .seq ?_
     obtain ⟨v71, hc72, v73, hc74, hr⟩ := bd2 hr
     refine .gn fine (ca1 (ok0 (fiducialref01_scaled_ok n v14 (wrapF .u64 ((wrapF .u64 ((wrapF .u64 (v65 * 1000000000)) + v67)).tdiv (wrapF .u64 ((wrapF .u64 (gt v14 (wrapF .i64 ((b.length : Int) - 1)))) + 1)))) v71 hc72)) (ca3 (ok0 (fiducialref01_minus_ok n v63 v71 v73 hc74)))) <| .mu 3 <| .ca cf0 <| .ca (cfF cf0) <| .mu 1 <| .done <| .n2 130 [(0, sU32 v12), (1, sU32 v14), (6, aI64 (b.length : Int)), (9, aU64 (wrapF .u64 ((1000000000 : Int).tdiv (wrapF .u64 ((wrapF .u64 (gt b (wrapF .i64 ((b.length : Int) - 1)))) + 1))))), (10, sU32 v73), (11, .hs 0 0 q_23.length 1), (12, aI64 i_24), (13, aU64 (wrapF .u64 ((wrapF .u64 ((wrapF .u64 (v65 * 1000000000)) + v67)).tdiv (wrapF .u64 ((wrapF .u64 (gt v14 (wrapF .i64 ((b.length : Int) - 1)))) + 1)))))] [.own (q_23.flatMap (iC .u32))] <| .seq <| .block ?_
     replace hr := bd hr; obtain ⟨o90, hL91, hr⟩ := hr
     refine .loopO (σ := fun z0 => match z0 with | (rest_75, guess_76) => ⟨mkS 130 0 [(0, sU32 v12), (1, sU32 v14), (6, aI64 (b.length : Int)), (9, aU64 (wrapF .u64 ((1000000000 : Int).tdiv (wrapF .u64 ((wrapF .u64 (gt b (wrapF .i64 ((b.length : Int) - 1)))) + 1))))), (10, sU32 rest_75), (11, .hs 0 0 q_23.length 1), (12, aI64 i_24), (13, aU64 guess_76)], [.own (q_23.flatMap (iC .u32))]⟩) (Q := fun x st' => match (generalizing := false) o90 with | (rest_82, guess_83) => x = .exit 2 ∧ Wk 0 st' ⟨mkS 130 0 [(0, sU32 v12), (1, sU32 v14), (6, aI64 (b.length : Int)), (9, aU64 (wrapF .u64 ((1000000000 : Int).tdiv (wrapF .u64 ((wrapF .u64 (gt b (wrapF .i64 ((b.length : Int) - 1)))) + 1))))), (10, sU32 rest_82), (11, .hs 0 0 q_23.length 1), (12, aI64 i_24), (13, aU64 guess_83)], [.own (q_23.flatMap (iC .u32))]⟩) hL91 ((Wk.gc [0, 1, 6, 9, 10, 11, 12, 13] [(0, false)] rfl (pKo (iC .u32) (iC_pure _) q_23 trivial)).to (by kernel_rfl)) ?_ ?_
     ·clear hr
      rintro m ⟨rest_75, guess_76⟩ hr
      show CQ _ _ _ _ _ ⟨_, _⟩
      refine .seq <| .seq ?_
      obtain ⟨v85, hc86, hr⟩ := bd hr
      refine .g1 fine (ok0 (fiducialref01_size_ok n rest_75 v14 v85 hc86)) <| .mu 2 <| .ca cf0 <| .mu 1 <| .done <| .n2 130 [(0, sU32 v12), (1, sU32 v14), (6, aI64 (b.length : Int)), (9, aU64 (wrapF .u64 ((1000000000 : Int).tdiv (wrapF .u64 ((wrapF .u64 (gt b (wrapF .i64 ((b.length : Int) - 1)))) + 1))))), (10, sU32 rest_75), (11, .hs 0 0 q_23.length 1), (12, aI64 i_24), (13, aU64 guess_76), (109, aB (decide (v85 ≥ 0)))] [.own (q_23.flatMap (iC .u32))] ?_
      refine .cd hr (fun hb87 hr => ?_) (fun hb87 hr => ?_)
      ·refine .skip <| .block <| .seq ?_
       obtain ⟨v88, hc89, hr⟩ := bd hr
       refine .g1 fine (ok0 (fiducialref01_minus_ok n rest_75 v14 v88 hc89)) <| .mu 2 <| .ca cf0 <| .mu 1 <| .done <| .n2 130 [(0, sU32 v12), (1, sU32 v14), (6, aI64 (b.length : Int)), (9, aU64 (wrapF .u64 ((1000000000 : Int).tdiv (wrapF .u64 ((wrapF .u64 (gt b (wrapF .i64 ((b.length : Int) - 1)))) + 1))))), (10, sU32 v88), (11, .hs 0 0 q_23.length 1), (12, aI64 i_24), (13, aU64 guess_76)] [.own (q_23.flatMap (iC .u32))] <| .ru fine <| .pop ?_
       exact loopF_back (v88, wrapF .u64 (guess_76 + 1)) hr ((Wk.gc [0, 1, 6, 9, 10, 11, 12, 13] [(0, false)] rfl (pKo (iC .u32) (iC_pure _) q_23 trivial)).to (by kernel_rfl))
      ·refine .leave rfl ?_
       obtain rfl := Option.some.inj hr
       exact ⟨rfl, ((Wk.gc [0, 1, 6, 9, 10, 11, 12, 13] [(0, false)] rfl (pKo (iC .u32) (iC_pure _) q_23 trivial)).to (by kernel_rfl))⟩
     ·rcases o90 with ⟨rest_82, guess_83⟩
      rintro x st' hq92
      clear hL91
      obtain ⟨rfl, hq92⟩ := hq92
      refine CQ_exit _ rfl <| .wk hq92 ?_
      obtain ⟨hg93, hr⟩ := gd hr
      refine .r0 fine <| .mu 4 <| .p0 (v := .hp 0 (0 + i_24.toNat * 1)) (Eq.trans (b := ORes.ofP (guardV (inR i_24 q_23.length) (.hp 0 (0 + i_24.toNat * 1)))) (by kernel_rfl) (ofP_guard hg93)) <| .e0 (v := .unk) (ws := [(0, .own ((q_23.set i_24.toNat (wrapF .u32 guess_83)).flatMap (iC .u32)))]) (Eq.trans (b := stO (decide ((0 + i_24.toNat * 1) + 1 ≤ (q_23.flatMap (iC .u32)).length) && true) [(0, .own (setCells (q_23.flatMap (iC .u32)) (0 + i_24.toNat * 1) [aU32 (wrapF .u32 guess_83)]))]) (by kernel_rfl) (stO_t (and_t (flat_fits (iC_len _) (inR_lt hg93) (Nat.le_of_ble_eq_true rfl) (by omega : 0 + i_24.toNat * 1 = i_24.toNat * 1 + 0))) (congrArg Blk.own (flat_set (iC_len _) (inR_lt hg93) (Nat.le_of_ble_eq_true rfl) (by omega : 0 + i_24.toNat * 1 = i_24.toNat * 1 + 0) (by kernel_rfl))))) <| .done <| .pop <| .ru fine ?_
      exact loopF_back (rest_82, q_23.set i_24.toNat (wrapF .u32 guess_83), wrapF .i64 (i_24 - 1)) hr ((Wk.relen 11 (b := 0) (es := 1) (len := q_23.length) (q_23.set i_24.toNat (wrapF .u32 guess_83)).length (by kernel_rfl) (Eq.symm (List.length_set.trans rfl))).trans ((Wk.gc [0, 1, 6, 9, 10, 11, 12] [(0, false)] rfl (pKo (iC .u32) (iC_pure _) (q_23.set i_24.toNat (wrapF .u32 guess_83)) trivial)).to (by kernel_rfl)))
    ·refine .leave rfl ?_
     obtain rfl := Option.some.inj hr
     exact ⟨rfl, ((Wk.gc [9, 10, 11] [(0, false)] rfl (pKo (iC .u32) (iC_pure _) q_23 trivial)).to (by kernel_rfl))⟩
   ·rcases o94 with ⟨rest_58, q_59⟩
    rintro x st' hq96
    clear hL95
    obtain ⟨rfl, hq96⟩ := hq96
    refine CQ_exit _ rfl <| .wk hq96 <| .seq ?_
    obtain ⟨v97, hc98, hr⟩ := bd hr
    refine .g1 fine (ok0 (fiducialref01_short_ok n rest_58 (wrapF .u64 ((1000000000 : Int).tdiv (wrapF .u64 ((wrapF .u64 (gt b (wrapF .i64 ((b.length : Int) - 1)))) + 1)))) v97 hc98)) <| .mu 2 <| .ca cf0 <| .mu 5 <| .done <| .n2 130 [(11, .hs 0 0 q_59.length 1), (14, sU32 v97.1)] [.own (q_59.flatMap (iC .u32))] <| .seq ?_
    obtain ⟨v99, hc100, hr⟩ := bd hr
    refine .g1 fine (callOk_ref (args := [aB false, .hs 0 0 q_59.length 1]) (l := [0]) (SnL.cons (Sn.pure rfl) (SnL.cons (Sn.hs rfl (.inl rfl) (SnC.pure (ids_flat (iC_pure _) _)) (fun h => flat_nil0 h)) SnL.nil)) (fiducialref01_made_ok n false q_59 v99 hc100)) <| .mu 1 <| .ca cf0 <| .mu 4 <| .done <| .ret ?_
    obtain rfl := Option.some.inj hr
    exact FinQ.ret (vs := [sU32 v99.Groups, sU32 v97.1]) (by kernel_rfl) (Sn.tup (SnL.cons (Sn.pure rfl) (SnL.cons (Sn.pure rfl) SnL.nil)))

theorem fiducialref01_pair_inj {a : List Int} {a_ : List Int} (h : ([slT (iC .u32) a] : List AV) = [slT (iC .u32) a_]) : a = a_ := by
 simp only [List.cons.injEq, AV.agg.injEq, AV.at.injEq, Value.int.injEq, Value.bool.injEq, AV.fn.injEq, AV.pp.injEq, true_and, and_true, slT_inj_int] at h
 simp_all
theorem fiducialref01_pair_cg (n : Nat) {a : List Int} {a_ : List Int} (h : ([slT (iC .u32) a] : List AV) = [slT (iC .u32) a_]) : fiducialref01_pair n a = fiducialref01_pair n a_ := by
 obtain rfl := fiducialref01_pair_inj h
 rfl
theorem fiducialref01_pair_ok (n : Nat) (a : List Int) (r : Int) (hr : fiducialref01_pair n a = some r) : FnOk Tryz.prog 113 [sU32 a] (aU64 r) := by
 unfold fiducialref01_pair at hr
 refine FnOk.bd fine Tryz.func113 [.tmp 2] ?_
 unfold Tryz.f113
 simp only [Option.getD_some]
 refine .seq <| .r3 fine 9 [(0, sU32 a)] <| .seq ?_
 obtain ⟨v1, hc2, v3, hc4, hr⟩ := bd2 hr
 refine .gn fine (ca1 (ok0 (fiducialref01_group_ok n a 1 v1 hc2)) (ca3 (ok0 (fiducialref01_group_ok n a 0 v3 hc4)))) <| .mu 1 <| .ca cf0 <| .mu 2 <| .ca (cfA (fun h => by rw [sv hc4 hc2 (fiducialref01_group_cg n h)]) cf0) <| .mu 2 <| .done <| .ret ?_
 obtain rfl := Option.some.inj hr
 exact FinQ.r1 [aU64 (wrapF .u64 ((wrapF .u64 (v1 * 1000000000)) + v3))]

theorem fiducialref01_Gcd_ok (n : Nat) (x' : api_Int) (y : api_Int) (r : api_Int) (hr : fiducialref01_Gcd n x' y = some r) : FnOk Tryz.prog 89 [.agg (api_Int.c x'), .agg (api_Int.c y)] (.agg (api_Int.c r)) := by
 unfold fiducialref01_Gcd at hr
 refine FnOk.bd fine Tryz.func89 [.cell 4 38] ?_
 unfold Tryz.f89
 simp only [Option.getD_some]
 refine .seq <| .r2 fine 61 [(2, .hp 0 0), (3, .hp 1 0), (4, .hp 2 0)] [.own (api_Int.c x'), .own (api_Int.c y), .own [aB false, nS]] <| .seq ?_
 obtain ⟨v1, hc2, v3, hc4, hr⟩ := bd2 hr
 refine .tn fine (ca1 (ok0 (fiducialref01_Value_ok n x' v1 hc2)) (ca3 (ok0 (fiducialref01_Value_ok n y v3 hc4)))) <| .mu 1 <| .ca cf0 <| .mu 2 <| .ca (cfA (fun h => by rw [sv hc4 hc2 (fiducialref01_Value_cg n h)]) cf0) <| .mu 3 ?_
 refine .done ⟨by kernel_rfl, ?_⟩
 refine .n2 61 [(4, .hp 2 0), (5, sU32 v1.Groups), (6, sU32 v3.Groups)] [.own (api_Int.c x'), .own (api_Int.c y), .own [aB false, nS]] <| .seq <| .block ?_
 replace hr := bd hr; obtain ⟨o24, hL25, hr⟩ := hr
 refine .loopO (σ := fun z0 => match z0 with | (a_5, b_6) => ⟨mkS 61 0 [(4, .hp 0 0), (5, sU32 a_5), (6, sU32 b_6)], [.own [aB false, nS]]⟩) (Q := fun x st' => match (generalizing := false) o24 with | (a_14, b_15) => x = .exit 0 ∧ Wk 0 st' ⟨mkS 61 0 [(4, .hp 0 0), (5, sU32 a_14), (6, sU32 b_15)], [.own [aB false, nS]]⟩) hL25 ((Wk.gc [4, 5, 6] [(2, true)] rfl trivial).to (by kernel_rfl)) ?_ ?_
 ·clear hr
  rintro m ⟨a_5, b_6⟩ hr
  show CQ _ _ _ _ _ ⟨_, _⟩
  refine .seq <| .seq ?_
  rcases Bool.eq_false_or_eq_true (decide ((b_6.length : Int) > 0)) with hb17 | hb17
  ·replace hr := cd_t hb17 hr
   rcases Bool.eq_false_or_eq_true (decide ((a_5.length : Int) > 2)) with hb18 | hb18
   ·replace hr := cd_t hb18 hr
    refine .r0 fine <| .mu 2 <| .p0 (v := aB true) (Eq.trans (b := some (.pure (aB (decide ((b_6.length : Int) > 0))))) (by kernel_rfl) (by rw [hb17])) <| .mu 3 <| .pure (v := aB true) (by kernel_rfl) (Eq.trans (b := some (.pure (aB (decide ((a_5.length : Int) > 2))))) (by kernel_rfl) (by rw [hb18])) <| .mu 6 <| .done <| .n2 61 [(4, .hp 0 0), (5, sU32 a_5), (6, sU32 b_6), (29, aB true)] [.own [aB false, nS]] <| .cT (by kernel_rfl) <| .skip <| .block <| .seq ?_
    obtain ⟨v19, hc20, hr⟩ := bd hr
    refine .g1 fine (ok0 (fiducialref01_parts_ok n a_5 b_6 v19 hc20)) <| .mu 2 <| .ca cf0 <| .mu 5 <| .done <| .n2 61 [(4, .hp 0 0), (6, sU32 b_6), (8, sU32 v19.2)] [.own [aB false, nS]] <| .ru fine <| .pop ?_
    exact loopF_back (b_6, v19.2) hr ((Wk.gc [4, 5, 6] [(0, true)] rfl trivial).to (by kernel_rfl))
   ·replace hr := cd_f hb18 hr
    refine .r0 fine <| .mu 2 <| .p0 (v := aB true) (Eq.trans (b := some (.pure (aB (decide ((b_6.length : Int) > 0))))) (by kernel_rfl) (by rw [hb17])) <| .mu 3 <| .pure (v := aB false) (by kernel_rfl) (Eq.trans (b := some (.pure (aB (decide ((a_5.length : Int) > 2))))) (by kernel_rfl) (by rw [hb18])) <| .mu 6 <| .done <| .n2 61 [(4, .hp 0 0), (5, sU32 a_5), (6, sU32 b_6), (29, aB (decide ((b_6.length : Int) > 2)))] [.own [aB false, nS]] ?_
    refine .cd hr (fun hb21 hr => ?_) (fun hb21 hr => ?_)
    ·refine .skip <| .block <| .seq ?_
     obtain ⟨v22, hc23, hr⟩ := bd hr
     refine .g1 fine (ok0 (fiducialref01_parts_ok n a_5 b_6 v22 hc23)) <| .mu 2 <| .ca cf0 <| .mu 5 <| .done <| .n2 61 [(4, .hp 0 0), (6, sU32 b_6), (8, sU32 v22.2)] [.own [aB false, nS]] <| .ru fine <| .pop ?_
     exact loopF_back (b_6, v22.2) hr ((Wk.gc [4, 5, 6] [(0, true)] rfl trivial).to (by kernel_rfl))
    ·refine .leave rfl ?_
     obtain rfl := Option.some.inj hr
     exact ⟨rfl, ((Wk.gc [4, 5, 6] [(0, true)] rfl trivial).to (by kernel_rfl))⟩
  ·replace hr := cd_f hb17 hr
   refine .r0 fine <| .mu 2 <| .p0 (v := aB false) (Eq.trans (b := some (.pure (aB (decide ((b_6.length : Int) > 0))))) (by kernel_rfl) (by rw [hb17])) <| .mu 10 <| .done <| .n2 61 [(4, .hp 0 0), (5, sU32 a_5), (6, sU32 b_6), (29, aB false)] [.own [aB false, nS]] <| .cF (by kernel_rfl) <| .leave rfl ?_
   obtain rfl := Option.some.inj hr
   exact ⟨rfl, ((Wk.gc [4, 5, 6] [(0, true)] rfl trivial).to (by kernel_rfl))⟩
 ·rcases o24 with ⟨a_14, b_15⟩
  rintro x st' hq26
  clear hL25
  obtain ⟨rfl, hq26⟩ := hq26
  refine CQ_exit _ rfl <| .wk hq26 <| .seq <| .seq <| .r3 fine 61 [(4, .hp 0 0), (5, sU32 a_14), (6, sU32 b_15), (40, aB (((b_15.length : Int) : Int) == 0))] ?_
  refine .cd hr (fun hb27 hr => ?_) (fun hb27 hr => ?_)
  ·refine .seq ?_
   obtain ⟨v28, hc29, hr⟩ := bd hr
   refine .g1 fine (ok0 (fiducialref01_made_ok n false a_14 v28 hc29)) <| .mu 1 <| .ca cf0 <| .mu 1 <| .done <| .n2 61 [(4, .hp 0 0)] [.own (api_Int.c v28)] <| .ret ?_
   obtain rfl := Option.some.inj hr
   exact FinQ.r1 [.agg (api_Int.c v28)]
  ·refine .skip <| .seq ?_
   obtain ⟨v30, hc31, v32, hc33, hr⟩ := bd2 hr
   refine .gn fine (ca1 (ok0 (fiducialref01_pair_ok n a_14 v30 hc31)) (ca3 (ok0 (fiducialref01_pair_ok n b_15 v32 hc33)))) <| .mu 1 <| .ca cf0 <| .mu 1 <| .ca (cfA (fun h => by rw [sv hc33 hc31 (fiducialref01_pair_cg n h)]) cf0) <| .mu 2 <| .done <| .n2 61 [(4, .hp 0 0), (9, aU64 v30), (10, aU64 v32)] [.own [aB false, nS]] <| .seq <| .block ?_
   replace hr := bd hr; obtain ⟨u_38, hL43, hr⟩ := hr
   refine .loopO (σ := fun z0 => match z0 with | (u_34, v_35) => ⟨mkS 61 0 [(4, .hp 0 0), (9, aU64 u_34), (10, aU64 v_35)], [.own [aB false, nS]]⟩) (Q := fun x st' => x = .exit 2 ∧ Wk 0 st' ⟨mkS 61 0 [(4, .hp 0 0), (9, aU64 u_38)], [.own [aB false, nS]]⟩) hL43 ((Wk.gc [4, 9, 10] [(0, true)] rfl trivial).to (by kernel_rfl)) ?_ ?_
   ·clear hr
    rintro m ⟨u_34, v_35⟩ hr
    show CQ _ _ _ _ _ ⟨_, _⟩
    refine .seq <| .seq <| .r3 fine 61 [(4, .hp 0 0), (9, aU64 u_34), (10, aU64 v_35), (48, aB (decide (v_35 > 0)))] ?_
    refine .cd hr (fun hb40 hr => ?_) (fun hb40 hr => ?_)
    ·refine .skip <| .block ?_
     obtain ⟨hg41, hr⟩ := gd hr
     refine .regionT fine callOf_nil <| .mu 3 <| .pure (v := aU64 (u_34.tmod v_35)) (by kernel_rfl) (op_rem (x := u_34) (y := v_35) (by kernel_rfl) (by kernel_rfl) hg41) (by kernel_rfl) <| .mu 2 ?_
     refine .done ⟨by kernel_rfl, ?_⟩
     refine .pop ?_
     exact loopF_back (v_35, u_34.tmod v_35) hr ((Wk.gc [4, 9, 10] [(0, true)] rfl trivial).to (by kernel_rfl))
    ·refine .leave rfl ?_
     obtain rfl := Option.some.inj hr
     exact ⟨rfl, ((Wk.gc [4, 9] [(0, true)] rfl trivial).to (by kernel_rfl))⟩
   ·rintro x st' hq44
    clear hL43
    obtain ⟨rfl, hq44⟩ := hq44
    refine CQ_exit _ rfl <| .wk hq44 <| .seq ?_
    obtain ⟨v45, hc46, hr⟩ := bd hr
    refine .gn fine (ca4 [.own [aB false, nS], .own [aU32 (wrapF .u32 (u_38.tmod 1000000000)), aU32 (wrapF .u32 (wrapF .u64 (u_38.tdiv 1000000000)))]] (callOk_ref (args := [aB false, .hs 1 0 2 1]) (l := [1]) (SnL.cons (Sn.pure rfl) (SnL.cons (Sn.hs rfl (.inl rfl) (SnC.cons (Sn.pure rfl) (SnC.cons (Sn.pure rfl) SnC.nil)) (fun h => nomatch h)) SnL.nil)) (fiducialref01_made_ok n false [(wrapF .u32 (u_38.tmod 1000000000)), (wrapF .u32 (wrapF .u64 (u_38.tdiv 1000000000)))] v45 hc46))) <| .mu 7 <| .ca cf0 <| .mu 1 <| .done <| .n2 61 [(4, .hp 0 0)] [.own (api_Int.c v45), .fix [aU32 (wrapF .u32 (u_38.tmod 1000000000)), aU32 (wrapF .u32 (wrapF .u64 (u_38.tdiv 1000000000)))]] <| .ret ?_
    obtain rfl := Option.some.inj hr
    exact FinQ.r1 [.agg (api_Int.c v45)]

theorem fiducialref01_Of_ok (n : Nat) (n' : Int) (r : api_Int) (hr : fiducialref01_Of n n' = some r) : FnOk Tryz.prog 105 [aI64 n'] (.agg (api_Int.c r)) := by
 unfold fiducialref01_Of at hr
 refine FnOk.bd fine Tryz.func105 [.cell 2 38] ?_
 unfold Tryz.f105
 simp only [Option.getD_some]
 refine .seq <| .r2 fine 29 [(0, aI64 n'), (2, .hp 0 0)] [.own [aB false, nS]] <| .seq <| .r3 fine 29 [(0, aI64 n'), (2, .hp 0 0), (3, aU64 (wrapF .u64 n'))] <| .seq <| .seq <| .r3 fine 29 [(0, aI64 n'), (2, .hp 0 0), (3, aU64 (wrapF .u64 n')), (8, aB (decide (n' < 0)))] ?_
 refine .cd hr (fun hb1 hr => ?_) (fun hb1 hr => ?_)
 ·refine .r0 fine <| .mu 2 <| .p0 (v := aI64 (wrapF .i64 (0 - (wrapF .i64 (n' + 1))))) (Eq.trans (b := some (.pure (aI64 (IntKind.wrap .i64 (0 - (wrapF .i64 (n' + 1))))))) (by kernel_rfl) wrap_at) <| .mu 3 <| .done <| .n2 29 [(0, aI64 n'), (2, .hp 0 0), (3, aU64 (wrapF .u64 ((wrapF .u64 (wrapF .i64 (0 - (wrapF .i64 (n' + 1))))) + 1)))] [.own [aB false, nS]] <| .seq <| .r2 fine 29 [(0, aI64 n'), (2, .hp 0 0), (3, aU64 (wrapF .u64 ((wrapF .u64 (wrapF .i64 (0 - (wrapF .i64 (n' + 1))))) + 1))), (4, .hs 1 0 0 1)] [.own [aB false, nS], .own []] <| .seq <| .block ?_
  replace hr := bd hr; obtain ⟨l_7, hL13, hr⟩ := hr
  refine .loopO (σ := fun z0 => match z0 with | (u_2, l_3) => ⟨mkS 29 0 [(0, aI64 n'), (2, .hp 0 0), (3, aU64 u_2), (4, .hs 1 0 l_3.length 1)], [.own [aB false, nS], .own (l_3.flatMap (iC .u32))]⟩) (Q := fun x st' => x = .exit 0 ∧ Wk 0 st' ⟨mkS 29 0 [(0, aI64 n'), (2, .hp 0 0), (4, .hs 1 0 l_7.length 1)], [.own [aB false, nS], .own (l_7.flatMap (iC .u32))]⟩) hL13 ((Wk.gc [0, 2, 3, 4] [(0, true), (1, false)] rfl (pKt (pKc trivial))).to (by kernel_rfl)) ?_ ?_
  ·clear hr
   rintro m ⟨u_2, l_3⟩ hr
   show CQ _ _ _ _ _ ⟨_, _⟩
   refine .seq <| .seq <| .r3 fine 29 [(0, aI64 n'), (2, .hp 0 0), (3, aU64 u_2), (4, .hs 1 0 l_3.length 1), (16, aB (decide (u_2 > 0)))] ?_
   refine .cd hr (fun hb9 hr => ?_) (fun hb9 hr => ?_)
   ·refine .skip <| .block <| .seq ?_
    obtain ⟨hg10, hg11, hr⟩ := gd2 hr
    refine .r0 fine <| .mu 5 <| .e0 (v := .hs 3 0 (l_3 ++ [wrapF .u32 (u_2.tmod 1000000000)]).length 1) (ws := [(1, .dead), (3, .own ((l_3 ++ [wrapF .u32 (u_2.tmod 1000000000)]).flatMap (iC .u32)))]) (Eq.trans (b := guardO (decide (0 + l_3.length * 1 ≤ (l_3.flatMap (iC .u32)).length) && decide ((l_3.length + 1) * 4 ≤ 140737488355328) && decide (l_3.length + 1 ≤ 4611686018427387904)) (some (.eff (.hs 3 0 (l_3.length + 1) 1) [(1, .dead), (3, .own (((l_3.flatMap (iC .u32)).drop 0).take (l_3.length * 1) ++ [aU32 (wrapF .u32 (u_2.tmod 1000000000))]))]))) (by kernel_rfl) (app_own (l := l_3) (xs := [wrapF .u32 (u_2.tmod 1000000000)]) (iC_len _) rfl rfl (by kernel_rfl) hg10 hg11)) <| .mu 1 <| .done <| .n2 29 [(0, aI64 n'), (2, .hp 0 0), (3, aU64 u_2), (4, .hs 3 0 (l_3 ++ [wrapF .u32 (u_2.tmod 1000000000)]).length 1)] [.own [aB false, nS], .dead, .own [aU32 (wrapF .u32 (u_2.tmod 1000000000))], .own ((l_3 ++ [wrapF .u32 (u_2.tmod 1000000000)]).flatMap (iC .u32))] <| .ru fine <| .pop ?_
    exact loopF_back (wrapF .u64 (u_2.tdiv 1000000000), l_3 ++ [wrapF .u32 (u_2.tmod 1000000000)]) hr ((Wk.gc [0, 2, 3, 4] [(0, true), (3, false)] rfl (pKt (pKo (iC .u32) (iC_pure _) (l_3 ++ [wrapF .u32 (u_2.tmod 1000000000)]) trivial))).to (by kernel_rfl))
   ·refine .leave rfl ?_
    obtain rfl := Option.some.inj hr
    exact ⟨rfl, ((Wk.gc [0, 2, 4] [(0, true), (1, false)] rfl (pKt (pKo (iC .u32) (iC_pure _) l_3 trivial))).to (by kernel_rfl))⟩
  ·rintro x st' hq14
   clear hL13
   obtain ⟨rfl, hq14⟩ := hq14
   refine CQ_exit _ rfl <| .wk hq14 <| .seq ?_
   obtain ⟨v15, hc16, hr⟩ := bd hr
   refine .g1 fine (callOk_ref (args := [aB true, .hs 1 0 l_7.length 1]) (l := [1]) (SnL.cons (Sn.pure rfl) (SnL.cons (Sn.hs rfl (.inl rfl) (SnC.pure (ids_flat (iC_pure _) _)) (fun h => flat_nil0 h)) SnL.nil)) (fiducialref01_made_ok n true l_7 v15 hc16)) <| .mu 1 <| .p0 (v := aB true) (Eq.trans (b := some (.pure (aB (decide (n' < 0))))) (by kernel_rfl) (by rw [hb1])) <| .mu 1 <| .ca cf0 <| .mu 1 <| .done <| .n2 29 [(2, .hp 0 0)] [.own (api_Int.c v15), .fix (l_7.flatMap (iC .u32))] <| .ret ?_
   obtain rfl := Option.some.inj hr
   exact FinQ.r1 [.agg (api_Int.c v15)]
 ·refine .skip <| .seq <| .r2 fine 29 [(0, aI64 n'), (2, .hp 0 0), (3, aU64 (wrapF .u64 n')), (4, .hs 1 0 0 1)] [.own [aB false, nS], .own []] <| .seq <| .block ?_
  replace hr := bd hr; obtain ⟨l_22, hL28, hr⟩ := hr
  refine .loopO (σ := fun z0 => match z0 with | (u_17, l_18) => ⟨mkS 29 0 [(0, aI64 n'), (2, .hp 0 0), (3, aU64 u_17), (4, .hs 1 0 l_18.length 1)], [.own [aB false, nS], .own (l_18.flatMap (iC .u32))]⟩) (Q := fun x st' => x = .exit 0 ∧ Wk 0 st' ⟨mkS 29 0 [(0, aI64 n'), (2, .hp 0 0), (4, .hs 1 0 l_22.length 1)], [.own [aB false, nS], .own (l_22.flatMap (iC .u32))]⟩) hL28 ((Wk.gc [0, 2, 3, 4] [(0, true), (1, false)] rfl (pKt (pKc trivial))).to (by kernel_rfl)) ?_ ?_
  ·clear hr
   rintro m ⟨u_17, l_18⟩ hr
   show CQ _ _ _ _ _ ⟨_, _⟩
   refine .seq <| .seq <| .r3 fine 29 [(0, aI64 n'), (2, .hp 0 0), (3, aU64 u_17), (4, .hs 1 0 l_18.length 1), (16, aB (decide (u_17 > 0)))] ?_
   refine .cd hr (fun hb24 hr => ?_) (fun hb24 hr => ?_)
   ·refine .skip <| .block <| .seq ?_
    obtain ⟨hg25, hg26, hr⟩ := gd2 hr
    refine .r0 fine <| .mu 5 <| .e0 (v := .hs 3 0 (l_18 ++ [wrapF .u32 (u_17.tmod 1000000000)]).length 1) (ws := [(1, .dead), (3, .own ((l_18 ++ [wrapF .u32 (u_17.tmod 1000000000)]).flatMap (iC .u32)))]) (Eq.trans (b := guardO (decide (0 + l_18.length * 1 ≤ (l_18.flatMap (iC .u32)).length) && decide ((l_18.length + 1) * 4 ≤ 140737488355328) && decide (l_18.length + 1 ≤ 4611686018427387904)) (some (.eff (.hs 3 0 (l_18.length + 1) 1) [(1, .dead), (3, .own (((l_18.flatMap (iC .u32)).drop 0).take (l_18.length * 1) ++ [aU32 (wrapF .u32 (u_17.tmod 1000000000))]))]))) (by kernel_rfl) (app_own (l := l_18) (xs := [wrapF .u32 (u_17.tmod 1000000000)]) (iC_len _) rfl rfl (by kernel_rfl) hg25 hg26)) <| .mu 1 <| .done <| .n2 29 [(0, aI64 n'), (2, .hp 0 0), (3, aU64 u_17), (4, .hs 3 0 (l_18 ++ [wrapF .u32 (u_17.tmod 1000000000)]).length 1)] [.own [aB false, nS], .dead, .own [aU32 (wrapF .u32 (u_17.tmod 1000000000))], .own ((l_18 ++ [wrapF .u32 (u_17.tmod 1000000000)]).flatMap (iC .u32))] <| .ru fine <| .pop ?_
    exact loopF_back (wrapF .u64 (u_17.tdiv 1000000000), l_18 ++ [wrapF .u32 (u_17.tmod 1000000000)]) hr ((Wk.gc [0, 2, 3, 4] [(0, true), (3, false)] rfl (pKt (pKo (iC .u32) (iC_pure _) (l_18 ++ [wrapF .u32 (u_17.tmod 1000000000)]) trivial))).to (by kernel_rfl))
   ·refine .leave rfl ?_
    obtain rfl := Option.some.inj hr
    exact ⟨rfl, ((Wk.gc [0, 2, 4] [(0, true), (1, false)] rfl (pKt (pKo (iC .u32) (iC_pure _) l_18 trivial))).to (by kernel_rfl))⟩
  ·rintro x st' hq29
   clear hL28
   obtain ⟨rfl, hq29⟩ := hq29
   refine CQ_exit _ rfl <| .wk hq29 <| .seq ?_
   obtain ⟨v30, hc31, hr⟩ := bd hr
   refine .g1 fine (callOk_ref (args := [aB false, .hs 1 0 l_22.length 1]) (l := [1]) (SnL.cons (Sn.pure rfl) (SnL.cons (Sn.hs rfl (.inl rfl) (SnC.pure (ids_flat (iC_pure _) _)) (fun h => flat_nil0 h)) SnL.nil)) (fiducialref01_made_ok n false l_22 v30 hc31)) <| .mu 1 <| .p0 (v := aB false) (Eq.trans (b := some (.pure (aB (decide (n' < 0))))) (by kernel_rfl) (by rw [hb1])) <| .mu 1 <| .ca cf0 <| .mu 1 <| .done <| .n2 29 [(2, .hp 0 0)] [.own (api_Int.c v30), .fix (l_22.flatMap (iC .u32))] <| .ret ?_
   obtain rfl := Option.some.inj hr
   exact FinQ.r1 [.agg (api_Int.c v30)]

theorem fiducialref02_whole_inj {n' : Int} {n'_ : Int} (h : ([.at (.int .i64 n')] : List AV) = [.at (.int .i64 n'_)]) : n' = n'_ := by
 simp only [List.cons.injEq, AV.agg.injEq, AV.at.injEq, Value.int.injEq, Value.bool.injEq, AV.fn.injEq, AV.pp.injEq, true_and, and_true] at h
 simp_all
theorem fiducialref02_whole_cg (n : Nat) {n' : Int} {n'_ : Int} (h : ([.at (.int .i64 n')] : List AV) = [.at (.int .i64 n'_)]) : fiducialref02_whole n n' = fiducialref02_whole n n'_ := by
 obtain rfl := fiducialref02_whole_inj h
 rfl
theorem fiducialref02_whole_ok (n : Nat) (n' : Int) (r : api_Int) (hr : fiducialref02_whole n n' = some r) : FnOk Tryz.prog 82 [aI64 n'] (.agg (api_Int.c r)) := by
 unfold fiducialref02_whole at hr
 refine FnOk.bd fine Tryz.func82 [.cell 2 38] ?_
 unfold Tryz.f82
 simp only [Option.getD_some]
 refine .seq <| .r2 fine 5 [(0, aI64 n'), (2, .hp 0 0)] [.own [aB false, nS]] <| .seq ?_
 obtain ⟨v1, hc2, hr⟩ := bd hr
 refine .g1 fine (ok0 (fiducialref01_Of_ok n n' v1 hc2)) <| .mu 1 <| .ca cf0 <| .mu 1 <| .done <| .n2 5 [(2, .hp 0 0)] [.own (api_Int.c v1)] <| .ret ?_
 obtain rfl := Option.some.inj hr
 exact FinQ.r1 [.agg (api_Int.c v1)]

theorem fiducialref01_Neg_ok (n : Nat) (x' : api_Int) (r : api_Int) (hr : fiducialref01_Neg n x' = some r) : FnOk Tryz.prog 115 [.agg (api_Int.c x')] (.agg (api_Int.c r)) := by
 unfold fiducialref01_Neg at hr
 refine FnOk.bd fine Tryz.func115 [.cell 2 38] ?_
 unfold Tryz.f115
 simp only [Option.getD_some]
 refine .seq <| .r2 fine 11 [(1, .hp 0 0), (2, .hp 1 0)] [.own (api_Int.c x'), .own [aB false, nS]] <| .seq ?_
 obtain ⟨v1, hc2, hr⟩ := bd hr
 refine .g1 fine (ok0 (fiducialref01_Value_ok n x' v1 hc2)) <| .mu 1 <| .ca cf0 <| .mu 1 <| .done <| .n2 11 [(1, .hp 0 0), (2, .hp 1 0)] [.own (api_Int.c v1), .own [aB false, nS]] <| .seq ?_
 obtain ⟨v3, hc4, hr⟩ := bd hr
 refine .g1 fine (ok0 (fiducialref01_made_ok n (!v1.Negative) v1.Groups v3 hc4)) <| .mu 5 <| .ca cf0 <| .mu 1 <| .done <| .n2 11 [(2, .hp 1 0)] [.own (api_Int.c v1), .own (api_Int.c v3)] <| .ret ?_
 obtain rfl := Option.some.inj hr
 exact FinQ.r1 [.agg (api_Int.c v3)]

theorem fiducialref01_plus_ok (n : Nat) (a : List Int) (b : List Int) (r : List Int) (hr : fiducialref01_plus n a b = some r) : FnOk Tryz.prog 138 [sU32 a, sU32 b] (sU32 r) := by
 unfold fiducialref01_plus at hr
 refine FnOk.bd fine Tryz.func138 [.tmp 4] ?_
 unfold Tryz.f138
 simp only [Option.getD_some]
 refine .seq <| .r3 fine 46 [(0, sU32 a), (1, sU32 b)] <| .seq <| .r2 fine 46 [(0, sU32 a), (1, sU32 b), (5, .hs 0 0 0 1)] [.own []] <| .seq <| .r3 fine 46 [(0, sU32 a), (1, sU32 b), (5, .hs 0 0 0 1), (6, aU64 0)] <| .seq <| .seq <| .r3 fine 46 [(0, sU32 a), (1, sU32 b), (5, .hs 0 0 0 1), (6, aU64 0), (7, aI64 0)] <| .block ?_
 replace hr := bd hr; obtain ⟨o35, hL36, hr⟩ := hr
 refine .loopO (σ := fun z0 => match z0 with | (out_1, carry_2, i_3) => ⟨mkS 46 0 [(0, sU32 a), (1, sU32 b), (5, .hs 0 0 out_1.length 1), (6, aU64 carry_2), (7, aI64 i_3)], [.own (out_1.flatMap (iC .u32))]⟩) (Q := fun x st' => match (generalizing := false) o35 with | (out_18, carry_19) => x = .exit 0 ∧ Wk 0 st' ⟨mkS 46 0 [(5, .hs 0 0 out_18.length 1), (6, aU64 carry_19)], [.own (out_18.flatMap (iC .u32))]⟩) hL36 ((Wk.gc [0, 1, 5, 6, 7] [(0, false)] rfl (pKc trivial)).to (by kernel_rfl)) ?_ ?_
 ·clear hr
  rintro m ⟨out_1, carry_2, i_3⟩ hr
  show CQ _ _ _ _ _ ⟨_, _⟩
  refine .seq <| .seq ?_
  rcases Bool.eq_false_or_eq_true (decide (i_3 < (a.length : Int))) with hb21 | hb21
  ·replace hr := cd_t hb21 hr
   refine .r0 fine <| .mu 3 <| .p0 (v := aB true) (Eq.trans (b := some (.pure (aB (decide (i_3 < (a.length : Int)))))) (by kernel_rfl) (by rw [hb21])) <| .mu 6 <| .done <| .n2 46 [(0, sU32 a), (1, sU32 b), (5, .hs 0 0 out_1.length 1), (6, aU64 carry_2), (7, aI64 i_3), (19, aB true)] [.own (out_1.flatMap (iC .u32))] <| .cT (by kernel_rfl) <| .skip <| .seq <| .block <| .seq ?_
   obtain ⟨v22, hc23, v24, hc25, hr⟩ := bd2 hr
   refine .gn fine (ca1 (ok0 (fiducialref01_group_ok n a i_3 v22 hc23)) (ca3 (ok0 (fiducialref01_group_ok n b i_3 v24 hc25)))) <| .mu 2 <| .ca cf0 <| .mu 2 <| .ca (cfA (fun h => by rw [sv hc25 hc23 (fiducialref01_group_cg n h)]) cf0) <| .mu 4 <| .done <| .n2 46 [(0, sU32 a), (1, sU32 b), (5, .hs 0 0 out_1.length 1), (7, aI64 i_3), (8, aU64 (wrapF .u64 ((wrapF .u64 (v22 + v24)) + carry_2)))] [.own (out_1.flatMap (iC .u32))] <| .seq ?_
   obtain ⟨hg26, hg27, hr⟩ := gd2 hr
   refine .r0 fine <| .mu 5 <| .e0 (v := .hs 2 0 (out_1 ++ [wrapF .u32 ((wrapF .u64 ((wrapF .u64 (v22 + v24)) + carry_2)).tmod 1000000000)]).length 1) (ws := [(0, .dead), (2, .own ((out_1 ++ [wrapF .u32 ((wrapF .u64 ((wrapF .u64 (v22 + v24)) + carry_2)).tmod 1000000000)]).flatMap (iC .u32)))]) (Eq.trans (b := guardO (decide (0 + out_1.length * 1 ≤ (out_1.flatMap (iC .u32)).length) && decide ((out_1.length + 1) * 4 ≤ 140737488355328) && decide (out_1.length + 1 ≤ 4611686018427387904)) (some (.eff (.hs 2 0 (out_1.length + 1) 1) [(0, .dead), (2, .own (((out_1.flatMap (iC .u32)).drop 0).take (out_1.length * 1) ++ [aU32 (wrapF .u32 ((wrapF .u64 ((wrapF .u64 (v22 + v24)) + carry_2)).tmod 1000000000))]))]))) (by kernel_rfl) (app_own (l := out_1) (xs := [wrapF .u32 ((wrapF .u64 ((wrapF .u64 (v22 + v24)) + carry_2)).tmod 1000000000)]) (iC_len _) rfl rfl (by kernel_rfl) hg26 hg27)) <| .mu 1 <| .done <| .n2 46 [(0, sU32 a), (1, sU32 b), (5, .hs 2 0 (out_1 ++ [wrapF .u32 ((wrapF .u64 ((wrapF .u64 (v22 + v24)) + carry_2)).tmod 1000000000)]).length 1), (7, aI64 i_3), (8, aU64 (wrapF .u64 ((wrapF .u64 (v22 + v24)) + carry_2)))] [.dead, .own [aU32 (wrapF .u32 ((wrapF .u64 ((wrapF .u64 (v22 + v24)) + carry_2)).tmod 1000000000))], .own ((out_1 ++ [wrapF .u32 ((wrapF .u64 ((wrapF .u64 (v22 + v24)) + carry_2)).tmod 1000000000)]).flatMap (iC .u32))] <| .ru fine <| .pop <| .ru fine ?_
   exact loopF_back (out_1 ++ [wrapF .u32 ((wrapF .u64 ((wrapF .u64 (v22 + v24)) + carry_2)).tmod 1000000000)], wrapF .u64 ((wrapF .u64 ((wrapF .u64 (v22 + v24)) + carry_2)).tdiv 1000000000), wrapF .i64 (i_3 + 1)) hr ((Wk.gc [0, 1, 5, 6, 7] [(2, false)] rfl (pKo (iC .u32) (iC_pure _) (out_1 ++ [wrapF .u32 ((wrapF .u64 ((wrapF .u64 (v22 + v24)) + carry_2)).tmod 1000000000)]) trivial)).to (by kernel_rfl))
  ·replace hr := cd_f hb21 hr
   refine .r0 fine <| .mu 3 <| .p0 (v := aB false) (Eq.trans (b := some (.pure (aB (decide (i_3 < (a.length : Int)))))) (by kernel_rfl) (by rw [hb21])) <| .mu 6 <| .done <| .n2 46 [(0, sU32 a), (1, sU32 b), (5, .hs 0 0 out_1.length 1), (6, aU64 carry_2), (7, aI64 i_3), (19, aB (decide (i_3 < (b.length : Int))))] [.own (out_1.flatMap (iC .u32))] ?_
   refine .cd hr (fun hb28 hr => ?_) (fun hb28 hr => ?_)
   ·refine .skip <| .seq <| .block <| .seq ?_
    obtain ⟨v29, hc30, v31, hc32, hr⟩ := bd2 hr
    refine .gn fine (ca1 (ok0 (fiducialref01_group_ok n a i_3 v29 hc30)) (ca3 (ok0 (fiducialref01_group_ok n b i_3 v31 hc32)))) <| .mu 2 <| .ca cf0 <| .mu 2 <| .ca (cfA (fun h => by rw [sv hc32 hc30 (fiducialref01_group_cg n h)]) cf0) <| .mu 4 <| .done <| .n2 46 [(0, sU32 a), (1, sU32 b), (5, .hs 0 0 out_1.length 1), (7, aI64 i_3), (8, aU64 (wrapF .u64 ((wrapF .u64 (v29 + v31)) + carry_2)))] [.own (out_1.flatMap (iC .u32))] <| .seq ?_
    obtain ⟨hg33, hg34, hr⟩ := gd2 hr
    refine .r0 fine <| .mu 5 <| .e0 (v := .hs 2 0 (out_1 ++ [wrapF .u32 ((wrapF .u64 ((wrapF .u64 (v29 + v31)) + carry_2)).tmod 1000000000)]).length 1) (ws := [(0, .dead), (2, .own ((out_1 ++ [wrapF .u32 ((wrapF .u64 ((wrapF .u64 (v29 + v31)) + carry_2)).tmod 1000000000)]).flatMap (iC .u32)))]) (Eq.trans (b := guardO (decide (0 + out_1.length * 1 ≤ (out_1.flatMap (iC .u32)).length) && decide ((out_1.length + 1) * 4 ≤ 140737488355328) && decide (out_1.length + 1 ≤ 4611686018427387904)) (some (.eff (.hs 2 0 (out_1.length + 1) 1) [(0, .dead), (2, .own (((out_1.flatMap (iC .u32)).drop 0).take (out_1.length * 1) ++ [aU32 (wrapF .u32 ((wrapF .u64 ((wrapF .u64 (v29 + v31)) + carry_2)).tmod 1000000000))]))]))) (by kernel_rfl) (app_own (l := out_1) (xs := [wrapF .u32 ((wrapF .u64 ((wrapF .u64 (v29 + v31)) + carry_2)).tmod 1000000000)]) (iC_len _) rfl rfl (by kernel_rfl) hg33 hg34)) <| .mu 1 <| .done <| .n2 46 [(0, sU32 a), (1, sU32 b), (5, .hs 2 0 (out_1 ++ [wrapF .u32 ((wrapF .u64 ((wrapF .u64 (v29 + v31)) + carry_2)).tmod 1000000000)]).length 1), (7, aI64 i_3), (8, aU64 (wrapF .u64 ((wrapF .u64 (v29 + v31)) + carry_2)))] [.dead, .own [aU32 (wrapF .u32 ((wrapF .u64 ((wrapF .u64 (v29 + v31)) + carry_2)).tmod 1000000000))], .own ((out_1 ++ [wrapF .u32 ((wrapF .u64 ((wrapF .u64 (v29 + v31)) + carry_2)).tmod 1000000000)]).flatMap (iC .u32))] <| .ru fine <| .pop <| .ru fine ?_
    exact loopF_back (out_1 ++ [wrapF .u32 ((wrapF .u64 ((wrapF .u64 (v29 + v31)) + carry_2)).tmod 1000000000)], wrapF .u64 ((wrapF .u64 ((wrapF .u64 (v29 + v31)) + carry_2)).tdiv 1000000000), wrapF .i64 (i_3 + 1)) hr ((Wk.gc [0, 1, 5, 6, 7] [(2, false)] rfl (pKo (iC .u32) (iC_pure _) (out_1 ++ [wrapF .u32 ((wrapF .u64 ((wrapF .u64 (v29 + v31)) + carry_2)).tmod 1000000000)]) trivial)).to (by kernel_rfl))
   ·refine .leave rfl ?_
    obtain rfl := Option.some.inj hr
    exact ⟨rfl, ((Wk.gc [5, 6] [(0, false)] rfl (pKo (iC .u32) (iC_pure _) out_1 trivial)).to (by kernel_rfl))⟩
 ·rcases o35 with ⟨out_18, carry_19⟩
  rintro x st' hq37
  clear hL36
  obtain ⟨rfl, hq37⟩ := hq37
  refine CQ_exit _ rfl <| .wk hq37 <| .seq ?_
  obtain ⟨hg38, hg39, hr⟩ := gd2 hr
  obtain ⟨v40, hc41, hr⟩ := bd hr
  refine .gn fine (ca4 [.dead, .own [aU32 (wrapF .u32 carry_19)], .own ((out_18 ++ [wrapF .u32 carry_19]).flatMap (iC .u32))] (callOk_ref (args := [aB false, .hs 2 0 (out_18 ++ [wrapF .u32 carry_19]).length 1]) (l := [2]) (SnL.cons (Sn.pure rfl) (SnL.cons (Sn.hs rfl (.inl rfl) (SnC.pure (ids_flat (iC_pure _) _)) (fun h => flat_nil0 h)) SnL.nil)) (fiducialref01_made_ok n false (out_18 ++ [wrapF .u32 carry_19]) v40 hc41))) <| .mu 4 <| .e0 (v := .hs 2 0 (out_18 ++ [wrapF .u32 carry_19]).length 1) (ws := [(0, .dead), (2, .own ((out_18 ++ [wrapF .u32 carry_19]).flatMap (iC .u32)))]) (Eq.trans (b := guardO (decide (0 + out_18.length * 1 ≤ (out_18.flatMap (iC .u32)).length) && decide ((out_18.length + 1) * 4 ≤ 140737488355328) && decide (out_18.length + 1 ≤ 4611686018427387904)) (some (.eff (.hs 2 0 (out_18.length + 1) 1) [(0, .dead), (2, .own (((out_18.flatMap (iC .u32)).drop 0).take (out_18.length * 1) ++ [aU32 (wrapF .u32 carry_19)]))]))) (by kernel_rfl) (app_own (l := out_18) (xs := [wrapF .u32 carry_19]) (iC_len _) rfl rfl (by kernel_rfl) hg38 hg39)) <| .ca cf0 <| .mu 2 <| .done <| .ret ?_
  obtain rfl := Option.some.inj hr
  exact FinQ.r1 [sU32 v40.Groups]

theorem fiducialref01_Add_ok (n : Nat) (x' : api_Int) (y : api_Int) (r : api_Int) (hr : fiducialref01_Add n x' y = some r) : FnOk Tryz.prog 114 [.agg (api_Int.c x'), .agg (api_Int.c y)] (.agg (api_Int.c r)) := by
 unfold fiducialref01_Add at hr
 refine FnOk.bd fine Tryz.func114 [.cell 4 38] ?_
 unfold Tryz.f114
 simp only [Option.getD_some]
 refine .seq <| .r2 fine 44 [(2, .hp 0 0), (3, .hp 1 0), (4, .hp 2 0)] [.own (api_Int.c x'), .own (api_Int.c y), .own [aB false, nS]] <| .seq ?_
 obtain ⟨v1, hc2, v3, hc4, hr⟩ := bd2 hr
 refine .tn fine (ca1 (ok0 (fiducialref01_Value_ok n x' v1 hc2)) (ca3 (ok0 (fiducialref01_Value_ok n y v3 hc4)))) <| .mu 1 <| .ca cf0 <| .mu 1 <| .ca (cfA (fun h => by rw [sv hc4 hc2 (fiducialref01_Value_cg n h)]) cf0) <| .mu 2 ?_
 refine .done ⟨by kernel_rfl, ?_⟩
 refine .n2 44 [(2, .hp 0 0), (3, .hp 1 0), (4, .hp 2 0)] [.own (api_Int.c v1), .own (api_Int.c v3), .own [aB false, nS]] <| .seq <| .seq <| .r3 fine 44 [(2, .hp 0 0), (3, .hp 1 0), (4, .hp 2 0), (13, aB (v1.Negative == v3.Negative))] ?_
 refine .cd hr (fun hb5 hr => ?_) (fun hb5 hr => ?_)
 ·refine .seq ?_
  obtain ⟨v6, hc7, v8, hc9, hr⟩ := bd2 hr
  refine .tn fine (ca1 (ok0 (fiducialref01_plus_ok n v1.Groups v3.Groups v6 hc7)) (ca3 (ok0 (fiducialref01_made_ok n v1.Negative v6 v8 hc9)))) <| .mu 6 <| .ca cf0 <| .ca (cfF cf0) <| .mu 1 ?_
  refine .done ⟨by kernel_rfl, ?_⟩
  refine .n2 44 [(4, .hp 2 0)] [.own (api_Int.c v1), .own (api_Int.c v3), .own (api_Int.c v8)] <| .ret ?_
  obtain rfl := Option.some.inj hr
  exact FinQ.r1 [.agg (api_Int.c v8)]
 ·refine .skip <| .seq <| .seq ?_
  obtain ⟨v10, hc11, hr⟩ := bd hr
  refine .g1 fine (ok0 (fiducialref01_size_ok n v1.Groups v3.Groups v10 hc11)) <| .mu 4 <| .ca cf0 <| .mu 1 <| .done <| .n2 44 [(2, .hp 0 0), (3, .hp 1 0), (4, .hp 2 0), (27, aB (decide (v10 ≥ 0)))] [.own (api_Int.c v1), .own (api_Int.c v3), .own [aB false, nS]] ?_
  refine .cd hr (fun hb12 hr => ?_) (fun hb12 hr => ?_)
  ·refine .seq ?_
   obtain ⟨v13, hc14, v15, hc16, hr⟩ := bd2 hr
   refine .tn fine (ca1 (ok0 (fiducialref01_minus_ok n v1.Groups v3.Groups v13 hc14)) (ca3 (ok0 (fiducialref01_made_ok n v1.Negative v13 v15 hc16)))) <| .mu 6 <| .ca cf0 <| .ca (cfF cf0) <| .mu 1 ?_
   refine .done ⟨by kernel_rfl, ?_⟩
   refine .n2 44 [(4, .hp 2 0)] [.own (api_Int.c v1), .own (api_Int.c v3), .own (api_Int.c v15)] <| .ret ?_
   obtain rfl := Option.some.inj hr
   exact FinQ.r1 [.agg (api_Int.c v15)]
  ·refine .skip <| .seq ?_
   obtain ⟨v17, hc18, v19, hc20, hr⟩ := bd2 hr
   refine .tn fine (ca1 (ok0 (fiducialref01_minus_ok n v3.Groups v1.Groups v17 hc18)) (ca3 (ok0 (fiducialref01_made_ok n v3.Negative v17 v19 hc20)))) <| .mu 6 <| .ca cf0 <| .ca (cfF cf0) <| .mu 1 ?_
   refine .done ⟨by kernel_rfl, ?_⟩
   refine .n2 44 [(4, .hp 2 0)] [.own (api_Int.c v1), .own (api_Int.c v3), .own (api_Int.c v19)] <| .ret ?_
   obtain rfl := Option.some.inj hr
   exact FinQ.r1 [.agg (api_Int.c v19)]

theorem fiducialref01_Sub_ok (n : Nat) (x' : api_Int) (y : api_Int) (r : api_Int) (hr : fiducialref01_Sub n x' y = some r) : FnOk Tryz.prog 110 [.agg (api_Int.c x'), .agg (api_Int.c y)] (.agg (api_Int.c r)) := by
 unfold fiducialref01_Sub at hr
 refine FnOk.bd fine Tryz.func110 [.cell 4 38] ?_
 unfold Tryz.f110
 simp only [Option.getD_some]
 refine .seq <| .r2 fine 9 [(2, .hp 0 0), (3, .hp 1 0), (4, .hp 2 0)] [.own (api_Int.c x'), .own (api_Int.c y), .own [aB false, nS]] <| .seq ?_
 obtain ⟨v1, hc2, v3, hc4, hr⟩ := bd2 hr
 refine .tn fine (ca1 (ok0 (fiducialref01_Neg_ok n y v1 hc2)) (ca3 (ok0 (fiducialref01_Add_ok n x' v1 v3 hc4)))) <| .mu 2 <| .ca cf0 <| .ca (cfF cf0) <| .mu 1 ?_
 refine .done ⟨by kernel_rfl, ?_⟩
 refine .n2 9 [(4, .hp 2 0)] [.own (api_Int.c x'), .own (api_Int.c y), .own (api_Int.c v3)] <| .ret ?_
 obtain rfl := Option.some.inj hr
 exact FinQ.r1 [.agg (api_Int.c v3)]

theorem fiducialref01_Compare_ok (n : Nat) (x' : api_Int) (y : api_Int) (r : Int) (hr : fiducialref01_Compare n x' y = some r) : FnOk Tryz.prog 88 [.agg (api_Int.c x'), .agg (api_Int.c y)] (aI64 r) := by
 unfold fiducialref01_Compare at hr
 refine FnOk.bd fine Tryz.func88 [.tmp 4] ?_
 unfold Tryz.f88
 simp only [Option.getD_some]
 refine .seq <| .r2 fine 9 [(2, .hp 0 0), (3, .hp 1 0)] [.own (api_Int.c x'), .own (api_Int.c y)] <| .seq ?_
 obtain ⟨v1, hc2, v3, hc4, hr⟩ := bd2 hr
 refine .gn fine (ca1 (ok0 (fiducialref01_Sub_ok n x' y v1 hc2)) (ca3 (ok0 (fiducialref01_Sign_ok n v1 v3 hc4)))) <| .mu 2 <| .ca cf0 <| .ca (cfF cf0) <| .mu 1 <| .done <| .ret ?_
 obtain rfl := Option.some.inj hr
 exact FinQ.r1 [aI64 v3]

theorem fiducialref02_Valid_ok (n : Nat) (x' : api_Rat) (r : Bool) (hr : fiducialref02_Valid n x' = some r) : FnOk Tryz.prog 51 [.agg (api_Rat.c x')] (aB r) := by
 unfold fiducialref02_Valid at hr
 refine FnOk.bd fine Tryz.func51 [.tmp 2] ?_
 unfold Tryz.f51
 simp only [Option.getD_some]
 refine .seq <| .r2 fine 27 [(1, .hp 0 0)] [.own (api_Rat.c x')] <| .seq <| .seq ?_
 obtain ⟨v1, hc2, hr⟩ := bd hr
 rcases Bool.eq_false_or_eq_true (!v1) with hb3 | hb3
 ·replace hr := cd_t hb3 hr
  refine .g1 fine (ok0 (fiducialref01_Valid_ok n x'.Num v1 hc2)) <| .mu 2 <| .ca cf0 <| .p0 (v := aB true) (Eq.trans (b := some (.pure (aB (!v1)))) (by kernel_rfl) (by rw [hb3])) <| .mu 12 <| .done <| .n2 27 [(1, .hp 0 0), (18, aB true)] [.own (api_Rat.c x')] <| .cT (by kernel_rfl) <| .seq <| .ru fine <| .ret ?_
  obtain rfl := Option.some.inj hr
  exact FinQ.r1 [aB false]
 ·replace hr := cd_f hb3 hr
  obtain ⟨v4, hc5, hr⟩ := bd hr
  rcases Bool.eq_false_or_eq_true (!v4) with hb6 | hb6
  ·replace hr := cd_t hb6 hr
   refine .gn fine (ca1 (ok0 (fiducialref01_Valid_ok n x'.Num v1 hc2)) (ca3 (ok0 (fiducialref01_Valid_ok n x'.Den v4 hc5)))) <| .mu 2 <| .ca cf0 <| .p0 (v := aB false) (Eq.trans (b := some (.pure (aB (!v1)))) (by kernel_rfl) (by rw [hb3])) <| .mu 3 <| .ca (cfA (fun h => by rw [sv hc5 hc2 (fiducialref01_Valid_cg n h)]) cf0) <| .pure (v := aB true) (by kernel_rfl) (Eq.trans (b := some (.pure (aB (!v4)))) (by kernel_rfl) (by rw [hb6])) <| .mu 7 <| .done <| .n2 27 [(1, .hp 0 0), (18, aB true)] [.own (api_Rat.c x')] <| .cT (by kernel_rfl) <| .seq <| .ru fine <| .ret ?_
   obtain rfl := Option.some.inj hr
   exact FinQ.r1 [aB false]
  ·replace hr := cd_f hb6 hr
   obtain ⟨v7, hc8, hr⟩ := bd hr
   refine .gn fine (ca1 (ok0 (fiducialref01_Valid_ok n x'.Num v1 hc2)) (ca1 (ok0 (fiducialref01_Valid_ok n x'.Den v4 hc5)) (ca3 (ok0 (fiducialref01_Sign_ok n x'.Den v7 hc8))))) <| .mu 2 <| .ca cf0 <| .p0 (v := aB false) (Eq.trans (b := some (.pure (aB (!v1)))) (by kernel_rfl) (by rw [hb3])) <| .mu 3 <| .ca (cfA (fun h => by rw [sv hc5 hc2 (fiducialref01_Valid_cg n h)]) cf0) <| .pure (v := aB false) (by kernel_rfl) (Eq.trans (b := some (.pure (aB (!v4)))) (by kernel_rfl) (by rw [hb6])) <| .mu 4 <| .ca (cfF (cfF cf0)) <| .mu 2 <| .done <| .n2 27 [(1, .hp 0 0), (18, aB (decide (v7 ≤ 0)))] [.own (api_Rat.c x')] ?_
   refine .cd hr (fun hb9 hr => ?_) (fun hb9 hr => ?_)
   ·refine .seq <| .ru fine <| .ret ?_
    obtain rfl := Option.some.inj hr
    exact FinQ.r1 [aB false]
   ·refine .skip <| .seq ?_
    obtain ⟨v10, hc11, v12, hc13, v14, hc15, hr⟩ := bd3 hr
    refine .gn fine (ca1 (ok0 (fiducialref01_Gcd_ok n x'.Num x'.Den v10 hc11)) (ca1 (ok0 (fiducialref02_whole_ok n 1 v12 hc13)) (ca3 (ok0 (fiducialref01_Compare_ok n v10 v12 v14 hc15))))) <| .mu 4 <| .ca cf0 <| .ca (cfF cf0) <| .ca (cfF (cfF cf0)) <| .mu 2 <| .done <| .ret ?_
    obtain rfl := Option.some.inj hr
    exact FinQ.r1 [aB ((v14 : Int) == 0)]

theorem fiducialref02_Whole_ok (n : Nat) (n' : Int) (r : api_Rat) (hr : fiducialref02_Whole n n' = some r) : FnOk Tryz.prog 57 [aI64 n'] (.agg (api_Rat.c r)) := by
 unfold fiducialref02_Whole at hr
 refine FnOk.bd fine Tryz.func57 [.cell 2 40] ?_
 unfold Tryz.f57
 simp only [Option.getD_some]
 refine .seq <| .r2 fine 7 [(0, aI64 n'), (2, .hp 0 0)] [.own [aB false, nS, aB false, nS]] <| .seq ?_
 obtain ⟨v1, hc2, v3, hc4, hr⟩ := bd2 hr
 refine .gn fine (ca1 (ok0 (fiducialref02_whole_ok n n' v1 hc2)) (ca3 (ok0 (fiducialref02_whole_ok n 1 v3 hc4)))) <| .mu 1 <| .ca cf0 <| .ca (cfA (fun h => by rw [sv hc4 hc2 (fiducialref02_whole_cg n h)]) cf0) <| .mu 2 <| .done <| .n2 7 [(2, .hp 0 0)] [.own [aB v1.Negative, sU32 v1.Groups, aB v3.Negative, sU32 v3.Groups]] <| .ret ?_
 obtain rfl := Option.some.inj hr
 exact FinQ.r1 [.agg [aB v1.Negative, sU32 v1.Groups, aB v3.Negative, sU32 v3.Groups]]

theorem fiducialref02_Value_ok (n : Nat) (x' : api_Rat) (r : api_Rat) (hr : fiducialref02_Value n x' = some r) : FnOk Tryz.prog 86 [.agg (api_Rat.c x')] (.agg (api_Rat.c r)) := by
 unfold fiducialref02_Value at hr
 refine FnOk.bd fine Tryz.func86 [.cell 2 40] ?_
 unfold Tryz.f86
 simp only [Option.getD_some]
 refine .seq <| .r2 fine 7 [(1, .hp 0 0), (2, .hp 1 0)] [.own (api_Rat.c x'), .own [aB false, nS, aB false, nS]] <| .seq <| .seq ?_
 obtain ⟨v1, hc2, hr⟩ := bd hr
 refine .g1 fine (ok0 (fiducialref02_Valid_ok n x' v1 hc2)) <| .mu 1 <| .ca cf0 <| .done <| .n2 7 [(1, .hp 0 0), (2, .hp 1 0), (4, aB v1)] [.own (api_Rat.c x'), .own [aB false, nS, aB false, nS]] ?_
 refine .cd hr (fun hb3 hr => ?_) (fun hb3 hr => ?_)
 ·refine .seq <| .r2 fine 7 [(2, .hp 1 0)] [.own (api_Rat.c x'), .own (api_Rat.c x')] <| .ret ?_
  obtain rfl := Option.some.inj hr
  exact FinQ.r1 [.agg (api_Rat.c x')]
 ·refine .skip <| .seq ?_
  obtain ⟨v4, hc5, hr⟩ := bd hr
  refine .g1 fine (ok0 (fiducialref02_Whole_ok n 0 v4 hc5)) <| .ca cf0 <| .mu 1 <| .done <| .n2 7 [(2, .hp 1 0)] [.own (api_Rat.c x'), .own (api_Rat.c v4)] <| .ret ?_
  obtain rfl := Option.some.inj hr
  exact FinQ.r1 [.agg (api_Rat.c v4)]

theorem fiducialref02_Sign_ok (n : Nat) (x' : api_Rat) (r : Int) (hr : fiducialref02_Sign n x' = some r) : FnOk Tryz.prog 50 [.agg (api_Rat.c x')] (aI64 r) := by
 unfold fiducialref02_Sign at hr
 refine FnOk.bd fine Tryz.func50 [.tmp 2] ?_
 unfold Tryz.f50
 simp only [Option.getD_some]
 refine .seq <| .r2 fine 7 [(1, .hp 0 0)] [.own (api_Rat.c x')] <| .seq ?_
 obtain ⟨v1, hc2, v3, hc4, hr⟩ := bd2 hr
 refine .gn fine (ca1 (ok0 (fiducialref02_Value_ok n x' v1 hc2)) (ca3 (ok0 (fiducialref01_Sign_ok n v1.Num v3 hc4)))) <| .mu 1 <| .ca cf0 <| .mu 1 <| .ca (cfF cf0) <| .mu 1 <| .done <| .ret ?_
 obtain rfl := Option.some.inj hr
 exact FinQ.r1 [aI64 v3]

theorem plan_Verify_ok (n : Nat) (s : api_Survey) (f : api_Flight) (r : Int) (hr : plan_Verify n s f = some r) : FnOk Tryz.prog 42 [.agg (api_Survey.c s), .agg (api_Flight.c f)] (aI64 r) := by
 unfold plan_Verify at hr
 refine FnOk.bd fine Tryz.func42 [.tmp 4] ?_
 unfold Tryz.f42
 simp only [Option.getD_some]
 refine .seq <| .r2 fine 28 [(2, .hp 0 0), (3, .hp 1 0)] [.own (api_Survey.c s), .own (api_Flight.c f)] <| .seq <| .seq ?_
 obtain ⟨v1, hc2, hr⟩ := bd hr
 refine .g1 fine (ok0 (plan_asked_ok n s f s.High true v1 hc2)) <| .mu 4 <| .ca cf0 <| .mu 1 <| .done <| .n2 28 [(2, .hp 0 0), (3, .hp 1 0), (5, aI64 v1)] [.own (api_Survey.c s), .own (api_Flight.c f)] <| .seq <| .r3 fine 28 [(2, .hp 0 0), (3, .hp 1 0), (5, aI64 v1), (14, aB ((v1 : Int) != 0))] ?_
 refine .cd hr (fun hb4 hr => ?_) (fun hb4 hr => ?_)
 ·refine .seq <| .ru fine <| .ret ?_
  obtain rfl := Option.some.inj hr
  exact FinQ.r1 [aI64 v1]
 ·refine .skip <| .seq <| .seq ?_
  obtain ⟨v5, hc6, hr⟩ := bd hr
  refine .g1 fine (ok0 (plan_cover_ok n s f s.High v5 hc6)) <| .mu 4 <| .ca cf0 <| .mu 6 <| .done <| .n2 28 [(2, .hp 0 0), (6, aI64 v5.1)] [.own (api_Survey.c s), .own (api_Flight.c f), .own (api_Place.c v5.2)] <| .seq <| .r3 fine 28 [(27, aB (decide (v5.1 < s.Views)))] ?_
  refine .cd hr (fun hb7 hr => ?_) (fun hb7 hr => ?_)
  ·refine .seq <| .ru fine <| .ret ?_
   obtain rfl := Option.some.inj hr
   exact FinQ.r1 [aI64 12]
  ·refine .skip <| .seq <| .ru fine <| .ret ?_
   obtain rfl := Option.some.inj hr
   exact FinQ.r1 [aI64 0]

theorem fiduciallaw55_known_ok (n : Nat) (r : Bool) (hr : fiduciallaw55_known n = some r) : FnOk Tryz.prog 13 [] (aB r) := by
 unfold fiduciallaw55_known at hr
 refine FnOk.bd fine Tryz.func13 [.tmp 0] ?_
 unfold Tryz.f13
 simp only [Option.getD_some]
 refine .seq <| .r3 fine 77 [] <| .seq ?_
 obtain ⟨v1, hc2, v3, hc4, hr⟩ := bd2 hr
 refine .gn fine (ca1 (ok0 (fiduciallaw55_example_ok n v1 hc2)) (ca3 (ok0 (plan_Make_ok n v1 40 v3 hc4)))) <| .ca cf0 <| .ca (cfF cf0) <| .mu 6 <| .done <| .n2 77 [(1, .hp 0 0), (2, aI64 v3.2)] [.own (api_Flight.c v3.1)] <| .seq <| .seq ?_
 rcases Bool.eq_false_or_eq_true ((v3.2 : Int) != 0) with hb5 | hb5
 ·replace hr := cd_t hb5 hr
  refine .r0 fine <| .mu 1 <| .p0 (v := aB true) (Eq.trans (b := some (.pure (aB ((v3.2 : Int) != 0)))) (by kernel_rfl) (by rw [hb5])) <| .mu 20 <| .done <| .n2 77 [(1, .hp 0 0), (33, aB true)] [.own (api_Flight.c v3.1)] <| .cT (by kernel_rfl) <| .seq <| .ru fine <| .ret ?_
  obtain rfl := Option.some.inj hr
  exact FinQ.r1 [aB false]
 ·replace hr := cd_f hb5 hr
  rcases Bool.eq_false_or_eq_true (((v3.1.Strips.length : Int) : Int) != 2) with hb6 | hb6
  ·replace hr := cd_t hb6 hr
   refine .r0 fine <| .mu 1 <| .p0 (v := aB false) (Eq.trans (b := some (.pure (aB ((v3.2 : Int) != 0)))) (by kernel_rfl) (by rw [hb5])) <| .mu 4 <| .pure (v := aB true) (by kernel_rfl) (Eq.trans (b := some (.pure (aB (((v3.1.Strips.length : Int) : Int) != 2)))) (by kernel_rfl) (by rw [hb6])) <| .mu 15 <| .done <| .n2 77 [(1, .hp 0 0), (33, aB true)] [.own (api_Flight.c v3.1)] <| .cT (by kernel_rfl) <| .seq <| .ru fine <| .ret ?_
   obtain rfl := Option.some.inj hr
   exact FinQ.r1 [aB false]
  ·replace hr := cd_f hb6 hr
   obtain ⟨hg7, hr⟩ := gd hr
   obtain ⟨v8, hc9, hr⟩ := bd hr
   refine .gn fine (ca4 [.own (api_Flight.c v3.1), .own [aI64 20, aI64 18, aI64 36, aI64 18, aI64 52, aI64 18, aI64 68, aI64 18, aI64 80, aI64 18]] (callOk_val (args := [slT api_Pix.c (gt v3.1.Strips 1), .hs 1 0 5 2]) (l := [1]) rfl (SnL.cons (Sn.pure rfl) (SnL.cons (Sn.hs rfl (.inl rfl) (SnC.cons (Sn.pure rfl) (SnC.cons (Sn.pure rfl) (SnC.cons (Sn.pure rfl) (SnC.cons (Sn.pure rfl) (SnC.cons (Sn.pure rfl) (SnC.cons (Sn.pure rfl) (SnC.cons (Sn.pure rfl) (SnC.cons (Sn.pure rfl) (SnC.cons (Sn.pure rfl) (SnC.cons (Sn.pure rfl) SnC.nil)))))))))) (fun h => nomatch h)) SnL.nil)) (slices_Equal_fiducial_api_Pix_fiducial_api_Pix_ok n (gt v3.1.Strips 1) [api_Pix.mk 20 18, api_Pix.mk 36 18, api_Pix.mk 52 18, api_Pix.mk 68 18, api_Pix.mk 80 18] v8 hc9))) <| .mu 1 <| .p0 (v := aB false) (Eq.trans (b := some (.pure (aB ((v3.2 : Int) != 0)))) (by kernel_rfl) (by rw [hb5])) <| .mu 4 <| .pure (v := aB false) (by kernel_rfl) (Eq.trans (b := some (.pure (aB (((v3.1.Strips.length : Int) : Int) != 2)))) (by kernel_rfl) (by rw [hb6])) <| .mu 4 <| .pure (v := .pp (v3.1.Strips.flatMap (slC api_Pix.c)) ((1 : Int).toNat * 1)) (by kernel_rfl) (Eq.trans (b := ORes.ofP (guardV (inR 1 v3.1.Strips.length) (.pp (v3.1.Strips.flatMap (slC api_Pix.c)) ((1 : Int).toNat * 1)))) (by kernel_rfl) (ofP_guard hg7)) <| .pure (v := slT api_Pix.c (gt v3.1.Strips 1)) (by kernel_rfl) (Eq.trans (b := ORes.ofP ((v3.1.Strips.flatMap (slC api_Pix.c))[(1 : Int).toNat * 1]?)) (by kernel_rfl) (ofP_some (flat_get (slC_len _) (inR_lt hg7) (by decide : 0 < 1) (by omega : (1 : Int).toNat * 1 = (1 : Int).toNat * 1 + 0) (by kernel_rfl)))) <| .mu 6 <| .ca cf0 <| .mu 2 <| .done <| .n2 77 [(1, .hp 0 0), (33, aB (!v8))] [.own (api_Flight.c v3.1), .own [aI64 20, aI64 18, aI64 36, aI64 18, aI64 52, aI64 18, aI64 68, aI64 18, aI64 80, aI64 18]] ?_
   refine .cd hr (fun hb11 hr => ?_) (fun hb11 hr => ?_)
   ·refine .seq <| .ru fine <| .ret ?_
    obtain rfl := Option.some.inj hr
    exact FinQ.r1 [aB false]
   ·refine .skip <| .seq ?_
    obtain ⟨v12, hc13, v14, hc15, hr⟩ := bd2 hr
    refine .tn fine (ca1 (ok0 (fiduciallaw55_example_ok n v12 hc13)) (ca3 (ok0 (plan_Cover_ok n v12 v3.1 0 v14 hc15)))) <| .ca cf0 <| .mu 1 <| .ca (cfF cf0) <| .mu 8 ?_
    refine .done ⟨by kernel_rfl, ?_⟩
    refine .n2 77 [(1, .hp 0 0), (2, aI64 v14.2.2), (3, aI64 v14.1), (4, .hp 2 0)] [.own (api_Flight.c v3.1), .own [aI64 20, aI64 18, aI64 36, aI64 18, aI64 52, aI64 18, aI64 68, aI64 18, aI64 80, aI64 18], .own (api_Place.c v14.2.1)] <| .seq ?_
    obtain ⟨v16, hc17, v18, hc19, hr⟩ := bd2 hr
    refine .gn fine (ca1 (ok0 (fiduciallaw55_example_ok n v16 hc17)) (ca3 (ok0 (plan_Height_ok n v16 2 v18 hc19)))) <| .ca cf0 <| .ca (cfF cf0) <| .mu 5 <| .done <| .n2 77 [(1, .hp 0 0), (2, aI64 v14.2.2), (3, aI64 v14.1), (4, .hp 2 0), (5, aI64 v18.1), (6, aI64 v18.2)] [.own (api_Flight.c v3.1), .own [aI64 20, aI64 18, aI64 36, aI64 18, aI64 52, aI64 18, aI64 68, aI64 18, aI64 80, aI64 18], .own (api_Place.c v14.2.1)] <| .seq ?_
    rcases Bool.eq_false_or_eq_true ((v14.2.2 : Int) == 0) with hb20 | hb20
    ·replace hr := cd_t hb20 hr
     rcases Bool.eq_false_or_eq_true ((v18.2 : Int) == 0) with hb21 | hb21
     ·replace hr := cd_t hb21 hr
      rcases Bool.eq_false_or_eq_true ((v14.1 : Int) == 1) with hb22 | hb22
      ·replace hr := cd_t hb22 hr
       rcases Bool.eq_false_or_eq_true ((v18.1 : Int) == 2) with hb23 | hb23
       ·replace hr := cd_t hb23 hr
        obtain ⟨v24, hc25, hr⟩ := bd hr
        rcases Bool.eq_false_or_eq_true ((v24 : Int) == 0) with hb26 | hb26
        ·replace hr := cd_t hb26 hr
         obtain ⟨v27, hc28, hr⟩ := bd hr
         rcases Bool.eq_false_or_eq_true v27 with hb29 | hb29
         ·subst hb29
          replace hr := cd_t rfl hr
          obtain ⟨v30, hc31, v32, hc33, hr⟩ := bd2 hr
          refine .tn fine (ca1 (ok0 (fiducialref02_Sign_ok n v14.2.1.X v24 hc25)) (ca1 (ok0 (fiducialref02_Valid_ok n v14.2.1.X true hc28)) (ca1 (ok0 (fiduciallaw55_example_ok n v30 hc31)) (ca3 (ok0 (plan_Verify_ok n v30 v3.1 v32 hc33)))))) <| .mu 1 <| .pure (v := aB true) (by kernel_rfl) (Eq.trans (b := some (.pure (aB ((v14.2.2 : Int) == 0)))) (by kernel_rfl) (by rw [hb20])) (by kernel_rfl) <| .mu 2 <| .pure (v := aB true) (by kernel_rfl) (Eq.trans (b := some (.pure (aB ((v18.2 : Int) == 0)))) (by kernel_rfl) (by rw [hb21])) (by kernel_rfl) <| .mu 3 <| .pure (v := aB true) (by kernel_rfl) (Eq.trans (b := some (.pure (aB ((v14.1 : Int) == 1)))) (by kernel_rfl) (by rw [hb22])) (by kernel_rfl) <| .mu 3 <| .pure (v := aB true) (by kernel_rfl) (Eq.trans (b := some (.pure (aB ((v18.1 : Int) == 2)))) (by kernel_rfl) (by rw [hb23])) (by kernel_rfl) <| .mu 4 <| .ca cf0 <| .pure (v := aB true) (by kernel_rfl) (Eq.trans (b := some (.pure (aB ((v24 : Int) == 0)))) (by kernel_rfl) (by rw [hb26])) (by kernel_rfl) <| .mu 4 <| .ca (cfF cf0) <| .mu 2 <| .ca (cfF (cfF cf0)) <| .mu 1 <| .ca (cfF (cfF (cfF cf0))) <| .mu 3 ?_
          refine .done ⟨by kernel_rfl, ?_⟩
          refine .ret ?_
          obtain rfl := Option.some.inj hr
          exact FinQ.r1 [aB ((v32 : Int) == 0)]
         ·subst hb29
          replace hr := cd_f rfl hr
          refine .tn fine (ca1 (ok0 (fiducialref02_Sign_ok n v14.2.1.X v24 hc25)) (ca3 (ok0 (fiducialref02_Valid_ok n v14.2.1.X false hc28)))) <| .mu 1 <| .pure (v := aB true) (by kernel_rfl) (Eq.trans (b := some (.pure (aB ((v14.2.2 : Int) == 0)))) (by kernel_rfl) (by rw [hb20])) (by kernel_rfl) <| .mu 2 <| .pure (v := aB true) (by kernel_rfl) (Eq.trans (b := some (.pure (aB ((v18.2 : Int) == 0)))) (by kernel_rfl) (by rw [hb21])) (by kernel_rfl) <| .mu 3 <| .pure (v := aB true) (by kernel_rfl) (Eq.trans (b := some (.pure (aB ((v14.1 : Int) == 1)))) (by kernel_rfl) (by rw [hb22])) (by kernel_rfl) <| .mu 3 <| .pure (v := aB true) (by kernel_rfl) (Eq.trans (b := some (.pure (aB ((v18.1 : Int) == 2)))) (by kernel_rfl) (by rw [hb23])) (by kernel_rfl) <| .mu 4 <| .ca cf0 <| .pure (v := aB true) (by kernel_rfl) (Eq.trans (b := some (.pure (aB ((v24 : Int) == 0)))) (by kernel_rfl) (by rw [hb26])) (by kernel_rfl) <| .mu 4 <| .ca (cfF cf0) <| .mu 8 ?_
          refine .done ⟨by kernel_rfl, ?_⟩
          refine .ret ?_
          obtain rfl := Option.some.inj hr
          exact FinQ.r1 [aB false]
        ·replace hr := cd_f hb26 hr
         refine .t1 fine (ok0 (fiducialref02_Sign_ok n v14.2.1.X v24 hc25)) <| .mu 1 <| .pure (v := aB true) (by kernel_rfl) (Eq.trans (b := some (.pure (aB ((v14.2.2 : Int) == 0)))) (by kernel_rfl) (by rw [hb20])) (by kernel_rfl) <| .mu 2 <| .pure (v := aB true) (by kernel_rfl) (Eq.trans (b := some (.pure (aB ((v18.2 : Int) == 0)))) (by kernel_rfl) (by rw [hb21])) (by kernel_rfl) <| .mu 3 <| .pure (v := aB true) (by kernel_rfl) (Eq.trans (b := some (.pure (aB ((v14.1 : Int) == 1)))) (by kernel_rfl) (by rw [hb22])) (by kernel_rfl) <| .mu 3 <| .pure (v := aB true) (by kernel_rfl) (Eq.trans (b := some (.pure (aB ((v18.1 : Int) == 2)))) (by kernel_rfl) (by rw [hb23])) (by kernel_rfl) <| .mu 4 <| .ca cf0 <| .pure (v := aB false) (by kernel_rfl) (Eq.trans (b := some (.pure (aB ((v24 : Int) == 0)))) (by kernel_rfl) (by rw [hb26])) (by kernel_rfl) <| .mu 13 ?_
         refine .done ⟨by kernel_rfl, ?_⟩
         refine .ret ?_
         obtain rfl := Option.some.inj hr
         exact FinQ.r1 [aB false]
       ·replace hr := cd_f hb23 hr
        refine .regionT fine callOf_nil <| .mu 1 <| .pure (v := aB true) (by kernel_rfl) (Eq.trans (b := some (.pure (aB ((v14.2.2 : Int) == 0)))) (by kernel_rfl) (by rw [hb20])) (by kernel_rfl) <| .mu 2 <| .pure (v := aB true) (by kernel_rfl) (Eq.trans (b := some (.pure (aB ((v18.2 : Int) == 0)))) (by kernel_rfl) (by rw [hb21])) (by kernel_rfl) <| .mu 3 <| .pure (v := aB true) (by kernel_rfl) (Eq.trans (b := some (.pure (aB ((v14.1 : Int) == 1)))) (by kernel_rfl) (by rw [hb22])) (by kernel_rfl) <| .mu 3 <| .pure (v := aB false) (by kernel_rfl) (Eq.trans (b := some (.pure (aB ((v18.1 : Int) == 2)))) (by kernel_rfl) (by rw [hb23])) (by kernel_rfl) <| .mu 19 ?_
        refine .done ⟨by kernel_rfl, ?_⟩
        refine .ret ?_
        obtain rfl := Option.some.inj hr
        exact FinQ.r1 [aB false]
      ·replace hr := cd_f hb22 hr
       refine .regionT fine callOf_nil <| .mu 1 <| .pure (v := aB true) (by kernel_rfl) (Eq.trans (b := some (.pure (aB ((v14.2.2 : Int) == 0)))) (by kernel_rfl) (by rw [hb20])) (by kernel_rfl) <| .mu 2 <| .pure (v := aB true) (by kernel_rfl) (Eq.trans (b := some (.pure (aB ((v18.2 : Int) == 0)))) (by kernel_rfl) (by rw [hb21])) (by kernel_rfl) <| .mu 3 <| .pure (v := aB false) (by kernel_rfl) (Eq.trans (b := some (.pure (aB ((v14.1 : Int) == 1)))) (by kernel_rfl) (by rw [hb22])) (by kernel_rfl) <| .mu 23 ?_
       refine .done ⟨by kernel_rfl, ?_⟩
       refine .ret ?_
       obtain rfl := Option.some.inj hr
       exact FinQ.r1 [aB false]
     ·replace hr := cd_f hb21 hr
      refine .regionT fine callOf_nil <| .mu 1 <| .pure (v := aB true) (by kernel_rfl) (Eq.trans (b := some (.pure (aB ((v14.2.2 : Int) == 0)))) (by kernel_rfl) (by rw [hb20])) (by kernel_rfl) <| .mu 2 <| .pure (v := aB false) (by kernel_rfl) (Eq.trans (b := some (.pure (aB ((v18.2 : Int) == 0)))) (by kernel_rfl) (by rw [hb21])) (by kernel_rfl) <| .mu 27 ?_
      refine .done ⟨by kernel_rfl, ?_⟩
      refine .ret ?_
      obtain rfl := Option.some.inj hr
      exact FinQ.r1 [aB false]
    ·replace hr := cd_f hb20 hr
     refine .regionT fine callOf_nil <| .mu 1 <| .pure (v := aB false) (by kernel_rfl) (Eq.trans (b := some (.pure (aB ((v14.2.2 : Int) == 0)))) (by kernel_rfl) (by rw [hb20])) (by kernel_rfl) <| .mu 30 ?_
     refine .done ⟨by kernel_rfl, ?_⟩
     refine .ret ?_
     obtain rfl := Option.some.inj hr
     exact FinQ.r1 [aB false]

theorem fiduciallaw55_positions_ok (n : Nat) (f : api_Flight) (r : List api_Pix) (hr : fiduciallaw55_positions n f = some r) : FnOk Tryz.prog 65 [.agg (api_Flight.c f)] (slT api_Pix.c r) := by
 unfold fiduciallaw55_positions at hr
 refine FnOk.bd fine Tryz.func65 [.tmp 2] ?_
 unfold Tryz.f65
 simp only [Option.getD_some]
 refine .seq <| .r2 fine 19 [(1, .hp 0 0)] [.own (api_Flight.c f)] <| .seq <| .r2 fine 19 [(1, .hp 0 0), (3, .hs 1 0 0 2)] [.own (api_Flight.c f), .own []] <| .seq <| .seq <| .r3 fine 19 [(3, .hs 1 0 0 2), (8, slT (slC api_Pix.c) f.Strips), (9, aI64 (f.Strips.length : Int)), (10, aI64 0)] <| .block ?_
 replace hr := bd hr; obtain ⟨l_7, hL14, hr⟩ := hr
 refine .loopO (σ := fun z0 => match z0 with | (l_1, x_2) => ⟨mkS 19 0 [(3, .hs 0 0 l_1.length 2), (8, slT (slC api_Pix.c) f.Strips), (9, aI64 (f.Strips.length : Int)), (10, aI64 x_2)], [.own (l_1.flatMap api_Pix.c)]⟩) (Q := fun x st' => x = .exit 0 ∧ Wk 0 st' ⟨mkS 19 0 [(3, .hs 0 0 l_7.length 2)], [.own (l_7.flatMap api_Pix.c)]⟩) hL14 ((Wk.gc [3, 8, 9, 10] [(1, false)] rfl (pKc trivial)).to (by kernel_rfl)) ?_ ?_
 ·clear hr
  rintro m ⟨l_1, x_2⟩ hr
  show CQ _ _ _ _ _ ⟨_, _⟩
  refine .seq <| .r3 fine 19 [(3, .hs 0 0 l_1.length 2), (8, slT (slC api_Pix.c) f.Strips), (9, aI64 (f.Strips.length : Int)), (10, aI64 x_2), (11, aB (decide (x_2 < (f.Strips.length : Int))))] <| .seq ?_
  refine .cd hr (fun hb9 hr => ?_) (fun hb9 hr => ?_)
  ·refine .skip <| .seq <| .block <| .seq ?_
   obtain ⟨hg10, hr⟩ := gd hr
   refine .r0 fine <| .p0 (v := .pp (f.Strips.flatMap (slC api_Pix.c)) (x_2.toNat * 1)) (Eq.trans (b := ORes.ofP (guardV (inR x_2 f.Strips.length) (.pp (f.Strips.flatMap (slC api_Pix.c)) (x_2.toNat * 1)))) (by kernel_rfl) (ofP_guard hg10)) <| .p0 (v := slT api_Pix.c (gt f.Strips x_2)) (Eq.trans (b := ORes.ofP ((f.Strips.flatMap (slC api_Pix.c))[x_2.toNat * 1]?)) (by kernel_rfl) (ofP_some (flat_get (slC_len _) (inR_lt hg10) (by decide : 0 < 1) (by omega : x_2.toNat * 1 = x_2.toNat * 1 + 0) (by kernel_rfl)))) <| .mu 1 <| .done <| .n2 19 [(3, .hs 0 0 l_1.length 2), (5, slT api_Pix.c (gt f.Strips x_2)), (8, slT (slC api_Pix.c) f.Strips), (9, aI64 (f.Strips.length : Int)), (10, aI64 x_2)] [.own (l_1.flatMap api_Pix.c)] ?_
   obtain ⟨hg11, hg12, hr⟩ := gd2 hr
   refine .r0 fine <| .mu 2 <| .e0 (v := .hs 1 0 (l_1 ++ (gt f.Strips x_2)).length 2) (ws := [(0, .dead), (1, .own ((l_1 ++ (gt f.Strips x_2)).flatMap api_Pix.c))]) (Eq.trans (b := appS (decide ((((gt f.Strips x_2).flatMap api_Pix.c)).length = (gt f.Strips x_2).length * 2)) ((gt f.Strips x_2).flatMap api_Pix.c) (gt f.Strips x_2).length (fun z1 z2 => guardO (decide (0 + l_1.length * 2 ≤ (l_1.flatMap api_Pix.c).length) && decide ((l_1.length + z2) * 16 ≤ 140737488355328) && decide (l_1.length + z2 ≤ 4611686018427387904)) (some (.eff (.hs 1 0 (l_1.length + z2) 2) [(0, .dead), (1, .own (((l_1.flatMap api_Pix.c).drop 0).take (l_1.length * 2) ++ z1))])))) (by kernel_rfl) (appS_t (flat_lenB api_Pix.len) rfl (app_own (l := l_1) (xs := (gt f.Strips x_2)) api_Pix.len rfl rfl rfl hg11 hg12))) <| .mu 1 <| .done <| .pop <| .ru fine ?_
   exact loopF_back (l_1 ++ (gt f.Strips x_2), wrapF .i64 (x_2 + 1)) hr ((Wk.gc [3, 8, 9, 10] [(1, false)] rfl (pKo api_Pix.c api_Pix.pure (l_1 ++ (gt f.Strips x_2)) trivial)).to (by kernel_rfl))
  ·refine .leave rfl ?_
   obtain rfl := Option.some.inj hr
   exact ⟨rfl, ((Wk.gc [3] [(0, false)] rfl (pKo api_Pix.c api_Pix.pure l_1 trivial)).to (by kernel_rfl))⟩
 ·rintro x st' hq15
  clear hL14
  obtain ⟨rfl, hq15⟩ := hq15
  refine CQ_exit _ rfl <| .wk hq15 <| .seq <| .r3 fine 19 [(2, .hs 0 0 l_7.length 2)] <| .ret ?_
  obtain rfl := Option.some.inj hr
  exact FinQ.ret (vs := [.hs 0 0 l_7.length 2]) (by kernel_rfl) (Sn.hs rfl (.inl rfl) (SnC.pure (ids_flat api_Pix.pure _)) (fun h => flat_nil0 h))

theorem fiduciallaw55_few_ok (n : Nat) (f : api_Flight) (most : Int) (r : Bool) (hr : fiduciallaw55_few n f most = some r) : FnOk Tryz.prog 26 [.agg (api_Flight.c f), aI64 most] (aB r) := by
 unfold fiduciallaw55_few at hr
 refine FnOk.bd fine Tryz.func26 [.tmp 4] ?_
 unfold Tryz.f26
 simp only [Option.getD_some]
 refine .seq <| .r2 fine 16 [(1, aI64 most), (2, .hp 0 0)] [.own (api_Flight.c f)] <| .seq ?_
 rcases Bool.eq_false_or_eq_true (decide ((f.Strips.length : Int) ≤ 20)) with hb1 | hb1
 ·replace hr := cd_t hb1 hr
  obtain ⟨v2, hc3, hr⟩ := bd hr
  refine .g1 fine (ok0 (fiduciallaw55_positions_ok n f v2 hc3)) <| .mu 3 <| .p0 (v := aB true) (Eq.trans (b := some (.pure (aB (decide ((f.Strips.length : Int) ≤ 20))))) (by kernel_rfl) (by rw [hb1])) <| .mu 2 <| .ca cf0 <| .mu 5 <| .done <| .ret ?_
  obtain rfl := Option.some.inj hr
  exact FinQ.r1 [aB (decide ((v2.length : Int) ≤ most))]
 ·replace hr := cd_f hb1 hr
  refine .r0 fine <| .mu 3 <| .p0 (v := aB false) (Eq.trans (b := some (.pure (aB (decide ((f.Strips.length : Int) ≤ 20))))) (by kernel_rfl) (by rw [hb1])) <| .mu 8 <| .done <| .ret ?_
  obtain rfl := Option.some.inj hr
  exact FinQ.r1 [aB false]

theorem slices_Clone_fiducial_api_Pix_fiducial_api_Pix_ok (n : Nat) (s : List api_Pix) (r : List api_Pix) (hr : slices_Clone_fiducial_api_Pix_fiducial_api_Pix n s = some r) : FnOk Tryz.prog 29 [slT api_Pix.c s] (slT api_Pix.c r) := by
 unfold slices_Clone_fiducial_api_Pix_fiducial_api_Pix at hr
 refine FnOk.bd fine Tryz.func29 [.tmp 2] ?_
 unfold Tryz.f29
 simp only [Option.getD_some]
 refine .seq <| .r3 fine 8 [(0, slT api_Pix.c s)] <| .seq <| .seq ?_
 refine .nilcase (t := 0) (cs := s.flatMap api_Pix.c) (len := s.length) (by kernel_rfl) (fun hn3 => ?_) ?_
 ·obtain rfl : s = [] := List.length_eq_zero_iff.1 hn3
  have hx := gd hr; clear hr; obtain ⟨_, hr⟩ := hx
  have hx := gd hr; clear hr; obtain ⟨_, hr⟩ := hx
  refine .r3 fine 8 [(0, nS), (4, aB true)] <| .cT (by kernel_rfl) <| .seq <| .r3 fine 8 [(2, nS)] <| .ret ?_
  obtain rfl := Option.some.inj hr
  exact FinQ.ret (vs := [nS]) (by kernel_rfl) Sn.nilsl
 ·refine .r3 fine 8 [(0, .sl false (s.flatMap api_Pix.c) s.length), (4, aB false)] <| .cF (by kernel_rfl) <| .skip <| .seq ?_
  obtain ⟨hg1, hg2, hr⟩ := gd2 hr
  refine .r0 fine <| .mu 2 <| .e0 (v := .hs 1 0 s.length 2) (ws := [(0, .dead), (1, .own (s.flatMap api_Pix.c))]) (Eq.trans (b := appS (decide (((s.flatMap api_Pix.c)).length = s.length * 2)) (s.flatMap api_Pix.c) s.length (fun z1 z2 => guardO (decide (0 + 0 * 2 ≤ (([] : List api_Pix).flatMap api_Pix.c).length) && decide ((0 + z2) * 16 ≤ 140737488355328) && decide (0 + z2 ≤ 4611686018427387904)) (some (.eff (.hs 1 0 (0 + z2) 2) [(0, .dead), (1, .own (((([] : List api_Pix).flatMap api_Pix.c).drop 0).take (0 * 2) ++ z1))])))) (by kernel_rfl) (appS_t (flat_lenB api_Pix.len) rfl (app_own (l := ([] : List api_Pix)) (xs := s) api_Pix.len rfl rfl rfl hg1 hg2))) <| .mu 1 <| .done <| .n2 8 [(2, .hs 1 0 s.length 2)] [.dead, .own (s.flatMap api_Pix.c)] <| .ret ?_
  obtain rfl := Option.some.inj hr
  exact FinQ.ret (vs := [.hs 1 0 s.length 2]) (by kernel_rfl) (Sn.hs rfl (.inl rfl) (SnC.pure (ids_flat api_Pix.pure _)) (fun h => flat_nil0 h))

theorem slices_Clone_fiducial_api_Pix_fiducial_api_Pix_w_ok (n : Nat) (s : List api_Pix) (r : List api_Pix) (hr : slices_Clone_fiducial_api_Pix_fiducial_api_Pix_w n s = some r) : FnMut 0 Tryz.prog 29 [slT api_Pix.c s] [] (.hs 0 0 r.length 2) [.own (r.flatMap api_Pix.c)] := by
 unfold slices_Clone_fiducial_api_Pix_fiducial_api_Pix_w at hr
 refine FnMut.bodyW fine Tryz.func29 (c := (Tryz.f29.body).getD .skip) rfl (us := [.hs 0 0 r.length 2]) (s := mkS 8 0 [(0, slT api_Pix.c s)]) (by kernel_rfl) (rs := [.tmp 2]) rfl ?_
 unfold Tryz.f29
 simp only [Option.getD_some]
 refine .seq <| .r3 fine 8 [(0, slT api_Pix.c s)] <| .seq <| .seq ?_
 refine .nilcase (t := 0) (cs := s.flatMap api_Pix.c) (len := s.length) (by kernel_rfl) (fun hn7 => ?_) ?_
 ·obtain rfl : s = [] := List.length_eq_zero_iff.1 hn7
  have hx := gd hr; clear hr; obtain ⟨_, hr⟩ := hx
  have hx := gd hr; clear hr; obtain ⟨_, hr⟩ := hx
  refine .r3 fine 8 [(0, nS), (4, aB true)] <| .cT (by kernel_rfl) <| .seq <| .r3 fine 8 [(2, nS)] <| .ret ?_
  obtain rfl := Option.some.inj hr
  exact FinMW.ret [nS] ((Wk.nil 0 2 (by kernel_rfl)).trans ((Wk.gc [0] [(0, false)] rfl (pKc trivial)).to (by kernel_rfl)))
 ·refine .r3 fine 8 [(0, .sl false (s.flatMap api_Pix.c) s.length), (4, aB false)] <| .cF (by kernel_rfl) <| .skip <| .seq ?_
  obtain ⟨hg5, hg6, hr⟩ := gd2 hr
  refine .r0 fine <| .mu 2 <| .e0 (v := .hs 1 0 s.length 2) (ws := [(0, .dead), (1, .own (s.flatMap api_Pix.c))]) (Eq.trans (b := appS (decide (((s.flatMap api_Pix.c)).length = s.length * 2)) (s.flatMap api_Pix.c) s.length (fun z1 z2 => guardO (decide (0 + 0 * 2 ≤ (([] : List api_Pix).flatMap api_Pix.c).length) && decide ((0 + z2) * 16 ≤ 140737488355328) && decide (0 + z2 ≤ 4611686018427387904)) (some (.eff (.hs 1 0 (0 + z2) 2) [(0, .dead), (1, .own (((([] : List api_Pix).flatMap api_Pix.c).drop 0).take (0 * 2) ++ z1))])))) (by kernel_rfl) (appS_t (flat_lenB api_Pix.len) rfl (app_own (l := ([] : List api_Pix)) (xs := s) api_Pix.len rfl rfl rfl hg5 hg6))) <| .mu 1 <| .done <| .n2 8 [(2, .hs 1 0 s.length 2)] [.dead, .own (s.flatMap api_Pix.c)] <| .ret ?_
  obtain rfl := Option.some.inj hr
  exact FinMW.ret [.hs 1 0 s.length 2] ((Wk.gc [0] [(1, false)] rfl (pKo api_Pix.c api_Pix.pure s trivial)).to (by kernel_rfl))

theorem slices_Reverse_fiducial_api_Pix_fiducial_api_Pix_w_ok (n : Nat) (s : List api_Pix) (r : List api_Pix) (hr : slices_Reverse_fiducial_api_Pix_fiducial_api_Pix_w n s = some r) : FnMut 1 Tryz.prog 30 [.hs 0 0 s.length 2] [.own (s.flatMap api_Pix.c)] (.tup []) [.own (r.flatMap api_Pix.c)] := by
 unfold slices_Reverse_fiducial_api_Pix_fiducial_api_Pix_w at hr
 refine FnMut.bodyW fine Tryz.func30 (c := (Tryz.f30.body).getD .skip) rfl (us := []) (s := mkS 28 0 [(0, .hs 0 0 s.length 2)]) (by kernel_rfl) (rs := []) rfl ?_
 unfold Tryz.f30
 simp only [Option.getD_some]
 refine .seq <| .r3 fine 28 [(0, .hs 0 0 s.length 2), (2, aI64 0), (3, aI64 (wrapF .i64 ((s.length : Int) - 1)))] <| .block ?_
 replace hr := bd hr; obtain ⟨s_22, hL28, hr⟩ := hr
 refine .loopO (σ := fun z0 => match z0 with | (s_16, i_17, j_18) => ⟨mkS 28 0 [(0, .hs 0 0 s_16.length 2), (2, aI64 i_17), (3, aI64 j_18)], [.own (s_16.flatMap api_Pix.c)]⟩) (Q := fun x st' => x = .exit 0 ∧ Wk 1 st' ⟨mkS 28 0 [], [.own (s_22.flatMap api_Pix.c)]⟩) hL28 ((Wk.gc [0, 2, 3] [(0, false)] rfl (pKo api_Pix.c api_Pix.pure s trivial)).to (by kernel_rfl)) ?_ ?_
 ·clear hr
  rintro m ⟨s_16, i_17, j_18⟩ hr
  show CQ _ _ _ _ _ ⟨_, _⟩
  refine .seq <| .seq <| .r3 fine 28 [(0, .hs 0 0 s_16.length 2), (2, aI64 i_17), (3, aI64 j_18), (9, aB (decide (i_17 < j_18)))] ?_
  refine .cd hr (fun hb24 hr => ?_) (fun hb24 hr => ?_)
  ·refine .skip <| .seq <| .block ?_
   obtain ⟨hg25, hg26, hr⟩ := gd2 hr
   refine .regionT fine callOf_nil <| .mu 6 <| .pure (v := .hp 0 (0 + j_18.toNat * 2)) (by kernel_rfl) (Eq.trans (b := ORes.ofP (guardV (inR j_18 s_16.length) (.hp 0 (0 + j_18.toNat * 2)))) (by kernel_rfl) (ofP_guard hg25)) (by kernel_rfl) <| .pure (v := .agg (api_Pix.c (gt s_16 j_18))) (by kernel_rfl) (Eq.trans (b := ORes.ofP (guardV (decide (2 ≤ ((s_16.flatMap api_Pix.c).drop (0 + j_18.toNat * 2)).length)) (.agg (((s_16.flatMap api_Pix.c).drop (0 + j_18.toNat * 2)).take 2)))) (by kernel_rfl) (flat_load api_Pix.len (inR_lt hg25) (by decide) (by omega : 0 + j_18.toNat * 2 = j_18.toNat * 2 + 0) (by kernel_rfl))) (by kernel_rfl) <| .mu 2 <| .pure (v := .hp 0 (0 + i_17.toNat * 2)) (by kernel_rfl) (Eq.trans (b := ORes.ofP (guardV (inR i_17 s_16.length) (.hp 0 (0 + i_17.toNat * 2)))) (by kernel_rfl) (ofP_guard hg26)) (by kernel_rfl) <| .pure (v := .agg (api_Pix.c (gt s_16 i_17))) (by kernel_rfl) (Eq.trans (b := ORes.ofP (guardV (decide (2 ≤ ((s_16.flatMap api_Pix.c).drop (0 + i_17.toNat * 2)).length)) (.agg (((s_16.flatMap api_Pix.c).drop (0 + i_17.toNat * 2)).take 2)))) (by kernel_rfl) (flat_load api_Pix.len (inR_lt hg26) (by decide) (by omega : 0 + i_17.toNat * 2 = i_17.toNat * 2 + 0) (by kernel_rfl))) (by kernel_rfl) <| .pure (v := .hp 0 (0 + i_17.toNat * 2)) (by kernel_rfl) (Eq.trans (b := ORes.ofP (guardV (inR i_17 s_16.length) (.hp 0 (0 + i_17.toNat * 2)))) (by kernel_rfl) (ofP_guard hg26)) (by kernel_rfl) <| .eff (v := .unk) (ws := [(0, .own ((s_16.set i_17.toNat (gt s_16 j_18)).flatMap api_Pix.c))]) (by kernel_rfl) (Eq.trans (b := stO (decide ((0 + i_17.toNat * 2) + 2 ≤ (s_16.flatMap api_Pix.c).length) && true) [(0, .own (setCells (s_16.flatMap api_Pix.c) (0 + i_17.toNat * 2) (api_Pix.c (gt s_16 j_18))))]) (by kernel_rfl) (stO_t (and_t (flat_fits api_Pix.len (inR_lt hg26) (Nat.le_of_ble_eq_true rfl) (by omega : 0 + i_17.toNat * 2 = i_17.toNat * 2 + 0))) (congrArg Blk.own (flat_set api_Pix.len (inR_lt hg26) (Nat.le_of_ble_eq_true rfl) (by omega : 0 + i_17.toNat * 2 = i_17.toNat * 2 + 0) (by kernel_rfl))))) (by kernel_rfl) <| .pure (v := .hp 0 (0 + j_18.toNat * 2)) (by kernel_rfl) (Eq.trans (b := ORes.ofP (guardV (inR j_18 s_16.length) (.hp 0 (0 + j_18.toNat * 2)))) (by kernel_rfl) (ofP_guard hg25)) (by kernel_rfl) <| .eff (v := .unk) (ws := [(0, .own (((s_16.set i_17.toNat (gt s_16 j_18)).set j_18.toNat (gt s_16 i_17)).flatMap api_Pix.c))]) (by kernel_rfl) (Eq.trans (b := stO (decide ((0 + j_18.toNat * 2) + 2 ≤ ((s_16.set i_17.toNat (gt s_16 j_18)).flatMap api_Pix.c).length) && true) [(0, .own (setCells ((s_16.set i_17.toNat (gt s_16 j_18)).flatMap api_Pix.c) (0 + j_18.toNat * 2) (api_Pix.c (gt s_16 i_17))))]) (by kernel_rfl) (stO_t (and_t (flat_fits api_Pix.len (inR_lt (inR_set hg25)) (Nat.le_of_ble_eq_true rfl) (by omega : 0 + j_18.toNat * 2 = j_18.toNat * 2 + 0))) (congrArg Blk.own (flat_set api_Pix.len (inR_lt (inR_set hg25)) (Nat.le_of_ble_eq_true rfl) (by omega : 0 + j_18.toNat * 2 = j_18.toNat * 2 + 0) (by kernel_rfl))))) (by kernel_rfl) ?_
   refine .done ⟨by kernel_rfl, ?_⟩
   refine .pop <| .ru fine ?_
   exact loopF_back ((s_16.set i_17.toNat (gt s_16 j_18)).set j_18.toNat (gt s_16 i_17), wrapF .i64 (i_17 + 1), wrapF .i64 (j_18 - 1)) hr ((Wk.relen 0 (b := 0) (es := 2) (len := s_16.length) ((s_16.set i_17.toNat (gt s_16 j_18)).set j_18.toNat (gt s_16 i_17)).length (by kernel_rfl) (Eq.symm (List.length_set.trans (List.length_set.trans rfl)))).trans ((Wk.gc [0, 2, 3] [(0, false)] rfl (pKo api_Pix.c api_Pix.pure ((s_16.set i_17.toNat (gt s_16 j_18)).set j_18.toNat (gt s_16 i_17)) trivial)).to (by kernel_rfl)))
  ·refine .leave rfl ?_
   obtain rfl := Option.some.inj hr
   exact ⟨rfl, ((Wk.gc [] [(0, false)] rfl (pKo api_Pix.c api_Pix.pure s_16 trivial)).to (by kernel_rfl))⟩
 ·rintro x st' hq29
  clear hL28
  obtain ⟨rfl, hq29⟩ := hq29
  refine CQ_exit _ rfl ?_
  obtain rfl := Option.some.inj hr
  exact FinMW.wk hq29 (FinMW.normal [] ((Wk.gc [] [(0, false)] rfl (pKo api_Pix.c api_Pix.pure s_22 trivial)).to (by kernel_rfl)))

theorem plan_Route_ok (n : Nat) (f : api_Flight) (r : List api_Pix × Int) (hr : plan_Route n f = some r) : FnOk Tryz.prog 27 [.agg (api_Flight.c f)] (.tup [slT api_Pix.c r.1, aI64 r.2]) := by
 unfold plan_Route at hr
 refine FnOk.bd fine Tryz.func27 [.tmp 2, .tmp 3] ?_
 unfold Tryz.f27
 simp only [Option.getD_some]
 refine .seq <| .r2 fine 33 [(1, .hp 0 0)] [.own (api_Flight.c f)] <| .seq <| .seq ?_
 obtain ⟨v1, hc2, hr⟩ := bd hr
 refine .g1 fine (ok0 (plan_checkFlight_ok n f v1 hc2)) <| .mu 1 <| .ca cf0 <| .mu 1 <| .done <| .n2 33 [(1, .hp 0 0), (4, aI64 v1)] [.own (api_Flight.c f)] <| .seq <| .r3 fine 33 [(1, .hp 0 0), (4, aI64 v1), (11, aB ((v1 : Int) != 0))] ?_
 refine .cd hr (fun hb4 hr => ?_) (fun hb4 hr => ?_)
 ·refine .seq <| .r3 fine 33 [(2, nS), (3, aI64 v1)] <| .ret ?_
  obtain rfl := Option.some.inj hr
  exact FinQ.ret (vs := [nS, aI64 v1]) (by kernel_rfl) (Sn.tup (SnL.cons Sn.nilsl (SnL.cons (Sn.pure rfl) SnL.nil)))
 ·refine .skip <| .seq <| .r3 fine 33 [(1, .hp 0 0), (5, nS)] <| .seq <| .seq <| .r3 fine 33 [(5, nS), (14, slT (slC api_Pix.c) f.Strips), (15, aI64 (f.Strips.length : Int)), (16, aI64 0)] <| .block ?_
  replace hr := bd hr; obtain ⟨out_20, hL36, hr⟩ := hr
  refine .loopO (σ := fun z0 => match z0 with | (out_5, x_6) => ⟨mkS 33 0 [(5, .hs 0 0 out_5.length 2), (14, slT (slC api_Pix.c) f.Strips), (15, aI64 (f.Strips.length : Int)), (16, aI64 x_6)], [.own (out_5.flatMap api_Pix.c)]⟩) (Q := fun x st' => x = .exit 0 ∧ Wk 0 st' ⟨mkS 33 0 [(5, .hs 0 0 out_20.length 2)], [.own (out_20.flatMap api_Pix.c)]⟩) hL36 ((Wk.nil 5 2 (by kernel_rfl)).trans ((Wk.gc [5, 14, 15, 16] [(1, false)] rfl (pKc trivial)).to (by kernel_rfl))) ?_ ?_
  ·clear hr
   rintro m ⟨out_5, x_6⟩ hr
   show CQ _ _ _ _ _ ⟨_, _⟩
   refine .seq <| .r3 fine 33 [(5, .hs 0 0 out_5.length 2), (14, slT (slC api_Pix.c) f.Strips), (15, aI64 (f.Strips.length : Int)), (16, aI64 x_6), (17, aB (decide (x_6 < (f.Strips.length : Int))))] <| .seq ?_
   refine .cd hr (fun hb23 hr => ?_) (fun hb23 hr => ?_)
   ·refine .skip <| .seq <| .block <| .seq ?_
    obtain ⟨hg24, hr⟩ := gd hr
    refine .r0 fine <| .mu 1 <| .p0 (v := .pp (f.Strips.flatMap (slC api_Pix.c)) (x_6.toNat * 1)) (Eq.trans (b := ORes.ofP (guardV (inR x_6 f.Strips.length) (.pp (f.Strips.flatMap (slC api_Pix.c)) (x_6.toNat * 1)))) (by kernel_rfl) (ofP_guard hg24)) <| .p0 (v := slT api_Pix.c (gt f.Strips x_6)) (Eq.trans (b := ORes.ofP ((f.Strips.flatMap (slC api_Pix.c))[x_6.toNat * 1]?)) (by kernel_rfl) (ofP_some (flat_get (slC_len _) (inR_lt hg24) (by decide : 0 < 1) (by omega : x_6.toNat * 1 = x_6.toNat * 1 + 0) (by kernel_rfl)))) <| .mu 2 <| .done <| .n2 33 [(5, .hs 0 0 out_5.length 2), (6, aI64 x_6), (7, slT api_Pix.c (gt f.Strips x_6)), (14, slT (slC api_Pix.c) f.Strips), (15, aI64 (f.Strips.length : Int)), (16, aI64 x_6)] [.own (out_5.flatMap api_Pix.c)] <| .seq ?_
    obtain ⟨v25, hc26, hr⟩ := bd hr
    refine .g1 fine (callOk_mutU (args := [slT api_Pix.c (gt f.Strips x_6)]) 0 1 [] [false] (slices_Clone_fiducial_api_Pix_fiducial_api_Pix_w_ok n (gt f.Strips x_6) v25 hc26) trivial (by exact ⟨ids_flat api_Pix.pure _, trivial⟩) rfl rfl (by kernel_rfl) (by kernel_rfl)) <| .mu 1 <| .ca cf0 <| .mu 1 <| .done <| .n2 33 [(5, .hs 0 0 out_5.length 2), (6, aI64 x_6), (7, .hs 1 0 v25.length 2), (14, slT (slC api_Pix.c) f.Strips), (15, aI64 (f.Strips.length : Int)), (16, aI64 x_6)] [.own (out_5.flatMap api_Pix.c), .own (v25.flatMap api_Pix.c)] <| .seq <| .seq <| .r3 fine 33 [(5, .hs 0 0 out_5.length 2), (7, .hs 1 0 v25.length 2), (14, slT (slC api_Pix.c) f.Strips), (15, aI64 (f.Strips.length : Int)), (16, aI64 x_6), (25, aB (((x_6.tmod 2) : Int) == 1))] ?_
    refine .cd hr (fun hb27 hr => ?_) (fun hb27 hr => ?_)
    ·obtain ⟨v28, hc29, hr⟩ := bd hr
     obtain ⟨hg30, hr⟩ := gd hr
     refine .g1 fine (callOk_mutU (args := [.hs 1 0 v25.length 2]) 1 0 [(1, false)] [false] (slices_Reverse_fiducial_api_Pix_fiducial_api_Pix_w_ok n v25 v28 hc29) (by exact ⟨ids_flat api_Pix.pure _, trivial⟩) (by exact ⟨ids_flat api_Pix.pure _, trivial⟩) rfl rfl (by kernel_rfl) (by kernel_rfl)) <| .mu 1 <| .ca cf0 <| .done <| .n2 33 [(5, .hs 0 0 out_5.length 2), (7, .hs 1 0 v25.length 2), (14, slT (slC api_Pix.c) f.Strips), (15, aI64 (f.Strips.length : Int)), (16, aI64 x_6)] [.own (out_5.flatMap api_Pix.c), .own (v28.flatMap api_Pix.c)] ?_
     obtain ⟨hg31, hg32, hr⟩ := gd2 hr
     refine .r0 fine <| .mu 2 <| .e0 (v := .hs 2 0 (out_5 ++ v28).length 2) (ws := [(0, .dead), (2, .own ((out_5 ++ v28).flatMap api_Pix.c))]) (Eq.trans (b := appS (decide (0 + v25.length * 2 ≤ (v28.flatMap api_Pix.c).length)) (((v28.flatMap api_Pix.c).drop 0).take (v25.length * 2)) v25.length (fun z1 z2 => guardO (decide (0 + out_5.length * 2 ≤ (out_5.flatMap api_Pix.c).length) && decide ((out_5.length + z2) * 16 ≤ 140737488355328) && decide (out_5.length + z2 ≤ 4611686018427387904)) (some (.eff (.hs 2 0 (out_5.length + z2) 2) [(0, .dead), (2, .own (((out_5.flatMap api_Pix.c).drop 0).take (out_5.length * 2) ++ z1))])))) (by kernel_rfl) (appS_t (by rw [← (of_decide_eq_true hg30)]; exact flat_lenO api_Pix.len) (by rw [← (of_decide_eq_true hg30)]; exact flat_all api_Pix.len) (app_own (l := out_5) (xs := v28) api_Pix.len rfl (of_decide_eq_true hg30) rfl hg31 hg32))) <| .mu 1 <| .done <| .pop <| .ru fine ?_
     exact loopF_back (out_5 ++ v28, wrapF .i64 (x_6 + 1)) hr ((Wk.gc [5, 14, 15, 16] [(2, false)] rfl (pKo api_Pix.c api_Pix.pure (out_5 ++ v28) trivial)).to (by kernel_rfl))
    ·refine .skip ?_
     obtain ⟨hg33, hg34, hr⟩ := gd2 hr
     refine .r0 fine <| .mu 2 <| .e0 (v := .hs 2 0 (out_5 ++ v25).length 2) (ws := [(0, .dead), (2, .own ((out_5 ++ v25).flatMap api_Pix.c))]) (Eq.trans (b := appS (decide (0 + v25.length * 2 ≤ (v25.flatMap api_Pix.c).length)) (((v25.flatMap api_Pix.c).drop 0).take (v25.length * 2)) v25.length (fun z1 z2 => guardO (decide (0 + out_5.length * 2 ≤ (out_5.flatMap api_Pix.c).length) && decide ((out_5.length + z2) * 16 ≤ 140737488355328) && decide (out_5.length + z2 ≤ 4611686018427387904)) (some (.eff (.hs 2 0 (out_5.length + z2) 2) [(0, .dead), (2, .own (((out_5.flatMap api_Pix.c).drop 0).take (out_5.length * 2) ++ z1))])))) (by kernel_rfl) (appS_t (flat_lenO api_Pix.len) (flat_all api_Pix.len) (app_own (l := out_5) (xs := v25) api_Pix.len rfl rfl rfl hg33 hg34))) <| .mu 1 <| .done <| .pop <| .ru fine ?_
     exact loopF_back (out_5 ++ v25, wrapF .i64 (x_6 + 1)) hr ((Wk.gc [5, 14, 15, 16] [(2, false)] rfl (pKo api_Pix.c api_Pix.pure (out_5 ++ v25) trivial)).to (by kernel_rfl))
   ·refine .leave rfl ?_
    obtain rfl := Option.some.inj hr
    exact ⟨rfl, ((Wk.gc [5] [(0, false)] rfl (pKo api_Pix.c api_Pix.pure out_5 trivial)).to (by kernel_rfl))⟩
  ·rintro x st' hq37
   clear hL36
   obtain ⟨rfl, hq37⟩ := hq37
   refine CQ_exit _ rfl <| .wk hq37 <| .seq <| .r3 fine 33 [(2, .hs 0 0 out_20.length 2), (3, aI64 0)] <| .ret ?_
   obtain rfl := Option.some.inj hr
   exact FinQ.ret (vs := [.hs 0 0 out_20.length 2, aI64 0]) (by kernel_rfl) (Sn.tup (SnL.cons (Sn.hs rfl (.inl rfl) (SnC.pure (ids_flat api_Pix.pure _)) (fun h => flat_nil0 h)) (SnL.cons (Sn.pure rfl) SnL.nil)))

theorem fiduciallaw55_out_ok (n : Nat) (l : List Int) (r : Bool) (hr : fiduciallaw55_out n l = some r) : FnOk Tryz.prog 19 [sI64 l] (aB r) := by
 unfold fiduciallaw55_out at hr
 refine FnOk.bd fine Tryz.func19 [.tmp 2] ?_
 unfold Tryz.f19
 simp only [Option.getD_some]
 refine .seq <| .r3 fine 18 [(0, sI64 l)] <| .seq <| .seq <| .r3 fine 18 [(5, sI64 l), (6, aI64 (l.length : Int)), (7, aI64 0)] <| .block ?_
 replace hr := bd hr; obtain ⟨o13, hL14, hr⟩ := hr
 refine .loopO (σ := fun z0 => match z0 with | x_1 => ⟨mkS 18 0 [(5, sI64 l), (6, aI64 (l.length : Int)), (7, aI64 x_1)], []⟩) (Q := fun x st' => match (generalizing := false) o13 with | .inl _ => x = .exit 0 ∧ Wk 0 st' ⟨mkS 18 0 [], []⟩ | .inr (r0) => x = .ret ∧ FinQ Tryz.prog [.tmp 2] (aB r0) .ret st') hL14 ((Wk.gc [5, 6, 7] [] rfl pK0).to (by kernel_rfl)) ?_ ?_
 ·clear hr
  rintro m x_1 hr
  show CQ _ _ _ _ _ ⟨_, _⟩
  refine .seq <| .r3 fine 18 [(5, sI64 l), (6, aI64 (l.length : Int)), (7, aI64 x_1), (8, aB (decide (x_1 < (l.length : Int))))] <| .seq ?_
  refine .cd hr (fun hb9 hr => ?_) (fun hb9 hr => ?_)
  ·refine .skip <| .seq <| .block <| .seq ?_
   obtain ⟨hg10, hr⟩ := gd hr
   refine .r0 fine <| .p0 (v := .pp (l.flatMap (iC .i64)) (x_1.toNat * 1)) (Eq.trans (b := ORes.ofP (guardV (inR x_1 l.length) (.pp (l.flatMap (iC .i64)) (x_1.toNat * 1)))) (by kernel_rfl) (ofP_guard hg10)) <| .p0 (v := aI64 (gt l x_1)) (Eq.trans (b := ORes.ofP ((l.flatMap (iC .i64))[x_1.toNat * 1]?)) (by kernel_rfl) (ofP_some (flat_get (iC_len _) (inR_lt hg10) (by decide : 0 < 1) (by omega : x_1.toNat * 1 = x_1.toNat * 1 + 0) (by kernel_rfl)))) <| .mu 1 <| .done <| .n2 18 [(4, aI64 (gt l x_1)), (5, sI64 l), (6, aI64 (l.length : Int)), (7, aI64 x_1)] [] <| .seq ?_
   rcases Bool.eq_false_or_eq_true (decide ((gt l x_1) < (-1048576))) with hb11 | hb11
   ·replace hr := cd_t hb11 hr
    refine .r0 fine <| .mu 1 <| .p0 (v := aB true) (Eq.trans (b := some (.pure (aB (decide ((gt l x_1) < (-1048576)))))) (by kernel_rfl) (by rw [hb11])) <| .mu 4 <| .done <| .n2 18 [(5, sI64 l), (6, aI64 (l.length : Int)), (7, aI64 x_1), (16, aB true)] [] <| .cT (by kernel_rfl) <| .seq <| .ru fine <| .ret ?_
    obtain rfl := Option.some.inj hr
    exact ⟨rfl, FinQ.ret (vs := [aB true]) (by kernel_rfl) (Sn.pure rfl)⟩
   ·replace hr := cd_f hb11 hr
    refine .r0 fine <| .mu 1 <| .p0 (v := aB false) (Eq.trans (b := some (.pure (aB (decide ((gt l x_1) < (-1048576)))))) (by kernel_rfl) (by rw [hb11])) <| .mu 4 <| .done <| .n2 18 [(5, sI64 l), (6, aI64 (l.length : Int)), (7, aI64 x_1), (16, aB (decide ((gt l x_1) > 1048576)))] [] ?_
    refine .cd hr (fun hb12 hr => ?_) (fun hb12 hr => ?_)
    ·refine .seq <| .ru fine <| .ret ?_
     obtain rfl := Option.some.inj hr
     exact ⟨rfl, FinQ.ret (vs := [aB true]) (by kernel_rfl) (Sn.pure rfl)⟩
    ·refine .skip <| .pop <| .ru fine ?_
     exact loopF_back (wrapF .i64 (x_1 + 1)) hr ((Wk.gc [5, 6, 7] [] rfl pK0).to (by kernel_rfl))
  ·refine .leave rfl ?_
   obtain rfl := Option.some.inj hr
   exact ⟨rfl, ((Wk.gc [] [] rfl pK0).to (by kernel_rfl))⟩
 ·rcases o13 with ⟨⟩ | r0
  ·rintro x st' hq15
   clear hL14
   obtain ⟨rfl, hq15⟩ := hq15
   refine CQ_exit _ rfl <| .wk hq15 <| .seq <| .ru fine <| .ret ?_
   obtain rfl := Option.some.inj hr
   exact FinQ.r1 [aB false]
  ·rintro x st' hq15
   clear hL14
   obtain ⟨rfl, hq15⟩ := hq15
   obtain rfl := Option.some.inj hr
   exact CQ_ret _ hq15

theorem fiduciallaw55_flight_ok (n : Nat) (f : api_Flight) (r : Int) (hr : fiduciallaw55_flight n f = some r) : FnOk Tryz.prog 28 [.agg (api_Flight.c f)] (aI64 r) := by
 unfold fiduciallaw55_flight at hr
 refine FnOk.bd fine Tryz.func28 [.tmp 2] ?_
 unfold Tryz.f28
 simp only [Option.getD_some]
 refine .seq <| .r2 fine 42 [(1, .hp 0 0)] [.own (api_Flight.c f)] <| .seq <| .r3 fine 42 [(1, .hp 0 0), (3, aI64 0)] <| .seq ?_
 obtain ⟨v1, hc2, hr⟩ := bd hr
 refine .gn fine (ca4 [.own (api_Flight.c f), .own [aI64 f.Height]] (callOk_val (args := [.hs 1 0 1 1]) (l := [1]) rfl (SnL.cons (Sn.hs rfl (.inl rfl) (SnC.cons (Sn.pure rfl) SnC.nil) (fun h => nomatch h)) SnL.nil) (fiduciallaw55_out_ok n [f.Height] v1 hc2))) <| .mu 3 <| .ca cf0 <| .mu 1 <| .done <| .n2 42 [(1, .hp 0 0), (3, aI64 0), (4, aB v1)] [.own (api_Flight.c f), .own [aI64 f.Height]] <| .seq <| .seq <| .r3 fine 42 [(3, aI64 0), (4, aB v1), (14, slT (slC api_Pix.c) f.Strips), (15, aI64 (f.Strips.length : Int)), (16, aI64 0)] <| .block ?_
 replace hr := bd hr; obtain ⟨o57, hL58, hr⟩ := hr
 refine .loopO (σ := fun z0 => match z0 with | (n_3, bad_4, x_5) => ⟨mkS 42 0 [(3, aI64 n_3), (4, aB bad_4), (14, slT (slC api_Pix.c) f.Strips), (15, aI64 (f.Strips.length : Int)), (16, aI64 x_5)], []⟩) (Q := fun x st' => match (generalizing := false) o57 with | (n_30, bad_31) => x = .exit 0 ∧ Wk 0 st' ⟨mkS 42 0 [(3, aI64 n_30), (4, aB bad_31)], []⟩) hL58 ((Wk.gc [3, 4, 14, 15, 16] [] rfl pK0).to (by kernel_rfl)) ?_ ?_
 ·clear hr
  rintro m ⟨n_3, bad_4, x_5⟩ hr
  show CQ _ _ _ _ _ ⟨_, _⟩
  refine .seq <| .r3 fine 42 [(3, aI64 n_3), (4, aB bad_4), (14, slT (slC api_Pix.c) f.Strips), (15, aI64 (f.Strips.length : Int)), (16, aI64 x_5), (17, aB (decide (x_5 < (f.Strips.length : Int))))] <| .seq ?_
  refine .cd hr (fun hb34 hr => ?_) (fun hb34 hr => ?_)
  ·refine .skip <| .seq <| .block <| .seq ?_
   obtain ⟨hg35, hr⟩ := gd hr
   refine .r0 fine <| .p0 (v := .pp (f.Strips.flatMap (slC api_Pix.c)) (x_5.toNat * 1)) (Eq.trans (b := ORes.ofP (guardV (inR x_5 f.Strips.length) (.pp (f.Strips.flatMap (slC api_Pix.c)) (x_5.toNat * 1)))) (by kernel_rfl) (ofP_guard hg35)) <| .p0 (v := slT api_Pix.c (gt f.Strips x_5)) (Eq.trans (b := ORes.ofP ((f.Strips.flatMap (slC api_Pix.c))[x_5.toNat * 1]?)) (by kernel_rfl) (ofP_some (flat_get (slC_len _) (inR_lt hg35) (by decide : 0 < 1) (by omega : x_5.toNat * 1 = x_5.toNat * 1 + 0) (by kernel_rfl)))) <| .mu 1 <| .done <| .n2 42 [(3, aI64 n_3), (4, aB bad_4), (6, slT api_Pix.c (gt f.Strips x_5)), (14, slT (slC api_Pix.c) f.Strips), (15, aI64 (f.Strips.length : Int)), (16, aI64 x_5)] [] <| .seq <| .r3 fine 42 [(3, aI64 n_3), (4, aB bad_4), (14, slT (slC api_Pix.c) f.Strips), (15, aI64 (f.Strips.length : Int)), (16, aI64 x_5), (20, slT api_Pix.c (gt f.Strips x_5)), (21, aI64 ((gt f.Strips x_5).length : Int)), (22, aI64 0)] <| .block ?_
   replace hr := bd hr; obtain ⟨o54, hL55, hr⟩ := hr
   refine .loopO (σ := fun z0 => match z0 with | (n_36, bad_37, x_38) => ⟨mkS 42 0 [(3, aI64 n_36), (4, aB bad_37), (14, slT (slC api_Pix.c) f.Strips), (15, aI64 (f.Strips.length : Int)), (16, aI64 x_5), (20, slT api_Pix.c (gt f.Strips x_5)), (21, aI64 ((gt f.Strips x_5).length : Int)), (22, aI64 x_38)], []⟩) (Q := fun x st' => match (generalizing := false) o54 with | (n_45, bad_46) => x = .exit 2 ∧ Wk 0 st' ⟨mkS 42 0 [(3, aI64 n_45), (4, aB bad_46), (14, slT (slC api_Pix.c) f.Strips), (15, aI64 (f.Strips.length : Int)), (16, aI64 x_5)], []⟩) hL55 ((Wk.gc [3, 4, 14, 15, 16, 20, 21, 22] [] rfl pK0).to (by kernel_rfl)) ?_ ?_
   ·clear hr
    rintro m ⟨n_36, bad_37, x_38⟩ hr
    show CQ _ _ _ _ _ ⟨_, _⟩
    refine .seq <| .r3 fine 42 [(3, aI64 n_36), (4, aB bad_37), (14, slT (slC api_Pix.c) f.Strips), (15, aI64 (f.Strips.length : Int)), (16, aI64 x_5), (20, slT api_Pix.c (gt f.Strips x_5)), (21, aI64 ((gt f.Strips x_5).length : Int)), (22, aI64 x_38), (23, aB (decide (x_38 < ((gt f.Strips x_5).length : Int))))] <| .seq ?_
    refine .cd hr (fun hb49 hr => ?_) (fun hb49 hr => ?_)
    ·refine .skip <| .seq <| .block <| .seq ?_
     obtain ⟨hg50, hr⟩ := gd hr
     refine .r0 fine <| .p0 (v := .pp ((gt f.Strips x_5).flatMap api_Pix.c) (x_38.toNat * 2)) (Eq.trans (b := ORes.ofP (guardV (inR x_38 (gt f.Strips x_5).length) (.pp ((gt f.Strips x_5).flatMap api_Pix.c) (x_38.toNat * 2)))) (by kernel_rfl) (ofP_guard hg50)) <| .p0 (v := .agg (api_Pix.c (gt (gt f.Strips x_5) x_38))) (Eq.trans (b := ORes.ofP (guardV (decide (2 ≤ (((gt f.Strips x_5).flatMap api_Pix.c).drop (x_38.toNat * 2)).length)) (.agg ((((gt f.Strips x_5).flatMap api_Pix.c).drop (x_38.toNat * 2)).take 2)))) (by kernel_rfl) (flat_load api_Pix.len (inR_lt hg50) (by decide) (by omega : x_38.toNat * 2 = x_38.toNat * 2 + 0) (by kernel_rfl))) <| .mu 2 <| .done <| .n2 42 [(3, aI64 n_36), (4, aB bad_37), (8, .hp 0 0), (14, slT (slC api_Pix.c) f.Strips), (15, aI64 (f.Strips.length : Int)), (16, aI64 x_5), (20, slT api_Pix.c (gt f.Strips x_5)), (21, aI64 ((gt f.Strips x_5).length : Int)), (22, aI64 x_38)] [.own (api_Pix.c (gt (gt f.Strips x_5) x_38))] <| .seq <| .r3 fine 42 [(3, aI64 (wrapF .i64 (n_36 + 1))), (4, aB bad_37), (8, .hp 0 0), (14, slT (slC api_Pix.c) f.Strips), (15, aI64 (f.Strips.length : Int)), (16, aI64 x_5), (20, slT api_Pix.c (gt f.Strips x_5)), (21, aI64 ((gt f.Strips x_5).length : Int)), (22, aI64 x_38)] ?_
     rcases Bool.eq_false_or_eq_true bad_37 with hb51 | hb51
     ·replace hr := cd_t hb51 hr
      refine .r0 fine <| .p0 (v := aB true) (Eq.trans (b := some (.pure (aB bad_37))) (by kernel_rfl) (by rw [hb51])) <| .mu 9 <| .done <| .pop <| .ru fine ?_
      exact loopF_back (wrapF .i64 (n_36 + 1), true, wrapF .i64 (x_38 + 1)) hr ((Wk.gc [3, 4, 14, 15, 16, 20, 21, 22] [] rfl pK0).to (by kernel_rfl))
     ·replace hr := cd_f hb51 hr
      obtain ⟨v52, hc53, hr⟩ := bd hr
      refine .gn fine (ca4 [.own (api_Pix.c (gt (gt f.Strips x_5) x_38)), .own (api_Pix.c (gt (gt f.Strips x_5) x_38))] (callOk_val (args := [.hs 1 0 2 1]) (l := [1]) rfl (SnL.cons (Sn.hs rfl (.inl rfl) (SnC.cons (Sn.pure rfl) (SnC.cons (Sn.pure rfl) SnC.nil)) (fun h => nomatch h)) SnL.nil) (fiduciallaw55_out_ok n [(gt (gt f.Strips x_5) x_38).X, (gt (gt f.Strips x_5) x_38).Y] v52 hc53))) <| .p0 (v := aB false) (Eq.trans (b := some (.pure (aB bad_37))) (by kernel_rfl) (by rw [hb51])) <| .mu 6 <| .ca cf0 <| .mu 2 <| .done <| .pop <| .ru fine ?_
      exact loopF_back (wrapF .i64 (n_36 + 1), v52, wrapF .i64 (x_38 + 1)) hr ((Wk.gc [3, 4, 14, 15, 16, 20, 21, 22] [] rfl pK0).to (by kernel_rfl))
    ·refine .leave rfl ?_
     obtain rfl := Option.some.inj hr
     exact ⟨rfl, ((Wk.gc [3, 4, 14, 15, 16] [] rfl pK0).to (by kernel_rfl))⟩
   ·rcases o54 with ⟨n_45, bad_46⟩
    rintro x st' hq56
    clear hL55
    obtain ⟨rfl, hq56⟩ := hq56
    refine CQ_exit _ rfl <| .pop <| .wk hq56 <| .ru fine ?_
    exact loopF_back (n_45, bad_46, wrapF .i64 (x_5 + 1)) hr ((Wk.gc [3, 4, 14, 15, 16] [] rfl pK0).to (by kernel_rfl))
  ·refine .leave rfl ?_
   obtain rfl := Option.some.inj hr
   exact ⟨rfl, ((Wk.gc [3, 4] [] rfl pK0).to (by kernel_rfl))⟩
 ·rcases o57 with ⟨n_30, bad_31⟩
  rintro x st' hq59
  clear hL58
  obtain ⟨rfl, hq59⟩ := hq59
  refine CQ_exit _ rfl <| .wk hq59 <| .seq <| .seq <| .r3 fine 42 [(3, aI64 n_30), (39, aB bad_31)] ?_
  refine .cd hr (fun hb60 hr => ?_) (fun hb60 hr => ?_)
  ·refine .seq <| .ru fine <| .ret ?_
   obtain rfl := Option.some.inj hr
   exact FinQ.r1 [aI64 2]
  ·refine .skip <| .seq <| .seq <| .r3 fine 42 [(41, aB (decide (n_30 > 256)))] ?_
   refine .cd hr (fun hb61 hr => ?_) (fun hb61 hr => ?_)
   ·refine .seq <| .ru fine <| .ret ?_
    obtain rfl := Option.some.inj hr
    exact FinQ.r1 [aI64 3]
   ·refine .skip <| .seq <| .ru fine <| .ret ?_
    obtain rfl := Option.some.inj hr
    exact FinQ.r1 [aI64 0]

theorem fiduciallaw55_PlanRoutes_ok (n : Nat) (f : api_Flight) (r : Bool) (hr : fiduciallaw55_PlanRoutes n f = some r) : FnOk Tryz.prog 7 [.agg (api_Flight.c f)] (aB r) := by
 unfold fiduciallaw55_PlanRoutes at hr
 refine FnOk.bd fine Tryz.func7 [.tmp 2] ?_
 unfold Tryz.f7
 simp only [Option.getD_some]
 refine .seq <| .r2 fine 58 [(1, .hp 0 0)] [.own (api_Flight.c f)] <| .seq <| .seq ?_
 obtain ⟨v1, hc2, hr⟩ := bd hr
 refine .g1 fine (ok0 (fiduciallaw55_known_ok n v1 hc2)) <| .ca cf0 <| .mu 1 <| .done <| .n2 58 [(1, .hp 0 0), (10, aB (!v1))] [.own (api_Flight.c f)] ?_
 refine .cd hr (fun hb4 hr => ?_) (fun hb4 hr => ?_)
 ·refine .seq <| .ru fine <| .ret ?_
  obtain rfl := Option.some.inj hr
  exact FinQ.r1 [aB false]
 ·refine .skip <| .seq <| .seq ?_
  obtain ⟨v5, hc6, hr⟩ := bd hr
  refine .g1 fine (ok0 (fiduciallaw55_few_ok n f 300 v5 hc6)) <| .mu 1 <| .ca cf0 <| .mu 1 <| .done <| .n2 58 [(1, .hp 0 0), (13, aB (!v5))] [.own (api_Flight.c f)] ?_
  refine .cd hr (fun hb8 hr => ?_) (fun hb8 hr => ?_)
  ·refine .seq <| .ru fine <| .ret ?_
   obtain rfl := Option.some.inj hr
   exact FinQ.r1 [aB true]
  ·refine .skip <| .seq ?_
   obtain ⟨v9, hc10, hr⟩ := bd hr
   refine .g1 fine (ok0 (plan_Route_ok n f v9 hc10)) <| .mu 1 <| .ca cf0 <| .mu 5 <| .done <| .n2 58 [(1, .hp 0 0), (3, slT api_Pix.c v9.1), (4, aI64 v9.2)] [.own (api_Flight.c f)] <| .seq <| .seq ?_
   obtain ⟨v11, hc12, hr⟩ := bd hr
   refine .g1 fine (ok0 (fiduciallaw55_flight_ok n f v11 hc12)) <| .mu 1 <| .ca cf0 <| .mu 1 <| .done <| .n2 58 [(1, .hp 0 0), (3, slT api_Pix.c v9.1), (4, aI64 v9.2), (5, aI64 v11)] [.own (api_Flight.c f)] <| .seq <| .r3 fine 58 [(1, .hp 0 0), (3, slT api_Pix.c v9.1), (4, aI64 v9.2), (5, aI64 v11), (22, aB ((v11 : Int) != 0))] ?_
   refine .cd hr (fun hb15 hr => ?_) (fun hb15 hr => ?_)
   ·refine .seq ?_
    replace hr := bd hr; obtain ⟨x_16, hL19, hr⟩ := hr
    refine .app1 (Q := fun x st' => x = .normal ∧ Wk 0 st' ⟨mkS 58 0 [(2, aB x_16)], []⟩) ?_ ?_
    ·clear hr
     have hr := hL19
     clear hL19
     rcases Bool.eq_false_or_eq_true ((v9.2 : Int) == v11) with hb17 | hb17
     ·replace hr := cd_t hb17 hr
      refine .r0 fine <| .mu 2 <| .p0 (v := aB true) (Eq.trans (b := some (.pure (aB ((v9.2 : Int) == v11)))) (by kernel_rfl) (by rw [hb17])) <| .mu 6 <| .done ?_
      obtain rfl := Option.some.inj hr
      exact ⟨rfl, ((Wk.gc [2] [] rfl pK0).to (by kernel_rfl))⟩
     ·replace hr := cd_f hb17 hr
      refine .r0 fine <| .mu 2 <| .p0 (v := aB false) (Eq.trans (b := some (.pure (aB ((v9.2 : Int) == v11)))) (by kernel_rfl) (by rw [hb17])) <| .mu 6 <| .done ?_
      obtain rfl := Option.some.inj hr
      exact ⟨rfl, ((Wk.gc [2] [] rfl pK0).to (by kernel_rfl))⟩
    ·rintro x st' hq20
     clear hL19
     obtain ⟨rfl, hq20⟩ := hq20
     refine .wk hq20 <| .ret ?_
     obtain rfl := Option.some.inj hr
     exact FinQ.r1 [aB x_16]
   ·refine .skip <| .seq <| .r2 fine 58 [(1, .hp 0 0), (3, slT api_Pix.c v9.1), (4, aI64 v9.2), (6, .hs 1 0 0 2)] [.own (api_Flight.c f), .own []] <| .seq <| .seq <| .r3 fine 58 [(3, slT api_Pix.c v9.1), (4, aI64 v9.2), (6, .hs 1 0 0 2), (33, slT (slC api_Pix.c) f.Strips), (34, aI64 (f.Strips.length : Int)), (35, aI64 0)] <| .block ?_
    replace hr := bd hr; obtain ⟨want_36, hL52, hr⟩ := hr
    refine .loopO (σ := fun z0 => match z0 with | (want_21, x_22) => ⟨mkS 58 0 [(3, slT api_Pix.c v9.1), (4, aI64 v9.2), (6, .hs 0 0 want_21.length 2), (33, slT (slC api_Pix.c) f.Strips), (34, aI64 (f.Strips.length : Int)), (35, aI64 x_22)], [.own (want_21.flatMap api_Pix.c)]⟩) (Q := fun x st' => x = .exit 0 ∧ Wk 0 st' ⟨mkS 58 0 [(3, slT api_Pix.c v9.1), (4, aI64 v9.2), (6, .hs 0 0 want_36.length 2)], [.own (want_36.flatMap api_Pix.c)]⟩) hL52 ((Wk.gc [3, 4, 6, 33, 34, 35] [(1, false)] rfl (pKc trivial)).to (by kernel_rfl)) ?_ ?_
    ·clear hr
     rintro m ⟨want_21, x_22⟩ hr
     show CQ _ _ _ _ _ ⟨_, _⟩
     refine .seq <| .r3 fine 58 [(3, slT api_Pix.c v9.1), (4, aI64 v9.2), (6, .hs 0 0 want_21.length 2), (33, slT (slC api_Pix.c) f.Strips), (34, aI64 (f.Strips.length : Int)), (35, aI64 x_22), (36, aB (decide (x_22 < (f.Strips.length : Int))))] <| .seq ?_
     refine .cd hr (fun hb39 hr => ?_) (fun hb39 hr => ?_)
     ·refine .skip <| .seq <| .block <| .seq ?_
      obtain ⟨hg40, hr⟩ := gd hr
      refine .r0 fine <| .mu 1 <| .p0 (v := .pp (f.Strips.flatMap (slC api_Pix.c)) (x_22.toNat * 1)) (Eq.trans (b := ORes.ofP (guardV (inR x_22 f.Strips.length) (.pp (f.Strips.flatMap (slC api_Pix.c)) (x_22.toNat * 1)))) (by kernel_rfl) (ofP_guard hg40)) <| .p0 (v := slT api_Pix.c (gt f.Strips x_22)) (Eq.trans (b := ORes.ofP ((f.Strips.flatMap (slC api_Pix.c))[x_22.toNat * 1]?)) (by kernel_rfl) (ofP_some (flat_get (slC_len _) (inR_lt hg40) (by decide : 0 < 1) (by omega : x_22.toNat * 1 = x_22.toNat * 1 + 0) (by kernel_rfl)))) <| .mu 2 <| .done <| .n2 58 [(3, slT api_Pix.c v9.1), (4, aI64 v9.2), (6, .hs 0 0 want_21.length 2), (7, aI64 x_22), (8, slT api_Pix.c (gt f.Strips x_22)), (33, slT (slC api_Pix.c) f.Strips), (34, aI64 (f.Strips.length : Int)), (35, aI64 x_22)] [.own (want_21.flatMap api_Pix.c)] <| .seq ?_
      obtain ⟨v41, hc42, hr⟩ := bd hr
      refine .g1 fine (callOk_mutU (args := [slT api_Pix.c (gt f.Strips x_22)]) 0 1 [] [false] (slices_Clone_fiducial_api_Pix_fiducial_api_Pix_w_ok n (gt f.Strips x_22) v41 hc42) trivial (by exact ⟨ids_flat api_Pix.pure _, trivial⟩) rfl rfl (by kernel_rfl) (by kernel_rfl)) <| .mu 1 <| .ca cf0 <| .mu 1 <| .done <| .n2 58 [(3, slT api_Pix.c v9.1), (4, aI64 v9.2), (6, .hs 0 0 want_21.length 2), (7, aI64 x_22), (8, .hs 1 0 v41.length 2), (33, slT (slC api_Pix.c) f.Strips), (34, aI64 (f.Strips.length : Int)), (35, aI64 x_22)] [.own (want_21.flatMap api_Pix.c), .own (v41.flatMap api_Pix.c)] <| .seq <| .seq <| .r3 fine 58 [(3, slT api_Pix.c v9.1), (4, aI64 v9.2), (6, .hs 0 0 want_21.length 2), (8, .hs 1 0 v41.length 2), (33, slT (slC api_Pix.c) f.Strips), (34, aI64 (f.Strips.length : Int)), (35, aI64 x_22), (44, aB (((x_22.tmod 2) : Int) == 1))] ?_
      refine .cd hr (fun hb43 hr => ?_) (fun hb43 hr => ?_)
      ·obtain ⟨v44, hc45, hr⟩ := bd hr
       obtain ⟨hg46, hr⟩ := gd hr
       refine .g1 fine (callOk_mutU (args := [.hs 1 0 v41.length 2]) 1 0 [(1, false)] [false] (slices_Reverse_fiducial_api_Pix_fiducial_api_Pix_w_ok n v41 v44 hc45) (by exact ⟨ids_flat api_Pix.pure _, trivial⟩) (by exact ⟨ids_flat api_Pix.pure _, trivial⟩) rfl rfl (by kernel_rfl) (by kernel_rfl)) <| .mu 1 <| .ca cf0 <| .done <| .n2 58 [(3, slT api_Pix.c v9.1), (4, aI64 v9.2), (6, .hs 0 0 want_21.length 2), (8, .hs 1 0 v41.length 2), (33, slT (slC api_Pix.c) f.Strips), (34, aI64 (f.Strips.length : Int)), (35, aI64 x_22)] [.own (want_21.flatMap api_Pix.c), .own (v44.flatMap api_Pix.c)] ?_
       obtain ⟨hg47, hg48, hr⟩ := gd2 hr
       refine .r0 fine <| .mu 2 <| .e0 (v := .hs 2 0 (want_21 ++ v44).length 2) (ws := [(0, .dead), (2, .own ((want_21 ++ v44).flatMap api_Pix.c))]) (Eq.trans (b := appS (decide (0 + v41.length * 2 ≤ (v44.flatMap api_Pix.c).length)) (((v44.flatMap api_Pix.c).drop 0).take (v41.length * 2)) v41.length (fun z1 z2 => guardO (decide (0 + want_21.length * 2 ≤ (want_21.flatMap api_Pix.c).length) && decide ((want_21.length + z2) * 16 ≤ 140737488355328) && decide (want_21.length + z2 ≤ 4611686018427387904)) (some (.eff (.hs 2 0 (want_21.length + z2) 2) [(0, .dead), (2, .own (((want_21.flatMap api_Pix.c).drop 0).take (want_21.length * 2) ++ z1))])))) (by kernel_rfl) (appS_t (by rw [← (of_decide_eq_true hg46)]; exact flat_lenO api_Pix.len) (by rw [← (of_decide_eq_true hg46)]; exact flat_all api_Pix.len) (app_own (l := want_21) (xs := v44) api_Pix.len rfl (of_decide_eq_true hg46) rfl hg47 hg48))) <| .mu 1 <| .done <| .pop <| .ru fine ?_
       exact loopF_back (want_21 ++ v44, wrapF .i64 (x_22 + 1)) hr ((Wk.gc [3, 4, 6, 33, 34, 35] [(2, false)] rfl (pKo api_Pix.c api_Pix.pure (want_21 ++ v44) trivial)).to (by kernel_rfl))
      ·refine .skip ?_
       obtain ⟨hg49, hg50, hr⟩ := gd2 hr
       refine .r0 fine <| .mu 2 <| .e0 (v := .hs 2 0 (want_21 ++ v41).length 2) (ws := [(0, .dead), (2, .own ((want_21 ++ v41).flatMap api_Pix.c))]) (Eq.trans (b := appS (decide (0 + v41.length * 2 ≤ (v41.flatMap api_Pix.c).length)) (((v41.flatMap api_Pix.c).drop 0).take (v41.length * 2)) v41.length (fun z1 z2 => guardO (decide (0 + want_21.length * 2 ≤ (want_21.flatMap api_Pix.c).length) && decide ((want_21.length + z2) * 16 ≤ 140737488355328) && decide (want_21.length + z2 ≤ 4611686018427387904)) (some (.eff (.hs 2 0 (want_21.length + z2) 2) [(0, .dead), (2, .own (((want_21.flatMap api_Pix.c).drop 0).take (want_21.length * 2) ++ z1))])))) (by kernel_rfl) (appS_t (flat_lenO api_Pix.len) (flat_all api_Pix.len) (app_own (l := want_21) (xs := v41) api_Pix.len rfl rfl rfl hg49 hg50))) <| .mu 1 <| .done <| .pop <| .ru fine ?_
       exact loopF_back (want_21 ++ v41, wrapF .i64 (x_22 + 1)) hr ((Wk.gc [3, 4, 6, 33, 34, 35] [(2, false)] rfl (pKo api_Pix.c api_Pix.pure (want_21 ++ v41) trivial)).to (by kernel_rfl))
     ·refine .leave rfl ?_
      obtain rfl := Option.some.inj hr
      exact ⟨rfl, ((Wk.gc [3, 4, 6] [(0, false)] rfl (pKo api_Pix.c api_Pix.pure want_21 trivial)).to (by kernel_rfl))⟩
    ·rintro x st' hq53
     clear hL52
     obtain ⟨rfl, hq53⟩ := hq53
     refine CQ_exit _ rfl <| .wk hq53 <| .seq ?_
     rcases Bool.eq_false_or_eq_true ((v9.2 : Int) == 0) with hb54 | hb54
     ·replace hr := cd_t hb54 hr
      obtain ⟨v55, hc56, hr⟩ := bd hr
      refine .g1 fine (callOk_val (args := [slT api_Pix.c v9.1, .hs 0 0 want_36.length 2]) (l := [0]) rfl (SnL.cons (Sn.pure rfl) (SnL.cons (Sn.hs rfl (.inl rfl) (SnC.pure (ids_flat api_Pix.pure _)) (fun h => flat_nil0 h)) SnL.nil)) (slices_Equal_fiducial_api_Pix_fiducial_api_Pix_ok n v9.1 want_36 v55 hc56)) <| .mu 1 <| .p0 (v := aB true) (Eq.trans (b := some (.pure (aB ((v9.2 : Int) == 0)))) (by kernel_rfl) (by rw [hb54])) <| .mu 3 <| .ca cf0 <| .mu 2 <| .done <| .ret ?_
      obtain rfl := Option.some.inj hr
      exact FinQ.r1 [aB v55]
     ·replace hr := cd_f hb54 hr
      refine .r0 fine <| .mu 1 <| .p0 (v := aB false) (Eq.trans (b := some (.pure (aB ((v9.2 : Int) == 0)))) (by kernel_rfl) (by rw [hb54])) <| .mu 6 <| .done <| .ret ?_
      obtain rfl := Option.some.inj hr
      exact FinQ.r1 [aB false]
end Go.L
