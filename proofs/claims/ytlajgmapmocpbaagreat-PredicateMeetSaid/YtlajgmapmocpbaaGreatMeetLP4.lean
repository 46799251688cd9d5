/- The program's functions compute what the plain Lean programs compute, part 4; printed by a program. -/
import Derived.Test.YtlajgmapmocpbaaGreatMeetLP3
import Derived.Test.YtlajgmapmocpbaaGreatL0h
import Derived.Test.YtlajgmapmocpbaaGreatChecked
import Derived.KernelRfl
set_option linter.unusedVariables false
set_option linter.unusedSimpArgs false
set_option maxRecDepth 100000
set_option maxHeartbeats 4000000
namespace Go.L
open Go Go.Eng Go.Proofs
theorem fiducialref09_ends_ok (n : Nat) (a : api_Pix) (b : api_Pix) (c : api_Pix) (d : api_Pix) (r : List api_Pix) (hr : fiducialref09_ends n a b c d = some r) : FnOk Tryz.prog 79 [.agg (api_Pix.c a), .agg (api_Pix.c b), .agg (api_Pix.c c), .agg (api_Pix.c d)] (slT api_Pix.c r) := by
 unfold fiducialref09_ends at hr
 refine FnOk.bd fine Tryz.func79 [.tmp 8] ?_
 unfold Tryz.f79
 simp only [Option.getD_some]
 refine .seq <| .r2 fine 72 [(4, .hp 0 0), (5, .hp 1 0), (6, .hp 2 0), (7, .hp 3 0)] [.own (api_Pix.c a), .own (api_Pix.c b), .own (api_Pix.c c), .own (api_Pix.c d)] <| .seq <| .r2 fine 72 [(4, .hp 0 0), (5, .hp 1 0), (6, .hp 2 0), (7, .hp 3 0), (9, .hs 4 0 0 2)] [.own (api_Pix.c a), .own (api_Pix.c b), .own (api_Pix.c c), .own (api_Pix.c d), .own []] <| .seq <| .r2 fine 72 [(4, .hp 0 0), (5, .hp 1 0), (6, .hp 2 0), (7, .hp 3 0), (9, .hs 4 0 0 2), (10, .hs 5 0 4 2)] [.own (api_Pix.c a), .own (api_Pix.c b), .own (api_Pix.c c), .own (api_Pix.c d), .own [], .own [aI64 a.X, aI64 a.Y, aI64 b.X, aI64 b.Y, aI64 c.X, aI64 c.Y, aI64 d.X, aI64 d.Y]] <| .seq <| .seq <| .r3 fine 72 [(4, .hp 0 0), (5, .hp 1 0), (6, .hp 2 0), (7, .hp 3 0), (9, .hs 4 0 0 2), (10, .hs 5 0 4 2), (11, aI64 0)] <| .block ?_
 replace hr := bd hr; obtain ⟨out_44, hL88, hr⟩ := hr
 refine .loopO (σ := fun z0 => match z0 with | (out_1, i_2) => ⟨mkS 72 0 [(4, .hp 0 0), (5, .hp 1 0), (6, .hp 2 0), (7, .hp 3 0), (9, .hs 4 0 out_1.length 2), (10, .hs 5 0 ([a, b, c, d].length) 2), (11, aI64 i_2)], [.own (api_Pix.c a), .own (api_Pix.c b), .own (api_Pix.c c), .own (api_Pix.c d), .own (out_1.flatMap api_Pix.c), .own ([a, b, c, d].flatMap api_Pix.c)]⟩) (Q := fun x st' => x = .exit 0 ∧ Wk 0 st' ⟨mkS 72 0 [(9, .hs 0 0 out_44.length 2)], [.own (out_44.flatMap api_Pix.c)]⟩) hL88 ((Wk.gc [4, 5, 6, 7, 9, 10, 11] [(0, true), (1, true), (2, true), (3, true), (4, false), (5, false)] rfl (pKt (pKt (pKt (pKt (pKc (pKc trivial))))))).to (by kernel_rfl)) ?_ ?_
 ·clear hr
  rintro m ⟨out_1, i_2⟩ hr
  show CQ _ _ _ _ _ ⟨_, _⟩
  refine .seq <| .seq <| .r3 fine 72 [(4, .hp 0 0), (5, .hp 1 0), (6, .hp 2 0), (7, .hp 3 0), (9, .hs 4 0 out_1.length 2), (10, .hs 5 0 ([a, b, c, d].length) 2), (11, aI64 i_2), (22, aB (decide (i_2 < 4)))] ?_
  refine .cd hr (fun hb46 hr => ?_) (fun hb46 hr => ?_)
  ·refine .skip <| .seq <| .block <| .seq ?_
   obtain ⟨hg47, hr⟩ := gd hr
   obtain ⟨v48, hc49, hr⟩ := bd hr
   refine .t1 fine (ok0 (fiducialref09_Between_ok n c d (gt [a, b, c, d] i_2) v48 hc49)) <| .mu 4 <| .pure (v := .hp 5 (0 + i_2.toNat * 2)) (by kernel_rfl) (Eq.trans (b := ORes.ofP (guardV (inR i_2 ([a, b, c, d].length)) (.hp 5 (0 + i_2.toNat * 2)))) (by kernel_rfl) (ofP_guard hg47)) (by kernel_rfl) <| .pure (v := .agg (api_Pix.c (gt [a, b, c, d] i_2))) (by kernel_rfl) (Eq.trans (b := ORes.ofP (guardV (decide (2 ≤ (([a, b, c, d].flatMap api_Pix.c).drop (0 + i_2.toNat * 2)).length)) (.agg ((([a, b, c, d].flatMap api_Pix.c).drop (0 + i_2.toNat * 2)).take 2)))) (by kernel_rfl) (flat_load api_Pix.len (inR_lt hg47) (by decide) (by omega : 0 + i_2.toNat * 2 = i_2.toNat * 2 + 0) (by kernel_rfl))) (by kernel_rfl) <| .ca cf0 <| .mu 1 ?_
   refine .done ⟨by kernel_rfl, ?_⟩
   refine .n2 72 [(4, .hp 0 0), (5, .hp 1 0), (6, .hp 2 0), (7, .hp 3 0), (9, .hs 4 0 out_1.length 2), (10, .hs 5 0 ([a, b, c, d].length) 2), (11, aI64 i_2), (12, aB v48)] [.own (api_Pix.c a), .own (api_Pix.c b), .own (api_Pix.c c), .own (api_Pix.c d), .own (out_1.flatMap api_Pix.c), .own ([a, b, c, d].flatMap api_Pix.c)] <| .seq <| .seq <| .r3 fine 72 [(4, .hp 0 0), (5, .hp 1 0), (6, .hp 2 0), (7, .hp 3 0), (9, .hs 4 0 out_1.length 2), (10, .hs 5 0 ([a, b, c, d].length) 2), (11, aI64 i_2), (12, aB v48), (33, aB (decide (i_2 ≥ 2)))] ?_
   refine .cd hr (fun hb50 hr => ?_) (fun hb50 hr => ?_)
   ·obtain ⟨v51, hc52, hr⟩ := bd hr
    refine .t1 fine (ok0 (fiducialref09_Between_ok n a b (gt [a, b, c, d] i_2) v51 hc52)) <| .mu 4 <| .pure (v := .hp 5 (0 + i_2.toNat * 2)) (by kernel_rfl) (Eq.trans (b := ORes.ofP (guardV (inR i_2 ([a, b, c, d].length)) (.hp 5 (0 + i_2.toNat * 2)))) (by kernel_rfl) (ofP_guard hg47)) (by kernel_rfl) <| .pure (v := .agg (api_Pix.c (gt [a, b, c, d] i_2))) (by kernel_rfl) (Eq.trans (b := ORes.ofP (guardV (decide (2 ≤ (([a, b, c, d].flatMap api_Pix.c).drop (0 + i_2.toNat * 2)).length)) (.agg ((([a, b, c, d].flatMap api_Pix.c).drop (0 + i_2.toNat * 2)).take 2)))) (by kernel_rfl) (flat_load api_Pix.len (inR_lt hg47) (by decide) (by omega : 0 + i_2.toNat * 2 = i_2.toNat * 2 + 0) (by kernel_rfl))) (by kernel_rfl) <| .ca cf0 <| .mu 1 ?_
    refine .done ⟨by kernel_rfl, ?_⟩
    refine .n2 72 [(4, .hp 0 0), (5, .hp 1 0), (6, .hp 2 0), (7, .hp 3 0), (9, .hs 4 0 out_1.length 2), (10, .hs 5 0 ([a, b, c, d].length) 2), (11, aI64 i_2), (12, aB v51)] [.own (api_Pix.c a), .own (api_Pix.c b), .own (api_Pix.c c), .own (api_Pix.c d), .own (out_1.flatMap api_Pix.c), .own ([a, b, c, d].flatMap api_Pix.c)] <| .seq <| .r3 fine 72 [(4, .hp 0 0), (5, .hp 1 0), (6, .hp 2 0), (7, .hp 3 0), (9, .hs 4 0 out_1.length 2), (10, .hs 5 0 ([a, b, c, d].length) 2), (11, aI64 i_2), (12, aB v51), (13, aB false)] <| .seq <| .seq <| .r3 fine 72 [(4, .hp 0 0), (5, .hp 1 0), (6, .hp 2 0), (7, .hp 3 0), (9, .hs 4 0 out_1.length 2), (10, .hs 5 0 ([a, b, c, d].length) 2), (11, aI64 i_2), (12, aB v51), (13, aB false), (14, aI64 0)] <| .block ?_
    replace hr := bd hr; obtain ⟨again_58, hL64, hr⟩ := hr
    refine .loopO (σ := fun z0 => match z0 with | (again_53, j_54) => ⟨mkS 72 0 [(4, .hp 0 0), (5, .hp 1 0), (6, .hp 2 0), (7, .hp 3 0), (9, .hs 4 0 out_1.length 2), (10, .hs 5 0 ([a, b, c, d].length) 2), (11, aI64 i_2), (12, aB v51), (13, aB again_53), (14, aI64 j_54)], [.own (api_Pix.c a), .own (api_Pix.c b), .own (api_Pix.c c), .own (api_Pix.c d), .own (out_1.flatMap api_Pix.c), .own ([a, b, c, d].flatMap api_Pix.c)]⟩) (Q := fun x st' => x = .exit 2 ∧ Wk 0 st' ⟨mkS 72 0 [(4, .hp 0 0), (5, .hp 1 0), (6, .hp 2 0), (7, .hp 3 0), (9, .hs 4 0 out_1.length 2), (10, .hs 5 0 ([a, b, c, d].length) 2), (11, aI64 i_2), (12, aB v51), (13, aB again_58)], [.own (api_Pix.c a), .own (api_Pix.c b), .own (api_Pix.c c), .own (api_Pix.c d), .own (out_1.flatMap api_Pix.c), .own ([a, b, c, d].flatMap api_Pix.c)]⟩) hL64 ((Wk.gc [4, 5, 6, 7, 9, 10, 11, 12, 13, 14] [(0, true), (1, true), (2, true), (3, true), (4, false), (5, false)] rfl (pKt (pKt (pKt (pKt (pKo api_Pix.c api_Pix.pure out_1 (pKo api_Pix.c api_Pix.pure [a, b, c, d] trivial))))))).to (by kernel_rfl)) ?_ ?_
    ·clear hr
     rintro m ⟨again_53, j_54⟩ hr
     show CQ _ _ _ _ _ ⟨_, _⟩
     refine .seq <| .seq <| .r3 fine 72 [(4, .hp 0 0), (5, .hp 1 0), (6, .hp 2 0), (7, .hp 3 0), (9, .hs 4 0 out_1.length 2), (10, .hs 5 0 ([a, b, c, d].length) 2), (11, aI64 i_2), (12, aB v51), (13, aB again_53), (14, aI64 j_54), (44, aB (decide (j_54 < (out_1.length : Int))))] ?_
     refine .cd hr (fun hb60 hr => ?_) (fun hb60 hr => ?_)
     ·refine .skip <| .seq <| .block ?_
      rcases Bool.eq_false_or_eq_true again_53 with hb61 | hb61
      ·replace hr := cd_t hb61 hr
       refine .regionT fine callOf_nil <| .pure (v := aB true) (by kernel_rfl) (Eq.trans (b := some (.pure (aB again_53))) (by kernel_rfl) (by rw [hb61])) (by kernel_rfl) <| .mu 12 ?_
       refine .done ⟨by kernel_rfl, ?_⟩
       refine .pop <| .ru fine ?_
       exact loopF_back (true, wrapF .i64 (j_54 + 1)) hr ((Wk.gc [4, 5, 6, 7, 9, 10, 11, 12, 13, 14] [(0, true), (1, true), (2, true), (3, true), (4, false), (5, false)] rfl (pKt (pKt (pKt (pKt (pKo api_Pix.c api_Pix.pure out_1 (pKo api_Pix.c api_Pix.pure [a, b, c, d] trivial))))))).to (by kernel_rfl))
      ·replace hr := cd_f hb61 hr
       obtain ⟨hg62, hr⟩ := gd hr
       refine .regionT fine callOf_nil <| .pure (v := aB false) (by kernel_rfl) (Eq.trans (b := some (.pure (aB again_53))) (by kernel_rfl) (by rw [hb61])) (by kernel_rfl) <| .mu 3 <| .pure (v := .hp 4 (0 + j_54.toNat * 2)) (by kernel_rfl) (Eq.trans (b := ORes.ofP (guardV (inR j_54 out_1.length) (.hp 4 (0 + j_54.toNat * 2)))) (by kernel_rfl) (ofP_guard hg62)) (by kernel_rfl) <| .pure (v := .agg (api_Pix.c (gt out_1 j_54))) (by kernel_rfl) (Eq.trans (b := ORes.ofP (guardV (decide (2 ≤ ((out_1.flatMap api_Pix.c).drop (0 + j_54.toNat * 2)).length)) (.agg (((out_1.flatMap api_Pix.c).drop (0 + j_54.toNat * 2)).take 2)))) (by kernel_rfl) (flat_load api_Pix.len (inR_lt hg62) (by decide) (by omega : 0 + j_54.toNat * 2 = j_54.toNat * 2 + 0) (by kernel_rfl))) (by kernel_rfl) <| .mu 2 <| .pure (v := .hp 5 (0 + i_2.toNat * 2)) (by kernel_rfl) (Eq.trans (b := ORes.ofP (guardV (inR i_2 ([a, b, c, d].length)) (.hp 5 (0 + i_2.toNat * 2)))) (by kernel_rfl) (ofP_guard hg47)) (by kernel_rfl) <| .pure (v := .agg (api_Pix.c (gt [a, b, c, d] i_2))) (by kernel_rfl) (Eq.trans (b := ORes.ofP (guardV (decide (2 ≤ (([a, b, c, d].flatMap api_Pix.c).drop (0 + i_2.toNat * 2)).length)) (.agg ((([a, b, c, d].flatMap api_Pix.c).drop (0 + i_2.toNat * 2)).take 2)))) (by kernel_rfl) (flat_load api_Pix.len (inR_lt hg47) (by decide) (by omega : 0 + i_2.toNat * 2 = i_2.toNat * 2 + 0) (by kernel_rfl))) (by kernel_rfl) <| .mu 3 ?_
       refine .done ⟨by kernel_rfl, ?_⟩
       refine .pop <| .ru fine ?_
       exact loopF_back ((((gt out_1 j_54).X : Int) == (gt [a, b, c, d] i_2).X) && ((((gt out_1 j_54).Y : Int) == (gt [a, b, c, d] i_2).Y) && true), wrapF .i64 (j_54 + 1)) hr ((Wk.gc [4, 5, 6, 7, 9, 10, 11, 12, 13, 14] [(0, true), (1, true), (2, true), (3, true), (4, false), (5, false)] rfl (pKt (pKt (pKt (pKt (pKo api_Pix.c api_Pix.pure out_1 (pKo api_Pix.c api_Pix.pure [a, b, c, d] trivial))))))).to (by kernel_rfl))
     ·refine .leave rfl ?_
      obtain rfl := Option.some.inj hr
      exact ⟨rfl, ((Wk.gc [4, 5, 6, 7, 9, 10, 11, 12, 13] [(0, true), (1, true), (2, true), (3, true), (4, false), (5, false)] rfl (pKt (pKt (pKt (pKt (pKo api_Pix.c api_Pix.pure out_1 (pKo api_Pix.c api_Pix.pure [a, b, c, d] trivial))))))).to (by kernel_rfl))⟩
    ·rintro x st' hq65
     clear hL64
     obtain ⟨rfl, hq65⟩ := hq65
     refine CQ_exit _ rfl <| .wk hq65 <| .seq ?_
     rcases Bool.eq_false_or_eq_true v51 with hb66 | hb66
     ·replace hr := cd_t hb66 hr
      refine .r0 fine <| .p0 (v := aB true) (Eq.trans (b := some (.pure (aB v51))) (by kernel_rfl) (by rw [hb66])) <| .mu 4 <| .done <| .n2 72 [(4, .hp 0 0), (5, .hp 1 0), (6, .hp 2 0), (7, .hp 3 0), (9, .hs 4 0 out_1.length 2), (10, .hs 5 0 ([a, b, c, d].length) 2), (11, aI64 i_2), (63, aB (!again_58))] [.own (api_Pix.c a), .own (api_Pix.c b), .own (api_Pix.c c), .own (api_Pix.c d), .own (out_1.flatMap api_Pix.c), .own ([a, b, c, d].flatMap api_Pix.c)] ?_
      refine .cd hr (fun hb67 hr => ?_) (fun hb67 hr => ?_)
      ·obtain ⟨hg68, hg69, hr⟩ := gd2 hr
       refine .r0 fine <| .mu 3 <| .p0 (v := .hp 5 (0 + i_2.toNat * 2)) (Eq.trans (b := ORes.ofP (guardV (inR i_2 ([a, b, c, d].length)) (.hp 5 (0 + i_2.toNat * 2)))) (by kernel_rfl) (ofP_guard hg47)) <| .p0 (v := .agg (api_Pix.c (gt [a, b, c, d] i_2))) (Eq.trans (b := ORes.ofP (guardV (decide (2 ≤ (([a, b, c, d].flatMap api_Pix.c).drop (0 + i_2.toNat * 2)).length)) (.agg ((([a, b, c, d].flatMap api_Pix.c).drop (0 + i_2.toNat * 2)).take 2)))) (by kernel_rfl) (flat_load api_Pix.len (inR_lt hg47) (by decide) (by omega : 0 + i_2.toNat * 2 = i_2.toNat * 2 + 0) (by kernel_rfl))) <| .mu 1 <| .e0 (v := .hs 7 0 (out_1 ++ [(gt [a, b, c, d] i_2)]).length 2) (ws := [(4, .dead), (7, .own ((out_1 ++ [(gt [a, b, c, d] i_2)]).flatMap api_Pix.c))]) (Eq.trans (b := guardO (decide (0 + out_1.length * 2 ≤ (out_1.flatMap api_Pix.c).length) && decide ((out_1.length + 1) * 16 ≤ 140737488355328) && decide (out_1.length + 1 ≤ 4611686018427387904)) (some (.eff (.hs 7 0 (out_1.length + 1) 2) [(4, .dead), (7, .own (((out_1.flatMap api_Pix.c).drop 0).take (out_1.length * 2) ++ (api_Pix.c (gt [a, b, c, d] i_2))))]))) (by kernel_rfl) (app_own (l := out_1) (xs := [(gt [a, b, c, d] i_2)]) api_Pix.len rfl rfl (by kernel_rfl) hg68 hg69)) <| .mu 1 <| .done <| .pop <| .ru fine ?_
       exact loopF_back (out_1 ++ [(gt [a, b, c, d] i_2)], wrapF .i64 (i_2 + 1)) hr ((Wk.gc [4, 5, 6, 7, 9, 10, 11] [(0, true), (1, true), (2, true), (3, true), (7, false), (5, false)] rfl (pKt (pKt (pKt (pKt (pKo api_Pix.c api_Pix.pure (out_1 ++ [(gt [a, b, c, d] i_2)]) (pKo api_Pix.c api_Pix.pure [a, b, c, d] trivial))))))).to (by kernel_rfl))
      ·refine .skip <| .pop <| .ru fine ?_
       exact loopF_back (out_1, wrapF .i64 (i_2 + 1)) hr ((Wk.gc [4, 5, 6, 7, 9, 10, 11] [(0, true), (1, true), (2, true), (3, true), (4, false), (5, false)] rfl (pKt (pKt (pKt (pKt (pKo api_Pix.c api_Pix.pure out_1 (pKo api_Pix.c api_Pix.pure [a, b, c, d] trivial))))))).to (by kernel_rfl))
     ·replace hr := cd_f hb66 hr
      refine .r0 fine <| .p0 (v := aB false) (Eq.trans (b := some (.pure (aB v51))) (by kernel_rfl) (by rw [hb66])) <| .mu 4 <| .done <| .n2 72 [(4, .hp 0 0), (5, .hp 1 0), (6, .hp 2 0), (7, .hp 3 0), (9, .hs 4 0 out_1.length 2), (10, .hs 5 0 ([a, b, c, d].length) 2), (11, aI64 i_2), (63, aB false)] [.own (api_Pix.c a), .own (api_Pix.c b), .own (api_Pix.c c), .own (api_Pix.c d), .own (out_1.flatMap api_Pix.c), .own ([a, b, c, d].flatMap api_Pix.c)] <| .cF (by kernel_rfl) <| .skip <| .pop <| .ru fine ?_
      exact loopF_back (out_1, wrapF .i64 (i_2 + 1)) hr ((Wk.gc [4, 5, 6, 7, 9, 10, 11] [(0, true), (1, true), (2, true), (3, true), (4, false), (5, false)] rfl (pKt (pKt (pKt (pKt (pKo api_Pix.c api_Pix.pure out_1 (pKo api_Pix.c api_Pix.pure [a, b, c, d] trivial))))))).to (by kernel_rfl))
   ·refine .skip <| .seq <| .r3 fine 72 [(4, .hp 0 0), (5, .hp 1 0), (6, .hp 2 0), (7, .hp 3 0), (9, .hs 4 0 out_1.length 2), (10, .hs 5 0 ([a, b, c, d].length) 2), (11, aI64 i_2), (12, aB v48), (13, aB false)] <| .seq <| .seq <| .r3 fine 72 [(4, .hp 0 0), (5, .hp 1 0), (6, .hp 2 0), (7, .hp 3 0), (9, .hs 4 0 out_1.length 2), (10, .hs 5 0 ([a, b, c, d].length) 2), (11, aI64 i_2), (12, aB v48), (13, aB false), (14, aI64 0)] <| .block ?_
    replace hr := bd hr; obtain ⟨again_75, hL81, hr⟩ := hr
    refine .loopO (σ := fun z0 => match z0 with | (again_70, j_71) => ⟨mkS 72 0 [(4, .hp 0 0), (5, .hp 1 0), (6, .hp 2 0), (7, .hp 3 0), (9, .hs 4 0 out_1.length 2), (10, .hs 5 0 ([a, b, c, d].length) 2), (11, aI64 i_2), (12, aB v48), (13, aB again_70), (14, aI64 j_71)], [.own (api_Pix.c a), .own (api_Pix.c b), .own (api_Pix.c c), .own (api_Pix.c d), .own (out_1.flatMap api_Pix.c), .own ([a, b, c, d].flatMap api_Pix.c)]⟩) (Q := fun x st' => x = .exit 2 ∧ Wk 0 st' ⟨mkS 72 0 [(4, .hp 0 0), (5, .hp 1 0), (6, .hp 2 0), (7, .hp 3 0), (9, .hs 4 0 out_1.length 2), (10, .hs 5 0 ([a, b, c, d].length) 2), (11, aI64 i_2), (12, aB v48), (13, aB again_75)], [.own (api_Pix.c a), .own (api_Pix.c b), .own (api_Pix.c c), .own (api_Pix.c d), .own (out_1.flatMap api_Pix.c), .own ([a, b, c, d].flatMap api_Pix.c)]⟩) hL81 ((Wk.gc [4, 5, 6, 7, 9, 10, 11, 12, 13, 14] [(0, true), (1, true), (2, true), (3, true), (4, false), (5, false)] rfl (pKt (pKt (pKt (pKt (pKo api_Pix.c api_Pix.pure out_1 (pKo api_Pix.c api_Pix.pure [a, b, c, d] trivial))))))).to (by kernel_rfl)) ?_ ?_
    ·clear hr
     rintro m ⟨again_70, j_71⟩ hr
     show CQ _ _ _ _ _ ⟨_, _⟩
     refine .seq <| .seq <| .r3 fine 72 [(4, .hp 0 0), (5, .hp 1 0), (6, .hp 2 0), (7, .hp 3 0), (9, .hs 4 0 out_1.length 2), (10, .hs 5 0 ([a, b, c, d].length) 2), (11, aI64 i_2), (12, aB v48), (13, aB again_70), (14, aI64 j_71), (44, aB (decide (j_71 < (out_1.length : Int))))] ?_
     refine .cd hr (fun hb77 hr => ?_) (fun hb77 hr => ?_)
     ·refine .skip <| .seq <| .block ?_
      rcases Bool.eq_false_or_eq_true again_70 with hb78 | hb78
      ·replace hr := cd_t hb78 hr
       refine .regionT fine callOf_nil <| .pure (v := aB true) (by kernel_rfl) (Eq.trans (b := some (.pure (aB again_70))) (by kernel_rfl) (by rw [hb78])) (by kernel_rfl) <| .mu 12 ?_
       refine .done ⟨by kernel_rfl, ?_⟩
       refine .pop <| .ru fine ?_
       exact loopF_back (true, wrapF .i64 (j_71 + 1)) hr ((Wk.gc [4, 5, 6, 7, 9, 10, 11, 12, 13, 14] [(0, true), (1, true), (2, true), (3, true), (4, false), (5, false)] rfl (pKt (pKt (pKt (pKt (pKo api_Pix.c api_Pix.pure out_1 (pKo api_Pix.c api_Pix.pure [a, b, c, d] trivial))))))).to (by kernel_rfl))
      ·replace hr := cd_f hb78 hr
       obtain ⟨hg79, hr⟩ := gd hr
       refine .regionT fine callOf_nil <| .pure (v := aB false) (by kernel_rfl) (Eq.trans (b := some (.pure (aB again_70))) (by kernel_rfl) (by rw [hb78])) (by kernel_rfl) <| .mu 3 <| .pure (v := .hp 4 (0 + j_71.toNat * 2)) (by kernel_rfl) (Eq.trans (b := ORes.ofP (guardV (inR j_71 out_1.length) (.hp 4 (0 + j_71.toNat * 2)))) (by kernel_rfl) (ofP_guard hg79)) (by kernel_rfl) <| .pure (v := .agg (api_Pix.c (gt out_1 j_71))) (by kernel_rfl) (Eq.trans (b := ORes.ofP (guardV (decide (2 ≤ ((out_1.flatMap api_Pix.c).drop (0 + j_71.toNat * 2)).length)) (.agg (((out_1.flatMap api_Pix.c).drop (0 + j_71.toNat * 2)).take 2)))) (by kernel_rfl) (flat_load api_Pix.len (inR_lt hg79) (by decide) (by omega : 0 + j_71.toNat * 2 = j_71.toNat * 2 + 0) (by kernel_rfl))) (by kernel_rfl) <| .mu 2 <| .pure (v := .hp 5 (0 + i_2.toNat * 2)) (by kernel_rfl) (Eq.trans (b := ORes.ofP (guardV (inR i_2 ([a, b, c, d].length)) (.hp 5 (0 + i_2.toNat * 2)))) (by kernel_rfl) (ofP_guard hg47)) (by kernel_rfl) <| .pure (v := .agg (api_Pix.c (gt [a, b, c, d] i_2))) (by kernel_rfl) (Eq.trans (b := ORes.ofP (guardV (decide (2 ≤ (([a, b, c, d].flatMap api_Pix.c).drop (0 + i_2.toNat * 2)).length)) (.agg ((([a, b, c, d].flatMap api_Pix.c).drop (0 + i_2.toNat * 2)).take 2)))) (by kernel_rfl) (flat_load api_Pix.len (inR_lt hg47) (by decide) (by omega : 0 + i_2.toNat * 2 = i_2.toNat * 2 + 0) (by kernel_rfl))) (by kernel_rfl) <| .mu 3 ?_
       refine .done ⟨by kernel_rfl, ?_⟩
       refine .pop <| .ru fine ?_
       exact loopF_back ((((gt out_1 j_71).X : Int) == (gt [a, b, c, d] i_2).X) && ((((gt out_1 j_71).Y : Int) == (gt [a, b, c, d] i_2).Y) && true), wrapF .i64 (j_71 + 1)) hr ((Wk.gc [4, 5, 6, 7, 9, 10, 11, 12, 13, 14] [(0, true), (1, true), (2, true), (3, true), (4, false), (5, false)] rfl (pKt (pKt (pKt (pKt (pKo api_Pix.c api_Pix.pure out_1 (pKo api_Pix.c api_Pix.pure [a, b, c, d] trivial))))))).to (by kernel_rfl))
     ·refine .leave rfl ?_
      obtain rfl := Option.some.inj hr
      exact ⟨rfl, ((Wk.gc [4, 5, 6, 7, 9, 10, 11, 12, 13] [(0, true), (1, true), (2, true), (3, true), (4, false), (5, false)] rfl (pKt (pKt (pKt (pKt (pKo api_Pix.c api_Pix.pure out_1 (pKo api_Pix.c api_Pix.pure [a, b, c, d] trivial))))))).to (by kernel_rfl))⟩
    ·rintro x st' hq82
     clear hL81
     obtain ⟨rfl, hq82⟩ := hq82
     refine CQ_exit _ rfl <| .wk hq82 <| .seq ?_
     rcases Bool.eq_false_or_eq_true v48 with hb83 | hb83
     ·replace hr := cd_t hb83 hr
      refine .r0 fine <| .p0 (v := aB true) (Eq.trans (b := some (.pure (aB v48))) (by kernel_rfl) (by rw [hb83])) <| .mu 4 <| .done <| .n2 72 [(4, .hp 0 0), (5, .hp 1 0), (6, .hp 2 0), (7, .hp 3 0), (9, .hs 4 0 out_1.length 2), (10, .hs 5 0 ([a, b, c, d].length) 2), (11, aI64 i_2), (63, aB (!again_75))] [.own (api_Pix.c a), .own (api_Pix.c b), .own (api_Pix.c c), .own (api_Pix.c d), .own (out_1.flatMap api_Pix.c), .own ([a, b, c, d].flatMap api_Pix.c)] ?_
      refine .cd hr (fun hb84 hr => ?_) (fun hb84 hr => ?_)
      ·obtain ⟨hg85, hg86, hr⟩ := gd2 hr
       refine .r0 fine <| .mu 3 <| .p0 (v := .hp 5 (0 + i_2.toNat * 2)) (Eq.trans (b := ORes.ofP (guardV (inR i_2 ([a, b, c, d].length)) (.hp 5 (0 + i_2.toNat * 2)))) (by kernel_rfl) (ofP_guard hg47)) <| .p0 (v := .agg (api_Pix.c (gt [a, b, c, d] i_2))) (Eq.trans (b := ORes.ofP (guardV (decide (2 ≤ (([a, b, c, d].flatMap api_Pix.c).drop (0 + i_2.toNat * 2)).length)) (.agg ((([a, b, c, d].flatMap api_Pix.c).drop (0 + i_2.toNat * 2)).take 2)))) (by kernel_rfl) (flat_load api_Pix.len (inR_lt hg47) (by decide) (by omega : 0 + i_2.toNat * 2 = i_2.toNat * 2 + 0) (by kernel_rfl))) <| .mu 1 <| .e0 (v := .hs 7 0 (out_1 ++ [(gt [a, b, c, d] i_2)]).length 2) (ws := [(4, .dead), (7, .own ((out_1 ++ [(gt [a, b, c, d] i_2)]).flatMap api_Pix.c))]) (Eq.trans (b := guardO (decide (0 + out_1.length * 2 ≤ (out_1.flatMap api_Pix.c).length) && decide ((out_1.length + 1) * 16 ≤ 140737488355328) && decide (out_1.length + 1 ≤ 4611686018427387904)) (some (.eff (.hs 7 0 (out_1.length + 1) 2) [(4, .dead), (7, .own (((out_1.flatMap api_Pix.c).drop 0).take (out_1.length * 2) ++ (api_Pix.c (gt [a, b, c, d] i_2))))]))) (by kernel_rfl) (app_own (l := out_1) (xs := [(gt [a, b, c, d] i_2)]) api_Pix.len rfl rfl (by kernel_rfl) hg85 hg86)) <| .mu 1 <| .done <| .pop <| .ru fine ?_
       exact loopF_back (out_1 ++ [(gt [a, b, c, d] i_2)], wrapF .i64 (i_2 + 1)) hr ((Wk.gc [4, 5, 6, 7, 9, 10, 11] [(0, true), (1, true), (2, true), (3, true), (7, false), (5, false)] rfl (pKt (pKt (pKt (pKt (pKo api_Pix.c api_Pix.pure (out_1 ++ [(gt [a, b, c, d] i_2)]) (pKo api_Pix.c api_Pix.pure [a, b, c, d] trivial))))))).to (by kernel_rfl))
      ·refine .skip <| .pop <| .ru fine ?_
       exact loopF_back (out_1, wrapF .i64 (i_2 + 1)) hr ((Wk.gc [4, 5, 6, 7, 9, 10, 11] [(0, true), (1, true), (2, true), (3, true), (4, false), (5, false)] rfl (pKt (pKt (pKt (pKt (pKo api_Pix.c api_Pix.pure out_1 (pKo api_Pix.c api_Pix.pure [a, b, c, d] trivial))))))).to (by kernel_rfl))
     ·replace hr := cd_f hb83 hr
      refine .r0 fine <| .p0 (v := aB false) (Eq.trans (b := some (.pure (aB v48))) (by kernel_rfl) (by rw [hb83])) <| .mu 4 <| .done <| .n2 72 [(4, .hp 0 0), (5, .hp 1 0), (6, .hp 2 0), (7, .hp 3 0), (9, .hs 4 0 out_1.length 2), (10, .hs 5 0 ([a, b, c, d].length) 2), (11, aI64 i_2), (63, aB false)] [.own (api_Pix.c a), .own (api_Pix.c b), .own (api_Pix.c c), .own (api_Pix.c d), .own (out_1.flatMap api_Pix.c), .own ([a, b, c, d].flatMap api_Pix.c)] <| .cF (by kernel_rfl) <| .skip <| .pop <| .ru fine ?_
      exact loopF_back (out_1, wrapF .i64 (i_2 + 1)) hr ((Wk.gc [4, 5, 6, 7, 9, 10, 11] [(0, true), (1, true), (2, true), (3, true), (4, false), (5, false)] rfl (pKt (pKt (pKt (pKt (pKo api_Pix.c api_Pix.pure out_1 (pKo api_Pix.c api_Pix.pure [a, b, c, d] trivial))))))).to (by kernel_rfl))
  ·refine .leave rfl ?_
   obtain rfl := Option.some.inj hr
   exact ⟨rfl, ((Wk.gc [9] [(4, false)] rfl (pKo api_Pix.c api_Pix.pure out_1 trivial)).to (by kernel_rfl))⟩
 ·rintro x st' hq89
  clear hL88
  obtain ⟨rfl, hq89⟩ := hq89
  refine CQ_exit _ rfl <| .wk hq89 <| .seq <| .r3 fine 72 [(8, .hs 0 0 out_44.length 2)] <| .ret ?_
  obtain rfl := Option.some.inj hr
  exact FinQ.ret (vs := [.hs 0 0 out_44.length 2]) (by kernel_rfl) (Sn.hs rfl (.inl rfl) (SnC.pure (ids_flat api_Pix.pure _)) (fun h => flat_nil0 h))

theorem fiducialref09_Relate_ok (n : Nat) (a : api_Pix) (b : api_Pix) (c : api_Pix) (d : api_Pix) (r : Int) (hr : fiducialref09_Relate n a b c d = some r) : FnOk Tryz.prog 36 [.agg (api_Pix.c a), .agg (api_Pix.c b), .agg (api_Pix.c c), .agg (api_Pix.c d)] (aI64 r) := by
 unfold fiducialref09_Relate at hr
 refine FnOk.bd fine Tryz.func36 [.tmp 8] ?_
 unfold Tryz.f36
 simp only [Option.getD_some]
 refine .seq <| .r2 fine 43 [(4, .hp 0 0), (5, .hp 1 0), (6, .hp 2 0), (7, .hp 3 0)] [.own (api_Pix.c a), .own (api_Pix.c b), .own (api_Pix.c c), .own (api_Pix.c d)] <| .seq ?_
 obtain ⟨v1, hc2, hr⟩ := bd hr
 refine .g1 fine (ok0 (fiducialref09_ends_ok n a b c d v1 hc2)) <| .mu 4 <| .ca cf0 <| .mu 1 <| .done <| .n2 43 [(4, .hp 0 0), (5, .hp 1 0), (6, .hp 2 0), (7, .hp 3 0), (9, slT api_Pix.c v1)] [.own (api_Pix.c a), .own (api_Pix.c b), .own (api_Pix.c c), .own (api_Pix.c d)] <| .seq <| .seq <| .r3 fine 43 [(4, .hp 0 0), (5, .hp 1 0), (6, .hp 2 0), (7, .hp 3 0), (9, slT api_Pix.c v1), (17, aB (decide ((v1.length : Int) > 1)))] ?_
 refine .cd hr (fun hb3 hr => ?_) (fun hb3 hr => ?_)
 ·refine .seq <| .ru fine <| .ret ?_
  obtain rfl := Option.some.inj hr
  exact FinQ.r1 [aI64 3]
 ·refine .skip <| .seq <| .seq <| .r3 fine 43 [(4, .hp 0 0), (5, .hp 1 0), (6, .hp 2 0), (7, .hp 3 0), (20, aB (((v1.length : Int) : Int) == 1))] ?_
  refine .cd hr (fun hb4 hr => ?_) (fun hb4 hr => ?_)
  ·refine .seq <| .ru fine <| .ret ?_
   obtain rfl := Option.some.inj hr
   exact FinQ.r1 [aI64 1]
  ·refine .skip <| .seq <| .seq ?_
   obtain ⟨v5, hc6, v7, hc8, hr⟩ := bd2 hr
   rcases Bool.eq_false_or_eq_true (decide ((wrapF .i64 (v5 * v7)) < 0)) with hb9 | hb9
   ·replace hr := cd_t hb9 hr
    obtain ⟨v10, hc11, v12, hc13, hr⟩ := bd2 hr
    refine .tn fine (ca1 (ok0 (fiducialref09_Orient_ok n a b c v5 hc6)) (ca1 (ok0 (fiducialref09_Orient_ok n a b d v7 hc8)) (ca1 (ok0 (fiducialref09_Orient_ok n c d a v10 hc11)) (ca3 (ok0 (fiducialref09_Orient_ok n c d b v12 hc13)))))) <| .mu 3 <| .ca cf0 <| .mu 3 <| .ca (cfA (fun h => by rw [sv hc8 hc6 (fiducialref09_Orient_cg n h)]) cf0) <| .mu 1 <| .pure (v := aB true) (by kernel_rfl) (Eq.trans (b := some (.pure (aB (decide ((wrapF .i64 (v5 * v7)) < 0))))) (by kernel_rfl) (by rw [hb9])) (by kernel_rfl) <| .mu 4 <| .ca (cfA (fun h => by rw [sv hc11 hc6 (fiducialref09_Orient_cg n h)]) (cfA (fun h => by rw [sv hc11 hc8 (fiducialref09_Orient_cg n h)]) cf0)) <| .mu 3 <| .ca (cfA (fun h => by rw [sv hc13 hc6 (fiducialref09_Orient_cg n h)]) (cfA (fun h => by rw [sv hc13 hc8 (fiducialref09_Orient_cg n h)]) (cfA (fun h => by rw [sv hc13 hc11 (fiducialref09_Orient_cg n h)]) cf0))) <| .mu 3 ?_
    refine .done ⟨by kernel_rfl, ?_⟩
    refine .n2 43 [(42, aB (decide ((wrapF .i64 (v10 * v12)) < 0)))] [.own (api_Pix.c a), .own (api_Pix.c b), .own (api_Pix.c c), .own (api_Pix.c d)] ?_
    refine .cd hr (fun hb14 hr => ?_) (fun hb14 hr => ?_)
    ·refine .seq <| .ru fine <| .ret ?_
     obtain rfl := Option.some.inj hr
     exact FinQ.r1 [aI64 2]
    ·refine .skip <| .seq <| .ru fine <| .ret ?_
     obtain rfl := Option.some.inj hr
     exact FinQ.r1 [aI64 0]
   ·replace hr := cd_f hb9 hr
    refine .tn fine (ca1 (ok0 (fiducialref09_Orient_ok n a b c v5 hc6)) (ca3 (ok0 (fiducialref09_Orient_ok n a b d v7 hc8)))) <| .mu 3 <| .ca cf0 <| .mu 3 <| .ca (cfA (fun h => by rw [sv hc8 hc6 (fiducialref09_Orient_cg n h)]) cf0) <| .mu 1 <| .pure (v := aB false) (by kernel_rfl) (Eq.trans (b := some (.pure (aB (decide ((wrapF .i64 (v5 * v7)) < 0))))) (by kernel_rfl) (by rw [hb9])) (by kernel_rfl) <| .mu 12 ?_
    refine .done ⟨by kernel_rfl, ?_⟩
    refine .n2 43 [(42, aB false)] [.own (api_Pix.c a), .own (api_Pix.c b), .own (api_Pix.c c), .own (api_Pix.c d)] <| .cF (by kernel_rfl) <| .skip <| .seq <| .ru fine <| .ret ?_
    obtain rfl := Option.some.inj hr
    exact FinQ.r1 [aI64 0]

theorem fiducialref09_cross_inj {a : api_Pix} {b : api_Pix} {c : api_Pix} {d : api_Pix} {a_ : api_Pix} {b_ : api_Pix} {c_ : api_Pix} {d_ : api_Pix} (h : ([.agg [.at (.int .i64 a.X), .at (.int .i64 a.Y)], .agg [.at (.int .i64 b.X), .at (.int .i64 b.Y)], .agg [.at (.int .i64 c.X), .at (.int .i64 c.Y)], .agg [.at (.int .i64 d.X), .at (.int .i64 d.Y)]] : List AV) = [.agg [.at (.int .i64 a_.X), .at (.int .i64 a_.Y)], .agg [.at (.int .i64 b_.X), .at (.int .i64 b_.Y)], .agg [.at (.int .i64 c_.X), .at (.int .i64 c_.Y)], .agg [.at (.int .i64 d_.X), .at (.int .i64 d_.Y)]]) : a = a_ ∧ b = b_ ∧ c = c_ ∧ d = d_ := by
 obtain ⟨_, _⟩ := a
 obtain ⟨_, _⟩ := a_
 obtain ⟨_, _⟩ := b
 obtain ⟨_, _⟩ := b_
 obtain ⟨_, _⟩ := c
 obtain ⟨_, _⟩ := c_
 obtain ⟨_, _⟩ := d
 obtain ⟨_, _⟩ := d_
 simp only [List.cons.injEq, AV.agg.injEq, AV.at.injEq, Value.int.injEq, Value.bool.injEq, AV.fn.injEq, AV.pp.injEq, true_and, and_true] at h
 simp_all
theorem fiducialref09_cross_cg (n : Nat) {a : api_Pix} {b : api_Pix} {c : api_Pix} {d : api_Pix} {a_ : api_Pix} {b_ : api_Pix} {c_ : api_Pix} {d_ : api_Pix} (h : ([.agg [.at (.int .i64 a.X), .at (.int .i64 a.Y)], .agg [.at (.int .i64 b.X), .at (.int .i64 b.Y)], .agg [.at (.int .i64 c.X), .at (.int .i64 c.Y)], .agg [.at (.int .i64 d.X), .at (.int .i64 d.Y)]] : List AV) = [.agg [.at (.int .i64 a_.X), .at (.int .i64 a_.Y)], .agg [.at (.int .i64 b_.X), .at (.int .i64 b_.Y)], .agg [.at (.int .i64 c_.X), .at (.int .i64 c_.Y)], .agg [.at (.int .i64 d_.X), .at (.int .i64 d_.Y)]]) : fiducialref09_cross n a b c d = fiducialref09_cross n a_ b_ c_ d_ := by
 obtain ⟨rfl, rfl, rfl, rfl⟩ := fiducialref09_cross_inj h
 rfl
theorem fiducialref09_cross_ok (n : Nat) (a : api_Pix) (b : api_Pix) (c : api_Pix) (d : api_Pix) (r : Int) (hr : fiducialref09_cross n a b c d = some r) : FnOk Tryz.prog 86 [.agg (api_Pix.c a), .agg (api_Pix.c b), .agg (api_Pix.c c), .agg (api_Pix.c d)] (aI64 r) := by
 unfold fiducialref09_cross at hr
 refine FnOk.bd fine Tryz.func86 [.tmp 8] ?_
 unfold Tryz.f86
 simp only [Option.getD_some]
 refine .seq <| .r2 fine 32 [(4, .hp 0 0), (5, .hp 1 0), (6, .hp 2 0), (7, .hp 3 0)] [.own (api_Pix.c a), .own (api_Pix.c b), .own (api_Pix.c c), .own (api_Pix.c d)] <| .seq <| .ru fine <| .ret ?_
 obtain rfl := Option.some.inj hr
 exact FinQ.r1 [aI64 (wrapF .i64 ((wrapF .i64 ((wrapF .i64 (b.X - a.X)) * (wrapF .i64 (d.Y - c.Y)))) - (wrapF .i64 ((wrapF .i64 (b.Y - a.Y)) * (wrapF .i64 (d.X - c.X))))))]

theorem fiducialref02_New_ok (n : Nat) (num : api_Int) (den : api_Int) (r : api_Rat × Int) (hr : fiducialref02_New n num den = some r) : FnOk Tryz.prog 118 [.agg (api_Int.c num), .agg (api_Int.c den)] (.tup [.agg (api_Rat.c r.1), aI64 r.2]) := by
 unfold fiducialref02_New at hr
 refine FnOk.bd fine Tryz.func118 [.cell 4 37, .tmp 5] ?_
 unfold Tryz.f118
 simp only [Option.getD_some]
 refine .seq <| .r2 fine 13 [(2, .hp 0 0), (3, .hp 1 0), (4, .hp 2 0)] [.own (api_Int.c num), .own (api_Int.c den), .own [aB false, nS, aB false, nS]] <| .seq <| .seq ?_
 obtain ⟨v1, hc2, hr⟩ := bd hr
 refine .g1 fine (ok0 (fiducialref01_Sign_ok n den v1 hc2)) <| .mu 1 <| .ca cf0 <| .mu 1 <| .done <| .n2 13 [(2, .hp 0 0), (3, .hp 1 0), (4, .hp 2 0), (8, aB ((v1 : Int) == 0))] [.own (api_Int.c num), .own (api_Int.c den), .own [aB false, nS, aB false, nS]] ?_
 refine .cd hr (fun hb3 hr => ?_) (fun hb3 hr => ?_)
 ·refine .seq <| .r3 fine 13 [(4, .hp 2 0), (5, aI64 14)] <| .ret ?_
  obtain rfl := Option.some.inj hr
  exact FinQ.ret (vs := [.agg [aB false, nS, aB false, nS], aI64 14]) (by kernel_rfl) (Sn.tup (SnL.cons (Sn.agg (SnL.cons (Sn.pure rfl) (SnL.cons Sn.nilsl (SnL.cons (Sn.pure rfl) (SnL.cons Sn.nilsl SnL.nil))))) (SnL.cons (Sn.pure rfl) SnL.nil)))
 ·refine .skip <| .seq ?_
  obtain ⟨v4, hc5, hr⟩ := bd hr
  refine .g1 fine (ok0 (fiducialref02_reduced_ok n num den v4 hc5)) <| .mu 2 <| .ca cf0 <| .mu 2 <| .done <| .n2 13 [(4, .hp 2 0), (5, aI64 0)] [.own (api_Int.c num), .own (api_Int.c den), .own (api_Rat.c v4)] <| .ret ?_
  obtain rfl := Option.some.inj hr
  exact FinQ.ret (vs := [.agg (api_Rat.c v4), aI64 0]) (by kernel_rfl) (Sn.tup (SnL.cons (Sn.pure rfl) (SnL.cons (Sn.pure rfl) SnL.nil)))

theorem fiducialref02_Of_ok (n : Nat) (n' : Int) (d : Int) (r : api_Rat × Int) (hr : fiducialref02_Of n n' d = some r) : FnOk Tryz.prog 85 [aI64 n', aI64 d] (.tup [.agg (api_Rat.c r.1), aI64 r.2]) := by
 unfold fiducialref02_Of at hr
 refine FnOk.bd fine Tryz.func85 [.cell 4 37, .tmp 5] ?_
 unfold Tryz.f85
 simp only [Option.getD_some]
 refine .seq <| .r2 fine 13 [(0, aI64 n'), (1, aI64 d), (4, .hp 0 0)] [.own [aB false, nS, aB false, nS]] <| .seq ?_
 obtain ⟨v1, hc2, v3, hc4, v5, hc6, hr⟩ := bd3 hr
 refine .gn fine (ca1 (ok0 (fiducialref02_whole_ok n n' v1 hc2)) (ca1 (ok0 (fiducialref02_whole_ok n d v3 hc4)) (ca3 (ok0 (fiducialref02_New_ok n v1 v3 v5 hc6))))) <| .mu 1 <| .ca cf0 <| .mu 1 <| .ca (cfA (fun h => by rw [sv hc4 hc2 (fiducialref02_whole_cg n h)]) cf0) <| .ca (cfF (cfF cf0)) <| .mu 4 <| .done <| .n2 13 [(4, .hp 0 0), (5, aI64 v5.2)] [.own (api_Rat.c v5.1)] <| .ret ?_
 obtain rfl := Option.some.inj hr
 exact FinQ.ret (vs := [.agg (api_Rat.c v5.1), aI64 v5.2]) (by kernel_rfl) (Sn.tup (SnL.cons (Sn.pure rfl) (SnL.cons (Sn.pure rfl) SnL.nil)))

theorem fiducialref02_Mul_inj {x' : api_Rat} {y : api_Rat} {x'_ : api_Rat} {y_ : api_Rat} (h : ([.agg [.at (.bool x'.Num.Negative), slT (iC .u32) x'.Num.Groups, .at (.bool x'.Den.Negative), slT (iC .u32) x'.Den.Groups], .agg [.at (.bool y.Num.Negative), slT (iC .u32) y.Num.Groups, .at (.bool y.Den.Negative), slT (iC .u32) y.Den.Groups]] : List AV) = [.agg [.at (.bool x'_.Num.Negative), slT (iC .u32) x'_.Num.Groups, .at (.bool x'_.Den.Negative), slT (iC .u32) x'_.Den.Groups], .agg [.at (.bool y_.Num.Negative), slT (iC .u32) y_.Num.Groups, .at (.bool y_.Den.Negative), slT (iC .u32) y_.Den.Groups]]) : x' = x'_ ∧ y = y_ := by
 obtain ⟨⟨_, _⟩, ⟨_, _⟩⟩ := x'
 obtain ⟨⟨_, _⟩, ⟨_, _⟩⟩ := x'_
 obtain ⟨⟨_, _⟩, ⟨_, _⟩⟩ := y
 obtain ⟨⟨_, _⟩, ⟨_, _⟩⟩ := y_
 simp only [List.cons.injEq, AV.agg.injEq, AV.at.injEq, Value.int.injEq, Value.bool.injEq, AV.fn.injEq, AV.pp.injEq, true_and, and_true, slT_inj_int] at h
 simp_all
theorem fiducialref02_Mul_cg (n : Nat) {x' : api_Rat} {y : api_Rat} {x'_ : api_Rat} {y_ : api_Rat} (h : ([.agg [.at (.bool x'.Num.Negative), slT (iC .u32) x'.Num.Groups, .at (.bool x'.Den.Negative), slT (iC .u32) x'.Den.Groups], .agg [.at (.bool y.Num.Negative), slT (iC .u32) y.Num.Groups, .at (.bool y.Den.Negative), slT (iC .u32) y.Den.Groups]] : List AV) = [.agg [.at (.bool x'_.Num.Negative), slT (iC .u32) x'_.Num.Groups, .at (.bool x'_.Den.Negative), slT (iC .u32) x'_.Den.Groups], .agg [.at (.bool y_.Num.Negative), slT (iC .u32) y_.Num.Groups, .at (.bool y_.Den.Negative), slT (iC .u32) y_.Den.Groups]]) : fiducialref02_Mul n x' y = fiducialref02_Mul n x'_ y_ := by
 obtain ⟨rfl, rfl⟩ := fiducialref02_Mul_inj h
 rfl
theorem fiducialref02_Mul_ok (n : Nat) (x' : api_Rat) (y : api_Rat) (r : api_Rat) (hr : fiducialref02_Mul n x' y = some r) : FnOk Tryz.prog 120 [.agg (api_Rat.c x'), .agg (api_Rat.c y)] (.agg (api_Rat.c r)) := by
 unfold fiducialref02_Mul at hr
 refine FnOk.bd fine Tryz.func120 [.cell 4 37] ?_
 unfold Tryz.f120
 simp only [Option.getD_some]
 refine .seq <| .r2 fine 22 [(2, .hp 0 0), (3, .hp 1 0), (4, .hp 2 0)] [.own (api_Rat.c x'), .own (api_Rat.c y), .own [aB false, nS, aB false, nS]] <| .seq ?_
 obtain ⟨v1, hc2, hr⟩ := bd hr
 refine .g1 fine (ok0 (fiducialref02_Value_ok n x' v1 hc2)) <| .mu 1 <| .ca cf0 <| .mu 2 <| .done <| .n2 22 [(3, .hp 1 0), (4, .hp 2 0), (5, .hp 3 0)] [.own (api_Rat.c x'), .own (api_Rat.c y), .own [aB false, nS, aB false, nS], .own (api_Rat.c v1)] <| .seq ?_
 obtain ⟨v3, hc4, hr⟩ := bd hr
 refine .g1 fine (ok0 (fiducialref02_Value_ok n y v3 hc4)) <| .mu 1 <| .ca cf0 <| .mu 2 <| .done <| .n2 22 [(4, .hp 2 0), (5, .hp 3 0), (6, .hp 4 0)] [.own (api_Rat.c x'), .own (api_Rat.c y), .own [aB false, nS, aB false, nS], .own (api_Rat.c v1), .own (api_Rat.c v3)] <| .seq ?_
 obtain ⟨v5, hc6, v7, hc8, v9, hc10, hr⟩ := bd3 hr
 refine .tn fine (ca1 (ok0 (fiducialref01_Mul_ok n v1.Num v3.Num v5 hc6)) (ca1 (ok0 (fiducialref01_Mul_ok n v1.Den v3.Den v7 hc8)) (ca3 (ok0 (fiducialref02_reduced_ok n v5 v7 v9 hc10))))) <| .mu 4 <| .ca cf0 <| .mu 4 <| .ca (cfA (fun h => by rw [sv hc8 hc6 (fiducialref01_Mul_cg n h)]) cf0) <| .ca (cfF (cfF cf0)) <| .mu 1 ?_
 refine .done ⟨by kernel_rfl, ?_⟩
 refine .n2 22 [(4, .hp 2 0)] [.own (api_Rat.c x'), .own (api_Rat.c y), .own (api_Rat.c v9), .own (api_Rat.c v1), .own (api_Rat.c v3)] <| .ret ?_
 obtain rfl := Option.some.inj hr
 exact FinQ.r1 [.agg (api_Rat.c v9)]

theorem fiducialref09_At_ok (n : Nat) (a : api_Pix) (b : api_Pix) (t : api_Rat) (r : api_Place) (hr : fiducialref09_At n a b t = some r) : FnOk Tryz.prog 87 [.agg (api_Pix.c a), .agg (api_Pix.c b), .agg (api_Rat.c t)] (.agg (api_Place.c r)) := by
 unfold fiducialref09_At at hr
 refine FnOk.bd fine Tryz.func87 [.cell 6 82] ?_
 unfold Tryz.f87
 simp only [Option.getD_some]
 refine .seq <| .r2 fine 32 [(3, .hp 0 0), (4, .hp 1 0), (5, .hp 2 0), (6, .hp 3 0)] [.own (api_Pix.c a), .own (api_Pix.c b), .own (api_Rat.c t), .own [aB false, nS, aB false, nS, aB false, nS, aB false, nS]] <| .seq ?_
 obtain ⟨v1, hc2, v3, hc4, v5, hc6, hr⟩ := bd3 hr
 obtain ⟨v7, hc8, v9, hc10, v11, hc12, hr⟩ := bd3 hr
 obtain ⟨v13, hc14, v15, hc16, hr⟩ := bd2 hr
 refine .tn fine (ca1 (ok0 (fiducialref02_Whole_ok n a.X v1 hc2)) (ca1 (ok0 (fiducialref02_Whole_ok n (wrapF .i64 (b.X - a.X)) v3 hc4)) (ca1 (ok0 (fiducialref02_Mul_ok n t v3 v5 hc6)) (ca1 (ok0 (fiducialref02_Add_ok n v1 v5 v7 hc8)) (ca1 (ok0 (fiducialref02_Whole_ok n a.Y v9 hc10)) (ca1 (ok0 (fiducialref02_Whole_ok n (wrapF .i64 (b.Y - a.Y)) v11 hc12)) (ca1 (ok0 (fiducialref02_Mul_ok n t v11 v13 hc14)) (ca3 (ok0 (fiducialref02_Add_ok n v9 v13 v15 hc16)))))))))) <| .mu 2 <| .ca cf0 <| .mu 6 <| .ca (cfA (fun h => by rw [sv hc4 hc2 (fiducialref02_Whole_cg n h)]) cf0) <| .ca (cfF (cfF cf0)) <| .ca (cfF (cfF (cfF cf0))) <| .mu 2 <| .ca (cfA (fun h => by rw [sv hc10 hc2 (fiducialref02_Whole_cg n h)]) (cfA (fun h => by rw [sv hc10 hc4 (fiducialref02_Whole_cg n h)]) (cfF (cfF cf0)))) <| .mu 6 <| .ca (cfA (fun h => by rw [sv hc12 hc2 (fiducialref02_Whole_cg n h)]) (cfA (fun h => by rw [sv hc12 hc4 (fiducialref02_Whole_cg n h)]) (cfF (cfF (cfA (fun h => by rw [sv hc12 hc10 (fiducialref02_Whole_cg n h)]) cf0))))) <| .ca (cfF (cfF (cfA (fun h => by rw [sv hc14 hc6 (fiducialref02_Mul_cg n h)]) (cfF (cfF (cfF cf0)))))) <| .ca (cfF (cfF (cfF (cfA (fun h => by rw [sv hc16 hc8 (fiducialref02_Add_cg n h)]) (cfF (cfF (cfF cf0))))))) <| .mu 2 ?_
 refine .done ⟨by kernel_rfl, ?_⟩
 refine .n2 32 [(6, .hp 3 0)] [.own (api_Pix.c a), .own (api_Pix.c b), .own (api_Rat.c t), .own [aB v7.Num.Negative, sU32 v7.Num.Groups, aB v7.Den.Negative, sU32 v7.Den.Groups, aB v15.Num.Negative, sU32 v15.Num.Groups, aB v15.Den.Negative, sU32 v15.Den.Groups]] <| .ret ?_
 obtain rfl := Option.some.inj hr
 exact FinQ.r1 [.agg [aB v7.Num.Negative, sU32 v7.Num.Groups, aB v7.Den.Negative, sU32 v7.Den.Groups, aB v15.Num.Negative, sU32 v15.Num.Groups, aB v15.Den.Negative, sU32 v15.Den.Groups]]

theorem fiducialref09_Meet_ok (n : Nat) (a : api_Pix) (b : api_Pix) (c : api_Pix) (d : api_Pix) (r : api_Place) (hr : fiducialref09_Meet n a b c d = some r) : FnOk Tryz.prog 39 [.agg (api_Pix.c a), .agg (api_Pix.c b), .agg (api_Pix.c c), .agg (api_Pix.c d)] (.agg (api_Place.c r)) := by
 unfold fiducialref09_Meet at hr
 refine FnOk.bd fine Tryz.func39 [.cell 8 82] ?_
 unfold Tryz.f39
 simp only [Option.getD_some]
 refine .seq <| .r2 fine 49 [(4, .hp 0 0), (5, .hp 1 0), (6, .hp 2 0), (7, .hp 3 0), (8, .hp 4 0)] [.own (api_Pix.c a), .own (api_Pix.c b), .own (api_Pix.c c), .own (api_Pix.c d), .own [aB false, nS, aB false, nS, aB false, nS, aB false, nS]] <| .seq ?_
 obtain ⟨v1, hc2, hr⟩ := bd hr
 refine .g1 fine (ok0 (fiducialref09_ends_ok n a b c d v1 hc2)) <| .mu 4 <| .ca cf0 <| .mu 1 <| .done <| .n2 49 [(4, .hp 0 0), (5, .hp 1 0), (6, .hp 2 0), (7, .hp 3 0), (8, .hp 4 0), (9, slT api_Pix.c v1)] [.own (api_Pix.c a), .own (api_Pix.c b), .own (api_Pix.c c), .own (api_Pix.c d), .own [aB false, nS, aB false, nS, aB false, nS, aB false, nS]] <| .seq <| .seq <| .r3 fine 49 [(4, .hp 0 0), (5, .hp 1 0), (6, .hp 2 0), (7, .hp 3 0), (8, .hp 4 0), (9, slT api_Pix.c v1), (19, aB (decide ((v1.length : Int) > 0)))] ?_
 refine .cd hr (fun hb3 hr => ?_) (fun hb3 hr => ?_)
 ·refine .seq ?_
  obtain ⟨hg4, hr⟩ := gd hr
  obtain ⟨v5, hc6, v7, hc8, hr⟩ := bd2 hr
  refine .tn fine (ca1 (ok0 (fiducialref02_Whole_ok n (gt v1 0).X v5 hc6)) (ca3 (ok0 (fiducialref02_Whole_ok n (gt v1 0).Y v7 hc8)))) <| .mu 1 <| .pure (v := .pp (v1.flatMap api_Pix.c) ((0 : Int).toNat * 2)) (by kernel_rfl) (Eq.trans (b := ORes.ofP (guardV (inR 0 v1.length) (.pp (v1.flatMap api_Pix.c) ((0 : Int).toNat * 2)))) (by kernel_rfl) (ofP_guard hg4)) (by kernel_rfl) <| .mu 1 <| .pure (v := aI64 (gt v1 0).X) (by kernel_rfl) (Eq.trans (b := ORes.ofP ((v1.flatMap api_Pix.c)[(0 : Int).toNat * 2 + 0]?)) (by kernel_rfl) (ofP_some (flat_get api_Pix.len (inR_lt hg4) (by decide : 0 < 2) (by omega : (0 : Int).toNat * 2 + 0 = (0 : Int).toNat * 2 + 0) (by kernel_rfl)))) (by kernel_rfl) <| .ca cf0 <| .mu 1 <| .pure (v := .pp (v1.flatMap api_Pix.c) ((0 : Int).toNat * 2)) (by kernel_rfl) (Eq.trans (b := ORes.ofP (guardV (inR 0 v1.length) (.pp (v1.flatMap api_Pix.c) ((0 : Int).toNat * 2)))) (by kernel_rfl) (ofP_guard hg4)) (by kernel_rfl) <| .mu 1 <| .pure (v := aI64 (gt v1 0).Y) (by kernel_rfl) (Eq.trans (b := ORes.ofP ((v1.flatMap api_Pix.c)[(0 : Int).toNat * 2 + 1]?)) (by kernel_rfl) (ofP_some (flat_get api_Pix.len (inR_lt hg4) (by decide : 1 < 2) (by omega : (0 : Int).toNat * 2 + 1 = (0 : Int).toNat * 2 + 1) (by kernel_rfl)))) (by kernel_rfl) <| .ca (cfA (fun h => by rw [sv hc8 hc6 (fiducialref02_Whole_cg n h)]) cf0) <| .mu 2 ?_
  refine .done ⟨by kernel_rfl, ?_⟩
  refine .n2 49 [(8, .hp 4 0)] [.own (api_Pix.c a), .own (api_Pix.c b), .own (api_Pix.c c), .own (api_Pix.c d), .own [aB v5.Num.Negative, sU32 v5.Num.Groups, aB v5.Den.Negative, sU32 v5.Den.Groups, aB v7.Num.Negative, sU32 v7.Num.Groups, aB v7.Den.Negative, sU32 v7.Den.Groups]] <| .ret ?_
  obtain rfl := Option.some.inj hr
  exact FinQ.r1 [.agg [aB v5.Num.Negative, sU32 v5.Num.Groups, aB v5.Den.Negative, sU32 v5.Den.Groups, aB v7.Num.Negative, sU32 v7.Num.Groups, aB v7.Den.Negative, sU32 v7.Den.Groups]]
 ·refine .skip <| .seq ?_
  obtain ⟨v9, hc10, v11, hc12, v13, hc14, hr⟩ := bd3 hr
  refine .tn fine (ca1 (ok0 (fiducialref09_cross_ok n a c c d v9 hc10)) (ca1 (ok0 (fiducialref09_cross_ok n a b c d v11 hc12)) (ca3 (ok0 (fiducialref02_Of_ok n v9 v11 v13 hc14))))) <| .mu 4 <| .ca cf0 <| .mu 4 <| .ca (cfA (fun h => by rw [sv hc12 hc10 (fiducialref09_cross_cg n h)]) cf0) <| .ca (cfF (cfF cf0)) <| .mu 6 ?_
  refine .done ⟨by kernel_rfl, ?_⟩
  refine .n2 49 [(4, .hp 0 0), (5, .hp 1 0), (8, .hp 4 0), (10, .hp 5 0)] [.own (api_Pix.c a), .own (api_Pix.c b), .own (api_Pix.c c), .own (api_Pix.c d), .own [aB false, nS, aB false, nS, aB false, nS, aB false, nS], .own (api_Rat.c v13.1)] <| .seq ?_
  obtain ⟨v15, hc16, hr⟩ := bd hr
  refine .g1 fine (ok0 (fiducialref09_At_ok n a b v13.1 v15 hc16)) <| .mu 3 <| .ca cf0 <| .mu 1 <| .done <| .n2 49 [(8, .hp 4 0)] [.own (api_Pix.c a), .own (api_Pix.c b), .own (api_Pix.c c), .own (api_Pix.c d), .own (api_Place.c v15), .own (api_Rat.c v13.1)] <| .ret ?_
  obtain rfl := Option.some.inj hr
  exact FinQ.r1 [.agg (api_Place.c v15)]

theorem fiduciallaw09_PredicateMeet_ok (n : Nat) (l : A4 api_Pix) (r : Bool) (hr : fiduciallaw09_PredicateMeet n l = some r) : FnOk Tryz.prog 9 [.agg [aI64 l.e0.X, aI64 l.e0.Y, aI64 l.e1.X, aI64 l.e1.Y, aI64 l.e2.X, aI64 l.e2.Y, aI64 l.e3.X, aI64 l.e3.Y]] (aB r) := by
 unfold fiduciallaw09_PredicateMeet at hr
 refine FnOk.bd fine Tryz.func9 [.tmp 2] ?_
 unfold Tryz.f9
 simp only [Option.getD_some]
 refine .seq <| .r2 fine 78 [(1, .hp 0 0)] [.own [aI64 l.e0.X, aI64 l.e0.Y, aI64 l.e1.X, aI64 l.e1.Y, aI64 l.e2.X, aI64 l.e2.Y, aI64 l.e3.X, aI64 l.e3.Y]] <| .seq <| .seq ?_
 obtain ⟨v1, hc2, hr⟩ := bd hr
 refine .g1 fine (ok0 (fiduciallaw09_known_ok n v1 hc2)) <| .ca cf0 <| .mu 1 <| .done <| .n2 78 [(1, .hp 0 0), (9, aB (!v1))] [.own [aI64 l.e0.X, aI64 l.e0.Y, aI64 l.e1.X, aI64 l.e1.Y, aI64 l.e2.X, aI64 l.e2.Y, aI64 l.e3.X, aI64 l.e3.Y]] ?_
 refine .cd hr (fun hb3 hr => ?_) (fun hb3 hr => ?_)
 ·refine .seq <| .ru fine <| .ret ?_
  obtain rfl := Option.some.inj hr
  exact FinQ.r1 [aB false]
 ·refine .skip <| .seq ?_
  obtain ⟨v4, hc5, hr⟩ := bd hr
  refine .g1 fine (ok0 (predicate_Meet_ok n l.e0 l.e1 l.e2 l.e3 v4 hc5)) <| .mu 8 <| .ca cf0 <| .mu 6 <| .done <| .n2 78 [(1, .hp 0 0), (3, .hp 1 0), (4, aI64 v4.2)] [.own [aI64 l.e0.X, aI64 l.e0.Y, aI64 l.e1.X, aI64 l.e1.Y, aI64 l.e2.X, aI64 l.e2.Y, aI64 l.e3.X, aI64 l.e3.Y], .own (api_Place.c v4.1)] <| .seq <| .r3 fine 78 [(1, .hp 0 0), (3, .hp 1 0), (4, aI64 v4.2), (5, aI64 0)] <| .seq <| .seq ?_
  obtain ⟨v6, hc7, hr⟩ := bd hr
  refine .g1 fine (callOk_val (args := [.hs 0 0 4 2]) (l := [0]) rfl (SnL.cons (Sn.hs rfl (.inl rfl) (SnC.cons (Sn.pure rfl) (SnC.cons (Sn.pure rfl) (SnC.cons (Sn.pure rfl) (SnC.cons (Sn.pure rfl) (SnC.cons (Sn.pure rfl) (SnC.cons (Sn.pure rfl) (SnC.cons (Sn.pure rfl) (SnC.cons (Sn.pure rfl) SnC.nil)))))))) (fun h => nomatch h)) SnL.nil) (fiducialref09_All_ok n [l.e0, l.e1, l.e2, l.e3] v6 hc7)) <| .mu 1 <| .ca cf0 <| .mu 1 <| .done <| .n2 78 [(1, .hp 0 0), (3, .hp 1 0), (4, aI64 v4.2), (5, aI64 0), (24, aB (!v6))] [.own [aI64 l.e0.X, aI64 l.e0.Y, aI64 l.e1.X, aI64 l.e1.Y, aI64 l.e2.X, aI64 l.e2.Y, aI64 l.e3.X, aI64 l.e3.Y], .own (api_Place.c v4.1)] ?_
  refine .cd hr (fun hb8 hr => ?_) (fun hb8 hr => ?_)
  ·refine .r3 fine 78 [(1, .hp 0 0), (3, .hp 1 0), (4, aI64 v4.2), (5, aI64 2)] <| .seq <| .seq <| .r3 fine 78 [(1, .hp 0 0), (3, .hp 1 0), (4, aI64 v4.2), (5, aI64 2), (39, aB true)] <| .cT (by kernel_rfl) <| .seq ?_
   rcases Bool.eq_false_or_eq_true ((v4.2 : Int) == 2) with hb9 | hb9
   ·replace hr := cd_t hb9 hr
    obtain ⟨v10, hc11, hr⟩ := bd hr
    rcases Bool.eq_false_or_eq_true v10 with hb12 | hb12
    ·subst hb12
     replace hr := cd_t rfl hr
     obtain ⟨v13, hc14, hr⟩ := bd hr
     refine .gn fine (ca1 (ok0 (fiducialref02_Zero_ok n v4.1.X true hc11)) (ca3 (ok0 (fiducialref02_Zero_ok n v4.1.Y v13 hc14)))) <| .mu 2 <| .p0 (v := aB true) (Eq.trans (b := some (.pure (aB ((v4.2 : Int) == 2)))) (by kernel_rfl) (by rw [hb9])) <| .mu 3 <| .ca cf0 <| .mu 4 <| .ca (cfA (fun h => by rw [sv hc14 hc11 (fiducialref02_Zero_cg n h)]) cf0) <| .mu 2 <| .done <| .ret ?_
     obtain rfl := Option.some.inj hr
     exact FinQ.r1 [aB v13]
    ·subst hb12
     replace hr := cd_f rfl hr
     refine .g1 fine (ok0 (fiducialref02_Zero_ok n v4.1.X false hc11)) <| .mu 2 <| .p0 (v := aB true) (Eq.trans (b := some (.pure (aB ((v4.2 : Int) == 2)))) (by kernel_rfl) (by rw [hb9])) <| .mu 3 <| .ca cf0 <| .mu 7 <| .done <| .ret ?_
     obtain rfl := Option.some.inj hr
     exact FinQ.r1 [aB false]
   ·replace hr := cd_f hb9 hr
    refine .r0 fine <| .mu 2 <| .p0 (v := aB false) (Eq.trans (b := some (.pure (aB ((v4.2 : Int) == 2)))) (by kernel_rfl) (by rw [hb9])) <| .mu 11 <| .done <| .ret ?_
    obtain rfl := Option.some.inj hr
    exact FinQ.r1 [aB false]
  ·refine .seq ?_
   obtain ⟨v15, hc16, hr⟩ := bd hr
   refine .g1 fine (ok0 (fiducialref09_Relate_ok n l.e0 l.e1 l.e2 l.e3 v15 hc16)) <| .mu 8 <| .ca cf0 <| .mu 1 <| .done <| .n2 78 [(1, .hp 0 0), (3, .hp 1 0), (4, aI64 v4.2), (5, aI64 0), (6, aI64 v15)] [.own [aI64 l.e0.X, aI64 l.e0.Y, aI64 l.e1.X, aI64 l.e1.Y, aI64 l.e2.X, aI64 l.e2.Y, aI64 l.e3.X, aI64 l.e3.Y], .own (api_Place.c v4.1)] <| .seq <| .r3 fine 78 [(1, .hp 0 0), (3, .hp 1 0), (4, aI64 v4.2), (5, aI64 0), (6, aI64 v15), (35, aB ((v15 : Int) == 0))] ?_
   refine .cd hr (fun hb17 hr => ?_) (fun hb17 hr => ?_)
   ·refine .r3 fine 78 [(1, .hp 0 0), (3, .hp 1 0), (4, aI64 v4.2), (5, aI64 6)] <| .seq <| .seq <| .r3 fine 78 [(1, .hp 0 0), (3, .hp 1 0), (4, aI64 v4.2), (5, aI64 6), (39, aB true)] <| .cT (by kernel_rfl) <| .seq ?_
    rcases Bool.eq_false_or_eq_true ((v4.2 : Int) == 6) with hb18 | hb18
    ·replace hr := cd_t hb18 hr
     obtain ⟨v19, hc20, hr⟩ := bd hr
     rcases Bool.eq_false_or_eq_true v19 with hb21 | hb21
     ·subst hb21
      replace hr := cd_t rfl hr
      obtain ⟨v22, hc23, hr⟩ := bd hr
      refine .gn fine (ca1 (ok0 (fiducialref02_Zero_ok n v4.1.X true hc20)) (ca3 (ok0 (fiducialref02_Zero_ok n v4.1.Y v22 hc23)))) <| .mu 2 <| .p0 (v := aB true) (Eq.trans (b := some (.pure (aB ((v4.2 : Int) == 6)))) (by kernel_rfl) (by rw [hb18])) <| .mu 3 <| .ca cf0 <| .mu 4 <| .ca (cfA (fun h => by rw [sv hc23 hc20 (fiducialref02_Zero_cg n h)]) cf0) <| .mu 2 <| .done <| .ret ?_
      obtain rfl := Option.some.inj hr
      exact FinQ.r1 [aB v22]
     ·subst hb21
      replace hr := cd_f rfl hr
      refine .g1 fine (ok0 (fiducialref02_Zero_ok n v4.1.X false hc20)) <| .mu 2 <| .p0 (v := aB true) (Eq.trans (b := some (.pure (aB ((v4.2 : Int) == 6)))) (by kernel_rfl) (by rw [hb18])) <| .mu 3 <| .ca cf0 <| .mu 7 <| .done <| .ret ?_
      obtain rfl := Option.some.inj hr
      exact FinQ.r1 [aB false]
    ·replace hr := cd_f hb18 hr
     refine .r0 fine <| .mu 2 <| .p0 (v := aB false) (Eq.trans (b := some (.pure (aB ((v4.2 : Int) == 6)))) (by kernel_rfl) (by rw [hb18])) <| .mu 11 <| .done <| .ret ?_
     obtain rfl := Option.some.inj hr
     exact FinQ.r1 [aB false]
   ·refine .seq <| .r3 fine 78 [(1, .hp 0 0), (3, .hp 1 0), (4, aI64 v4.2), (5, aI64 0), (37, aB ((v15 : Int) == 3))] ?_
    refine .cd hr (fun hb24 hr => ?_) (fun hb24 hr => ?_)
    ·refine .r3 fine 78 [(1, .hp 0 0), (3, .hp 1 0), (4, aI64 v4.2), (5, aI64 11)] <| .seq <| .seq <| .r3 fine 78 [(1, .hp 0 0), (3, .hp 1 0), (4, aI64 v4.2), (5, aI64 11), (39, aB true)] <| .cT (by kernel_rfl) <| .seq ?_
     rcases Bool.eq_false_or_eq_true ((v4.2 : Int) == 11) with hb25 | hb25
     ·replace hr := cd_t hb25 hr
      obtain ⟨v26, hc27, hr⟩ := bd hr
      rcases Bool.eq_false_or_eq_true v26 with hb28 | hb28
      ·subst hb28
       replace hr := cd_t rfl hr
       obtain ⟨v29, hc30, hr⟩ := bd hr
       refine .gn fine (ca1 (ok0 (fiducialref02_Zero_ok n v4.1.X true hc27)) (ca3 (ok0 (fiducialref02_Zero_ok n v4.1.Y v29 hc30)))) <| .mu 2 <| .p0 (v := aB true) (Eq.trans (b := some (.pure (aB ((v4.2 : Int) == 11)))) (by kernel_rfl) (by rw [hb25])) <| .mu 3 <| .ca cf0 <| .mu 4 <| .ca (cfA (fun h => by rw [sv hc30 hc27 (fiducialref02_Zero_cg n h)]) cf0) <| .mu 2 <| .done <| .ret ?_
       obtain rfl := Option.some.inj hr
       exact FinQ.r1 [aB v29]
      ·subst hb28
       replace hr := cd_f rfl hr
       refine .g1 fine (ok0 (fiducialref02_Zero_ok n v4.1.X false hc27)) <| .mu 2 <| .p0 (v := aB true) (Eq.trans (b := some (.pure (aB ((v4.2 : Int) == 11)))) (by kernel_rfl) (by rw [hb25])) <| .mu 3 <| .ca cf0 <| .mu 7 <| .done <| .ret ?_
       obtain rfl := Option.some.inj hr
       exact FinQ.r1 [aB false]
     ·replace hr := cd_f hb25 hr
      refine .r0 fine <| .mu 2 <| .p0 (v := aB false) (Eq.trans (b := some (.pure (aB ((v4.2 : Int) == 11)))) (by kernel_rfl) (by rw [hb25])) <| .mu 11 <| .done <| .ret ?_
      obtain rfl := Option.some.inj hr
      exact FinQ.r1 [aB false]
    ·refine .skip <| .seq <| .seq <| .r3 fine 78 [(1, .hp 0 0), (3, .hp 1 0), (4, aI64 v4.2), (5, aI64 0), (39, aB false)] <| .cF (by kernel_rfl) <| .skip <| .seq ?_
     obtain ⟨v31, hc32, hr⟩ := bd hr
     refine .g1 fine (ok0 (fiducialref09_Meet_ok n l.e0 l.e1 l.e2 l.e3 v31 hc32)) <| .mu 8 <| .ca cf0 <| .mu 2 <| .done <| .n2 78 [(3, .hp 1 0), (4, aI64 v4.2), (7, .hp 2 0)] [.own [aI64 l.e0.X, aI64 l.e0.Y, aI64 l.e1.X, aI64 l.e1.Y, aI64 l.e2.X, aI64 l.e2.Y, aI64 l.e3.X, aI64 l.e3.Y], .own (api_Place.c v4.1), .own (api_Place.c v31)] <| .seq ?_
     rcases Bool.eq_false_or_eq_true ((v4.2 : Int) == 0) with hb33 | hb33
     ·replace hr := cd_t hb33 hr
      obtain ⟨v34, hc35, hr⟩ := bd hr
      rcases Bool.eq_false_or_eq_true v34 with hb36 | hb36
      ·subst hb36
       replace hr := cd_t rfl hr
       obtain ⟨v37, hc38, hr⟩ := bd hr
       refine .gn fine (ca1 (ok0 (fiducialref02_Same_ok n v4.1.X v31.X true hc35)) (ca3 (ok0 (fiducialref02_Same_ok n v4.1.Y v31.Y v37 hc38)))) <| .mu 1 <| .p0 (v := aB true) (Eq.trans (b := some (.pure (aB ((v4.2 : Int) == 0)))) (by kernel_rfl) (by rw [hb33])) <| .mu 5 <| .ca cf0 <| .mu 6 <| .ca (cfA (fun h => by rw [sv hc38 hc35 (fiducialref02_Same_cg n h)]) cf0) <| .mu 2 <| .done <| .ret ?_
       obtain rfl := Option.some.inj hr
       exact FinQ.r1 [aB v37]
      ·subst hb36
       replace hr := cd_f rfl hr
       refine .g1 fine (ok0 (fiducialref02_Same_ok n v4.1.X v31.X false hc35)) <| .mu 1 <| .p0 (v := aB true) (Eq.trans (b := some (.pure (aB ((v4.2 : Int) == 0)))) (by kernel_rfl) (by rw [hb33])) <| .mu 5 <| .ca cf0 <| .mu 9 <| .done <| .ret ?_
       obtain rfl := Option.some.inj hr
       exact FinQ.r1 [aB false]
     ·replace hr := cd_f hb33 hr
      refine .r0 fine <| .mu 1 <| .p0 (v := aB false) (Eq.trans (b := some (.pure (aB ((v4.2 : Int) == 0)))) (by kernel_rfl) (by rw [hb33])) <| .mu 15 <| .done <| .ret ?_
      obtain rfl := Option.some.inj hr
      exact FinQ.r1 [aB false]
end Go.L
