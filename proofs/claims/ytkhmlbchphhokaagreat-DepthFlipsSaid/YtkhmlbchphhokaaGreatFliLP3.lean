/- The program's functions compute what the plain Lean programs compute, part 3; printed by a program. -/
import Derived.Test.YtkhmlbchphhokaaGreatFliLP2
import Derived.Test.YtkhmlbchphhokaaGreatL0iblbgfpm
import Derived.Test.YtkhmlbchphhokaaGreatSmallgikpmiii
import Derived.Test.YtkhmlbchphhokaaGreatSortbkcbaoca
import Derived.Test.YtkhmlbchphhokaaGreatChecked
import Derived.KernelRfl
set_option linter.all false
set_option maxRecDepth 100000
set_option maxHeartbeats 4000000
namespace Go.L
open Go Go.Eng Go.Proofs
theorem depth_Speckles_ok (n : Nat) (f : api_Field) (step : Int) (least : Int) (r : api_Field × Int) (hr : depth_Speckles n f step least = some r) : FnOk Tryz.prog 15 [.agg (api_Field.c f), aI64 step, aI64 least] (.tup [.agg (api_Field.c r.1), aI64 r.2]) := by
 unfold depth_Speckles at hr
 refine FnOk.bd fine Tryz.func15 [.cell 6 39, .tmp 7] ?_
 unfold Tryz.f15
 simp only [Option.getD_some]
 refine .seq <| .r5 fine [1, 2] [(3, .hp 0 0), (6, .hp 1 0)] [.own (api_Field.c f), .own [aI64 0, aI64 0, nS]] <| .seq <| .seq ?_
 obtain ⟨v1, hc2, hr⟩ := bd hr
 refine .g1 fine (ok0 (depth_Check_ok n f v1 hc2)) <| .mu 1 <| .ca cf0 <| .mu 1 <| .done <| .nh [1, 2, 3, 6, 24] [.own (api_Field.c f), .own [aI64 0, aI64 0, nS]] ?_
 refine .cd hr (fun hb4 hr => ?_) (fun hb4 hr => ?_)
 ·refine .seq <| .r4 fine [6] [(7, aI64 1)] <| .ret ?_
  obtain rfl := oi hr
  exact FinQ.ret (vs := [.agg [aI64 0, aI64 0, nS], aI64 1]) (by kernel_rfl) (Sn.tup (SnL.cons (Sn.agg (SnL.cons (Sn.pure rfl) (SnL.cons (Sn.pure rfl) (SnL.cons Sn.nilsl SnL.nil)))) (SnL.cons (Sn.pure rfl) SnL.nil)))
 ·refine .skip <| .seq <| .seq <| .r4 fine [1, 2, 3, 6] [(27, aB (decide (step < 0)))] ?_
  refine .cd hr (fun hb6 hr => ?_) (fun hb6 hr => ?_)
  ·refine .seq <| .r4 fine [6] [(7, aI64 2)] <| .ret ?_
   obtain rfl := oi hr
   exact FinQ.ret (vs := [.agg [aI64 0, aI64 0, nS], aI64 2]) (by kernel_rfl) (Sn.tup (SnL.cons (Sn.agg (SnL.cons (Sn.pure rfl) (SnL.cons (Sn.pure rfl) (SnL.cons Sn.nilsl SnL.nil)))) (SnL.cons (Sn.pure rfl) SnL.nil)))
  ·refine .skip <| .seq ?_
   obtain ⟨v7, hc8, hr⟩ := bd hr
   refine .g1 fine (callOk_mutU (args := [.agg (api_Field.c f)]) 0 1 [] [false] (depth_blank_w_ok n f v7 hc8) trivial (by exact ⟨ids_flat (iC_pure _) _, trivial⟩) rfl rfl (by kernel_rfl) (by kernel_rfl)) <| .mu 1 <| .ca cf0 <| .mu 2 <| .done <| .nh [1, 2, 3, 6, 8] [.own (api_Field.c f), .own [aI64 0, aI64 0, nS], .own (v7.2.2.flatMap (iC .i64)), .own [aI64 v7.1, aI64 v7.2.1, .hs 2 0 v7.2.2.length 1]] <| .seq ?_
   obtain ⟨hg9, hg10, hg11, hr⟩ := gd3 hr
   refine .r0 fine <| .mu 3 <| .e0 (v := .hs 4 0 (List.replicate (f.V.length : Int).toNat false).length 1) (ws := [(4, .own ((List.replicate (f.V.length : Int).toNat false).flatMap bC))]) (tr (make_own (c := bC) (z := false) (n := (f.V.length : Int)) (by_ := 1) rfl hg9 hg10 hg11)) <| .mu 1 <| .done <| .nh [1, 2, 3, 6, 8, 9] [.own (api_Field.c f), .own [aI64 0, aI64 0, nS], .own (v7.2.2.flatMap (iC .i64)), .own [aI64 v7.1, aI64 v7.2.1, .hs 2 0 v7.2.2.length 1], .own ((List.replicate (f.V.length : Int).toNat false).flatMap bC)] <| .seq <| .seq <| .r4 fine [1, 2, 3, 6, 8, 9] [(36, sI64 f.V), (37, aI64 (f.V.length : Int)), (38, aI64 0)] <| .block ?_
   replace hr := bd hr; obtain ⟨out_238, hL464, hr⟩ := hr
   refine .loopO (σ := fun z0 => match z0 with | (out_12, seen_13, x_14) => ⟨mkS 196 0 [(1, aI64 step), (2, aI64 least), (3, .hp 0 0), (6, .hp 1 0), (8, .hp 2 0), (9, .hs 4 0 seen_13.length 1), (36, sI64 f.V), (37, aI64 (f.V.length : Int)), (38, aI64 x_14)], [.own (api_Field.c f), .own [aI64 0, aI64 0, nS], .own [aI64 v7.1, aI64 v7.2.1, .hs 3 0 out_12.length 1], .own (out_12.flatMap (iC .i64)), .own (seen_13.flatMap bC)]⟩) (Q := fun x st' => x = .exit 0 ∧ Wk 0 st' ⟨mkS 196 0 [(6, .hp 0 0), (8, .hp 1 0)], [.own [aI64 0, aI64 0, nS], .own [aI64 v7.1, aI64 v7.2.1, .hs 2 0 out_238.length 1], .own (out_238.flatMap (iC .i64))]⟩) hL464 ((Wk.gc [1, 2, 3, 6, 8, 9, 36, 37, 38] [(0, true), (1, true), (3, true), (2, false), (4, false)] rfl (pKt (pKt (pKt (pKo (iC .i64) (iC_pure _) v7.2.2 (pKo bC bC_pure (List.replicate (f.V.length : Int).toNat false) trivial)))))).to (by kernel_rfl)) ?_ ?_
   ·clear hr
    rintro m ⟨out_12, seen_13, x_14⟩ hr
    show CQ _ _ _ _ _ ⟨_, _⟩
    refine .seq <| .r4 fine [1, 2, 3, 6, 8, 9, 36, 37, 38] [(39, aB (decide (x_14 < (f.V.length : Int))))] <| .seq ?_
    refine .cd hr (fun hb241 hr => ?_) (fun hb241 hr => ?_)
    ·refine .skip <| .seq <| .block <| .seq ?_
     obtain ⟨hg242, hr⟩ := gd hr
     refine .r0 fine <| .mu 1 <| .p0 (v := .pp (f.V.flatMap (iC .i64)) (x_14.toNat * 1)) (tr (ofP_guard hg242)) <| .p0 (v := aI64 (gt f.V x_14)) (tr (ofP_some (flat_get (iC_len .i64) (inR_lt hg242) (by decide : 0 < 1) (by omega : x_14.toNat * 1 = x_14.toNat * 1 + 0) (by kernel_rfl)))) <| .mu 2 <| .done <| .nh [1, 2, 3, 6, 8, 9, 10, 11, 36, 37, 38] [.own (api_Field.c f), .own [aI64 0, aI64 0, nS], .own [aI64 v7.1, aI64 v7.2.1, .hs 3 0 out_12.length 1], .own (out_12.flatMap (iC .i64)), .own (seen_13.flatMap bC)] <| .seq <| .seq ?_
     rcases Bool.eq_false_or_eq_true (decide ((gt f.V x_14) < 0)) with hb243 | hb243
     ·replace hr := cd_t hb243 hr
      refine .r0 fine <| .mu 1 <| .p0 (v := aB true) (eB hb243) <| .mu 6 <| .done <| .nh [1, 2, 3, 6, 8, 9, 10, 36, 37, 38, 50] [.own (api_Field.c f), .own [aI64 0, aI64 0, nS], .own [aI64 v7.1, aI64 v7.2.1, .hs 3 0 out_12.length 1], .own (out_12.flatMap (iC .i64)), .own (seen_13.flatMap bC)] <| .cT (by kernel_rfl) <| .exit rfl <| .ru fine ?_
      exact loopF_back (out_12, seen_13, wrapF .i64 (x_14 + 1)) hr ((Wk.gc [1, 2, 3, 6, 8, 9, 36, 37, 38] [(0, true), (1, true), (2, true), (3, false), (4, false)] rfl (pKt (pKt (pKt (pKo (iC .i64) (iC_pure _) out_12 (pKo bC bC_pure seen_13 trivial)))))).to (by kernel_rfl))
     ·replace hr := cd_f hb243 hr
      obtain ⟨hg244, hr⟩ := gd hr
      refine .r0 fine <| .mu 1 <| .p0 (v := aB false) (eB hb243) <| .mu 3 <| .pure (v := .hp 4 (0 + x_14.toNat * 1)) (by kernel_rfl) (tr (ofP_guard hg244)) <| .pure (v := aB (gt seen_13 x_14)) (by kernel_rfl) (tr (ofP_some (flat_get bC_len (inR_lt hg244) (by decide : 0 < 1) (by omega : 0 + x_14.toNat * 1 = x_14.toNat * 1 + 0) (by kernel_rfl)))) <| .mu 1 <| .done <| .nh [1, 2, 3, 6, 8, 9, 10, 36, 37, 38, 50] [.own (api_Field.c f), .own [aI64 0, aI64 0, nS], .own [aI64 v7.1, aI64 v7.2.1, .hs 3 0 out_12.length 1], .own (out_12.flatMap (iC .i64)), .own (seen_13.flatMap bC)] ?_
      refine .cd hr (fun hb246 hr => ?_) (fun hb246 hr => ?_)
      ·refine .exit rfl <| .ru fine ?_
       exact loopF_back (out_12, seen_13, wrapF .i64 (x_14 + 1)) hr ((Wk.gc [1, 2, 3, 6, 8, 9, 36, 37, 38] [(0, true), (1, true), (2, true), (3, false), (4, false)] rfl (pKt (pKt (pKt (pKo (iC .i64) (iC_pure _) out_12 (pKo bC bC_pure seen_13 trivial)))))).to (by kernel_rfl))
      ·refine .skip <| .seq <| .r0 fine <| .mu 2 <| .p0 (v := .hp 4 (0 + x_14.toNat * 1)) (tr (ofP_guard hg244)) <| .e0 (v := .unk) (ws := [(4, .own ((seen_13.set x_14.toNat true).flatMap bC))]) (tr (stO_t (and_t (flat_fits (n := 1) bC_len (inR_lt hg244) (Nat.le_of_ble_eq_true rfl) (by omega : 0 + x_14.toNat * 1 = x_14.toNat * 1 + 0))) (congrArg Blk.own (flat_set (xs := [aB true]) bC_len (inR_lt hg244) (Nat.le_of_ble_eq_true rfl) (by omega : 0 + x_14.toNat * 1 = x_14.toNat * 1 + 0) (by kernel_rfl))))) <| .done <| .nh [1, 2, 3, 6, 8, 9, 10, 36, 37, 38] [.own (api_Field.c f), .own [aI64 0, aI64 0, nS], .own [aI64 v7.1, aI64 v7.2.1, .hs 3 0 out_12.length 1], .own (out_12.flatMap (iC .i64)), .own ((seen_13.set x_14.toNat true).flatMap bC)] <| .seq <| .r5 fine [1, 2, 3, 6, 8, 9, 36, 37, 38] [(12, .hs 5 0 1 1)] [.own (api_Field.c f), .own [aI64 0, aI64 0, nS], .own [aI64 v7.1, aI64 v7.2.1, .hs 3 0 out_12.length 1], .own (out_12.flatMap (iC .i64)), .own ((seen_13.set x_14.toNat true).flatMap bC), .own [aI64 x_14]] <| .seq <| .seq <| .r4 fine [1, 2, 3, 6, 8, 9, 12, 36, 37, 38] [(13, aI64 0)] <| .block ?_
       replace hr := bd hr; obtain ⟨o442, hL443, hr⟩ := hr
       refine .loopO (σ := fun z0 => match z0 with | (seen_346, region_347, at_348) => ⟨mkS 196 0 [(1, aI64 step), (2, aI64 least), (3, .hp 0 0), (6, .hp 1 0), (8, .hp 2 0), (9, .hs 4 0 seen_346.length 1), (12, .hs 5 0 region_347.length 1), (13, aI64 at_348), (36, sI64 f.V), (37, aI64 (f.V.length : Int)), (38, aI64 x_14)], [.own (api_Field.c f), .own [aI64 0, aI64 0, nS], .own [aI64 v7.1, aI64 v7.2.1, .hs 3 0 out_12.length 1], .own (out_12.flatMap (iC .i64)), .own (seen_346.flatMap bC), .own (region_347.flatMap (iC .i64))]⟩) (Q := fun x st' => match (generalizing := false) o442 with | (seen_394, region_395) => x = .exit 2 ∧ Wk 0 st' ⟨mkS 196 0 [(1, aI64 step), (2, aI64 least), (3, .hp 0 0), (6, .hp 1 0), (8, .hp 2 0), (9, .hs 4 0 seen_394.length 1), (12, .hs 5 0 region_395.length 1), (36, sI64 f.V), (37, aI64 (f.V.length : Int)), (38, aI64 x_14)], [.own (api_Field.c f), .own [aI64 0, aI64 0, nS], .own [aI64 v7.1, aI64 v7.2.1, .hs 3 0 out_12.length 1], .own (out_12.flatMap (iC .i64)), .own (seen_394.flatMap bC), .own (region_395.flatMap (iC .i64))]⟩) hL443 ((Wk.relen 9 (b := 4) (es := 1) (len := seen_13.length) (seen_13.set x_14.toNat true).length (by kernel_rfl) (Eq.symm (List.length_set.trans rfl))).trans ((Wk.gc [1, 2, 3, 6, 8, 9, 12, 13, 36, 37, 38] [(0, true), (1, true), (2, true), (3, false), (4, false), (5, false)] rfl (pKt (pKt (pKt (pKo (iC .i64) (iC_pure _) out_12 (pKo bC bC_pure (seen_13.set x_14.toNat true) (pKc trivial))))))).to (by kernel_rfl))) ?_ ?_
       ·clear hr
        rintro m ⟨seen_346, region_347, at_348⟩ hr
        show CQ _ _ _ _ _ ⟨_, _⟩
        refine .seq <| .seq <| .r4 fine [1, 2, 3, 6, 8, 9, 12, 13, 36, 37, 38] [(59, aB (decide (at_348 < (region_347.length : Int))))] ?_
        refine .cd hr (fun hb398 hr => ?_) (fun hb398 hr => ?_)
        ·refine .skip <| .seq <| .block <| .seq ?_
         obtain ⟨hg399, hr⟩ := gd hr
         refine .r0 fine <| .mu 2 <| .p0 (v := .hp 5 (0 + at_348.toNat * 1)) (tr (ofP_guard hg399)) <| .p0 (v := aI64 (gt region_347 at_348)) (tr (ofP_some (flat_get (iC_len .i64) (inR_lt hg399) (by decide : 0 < 1) (by omega : 0 + at_348.toNat * 1 = at_348.toNat * 1 + 0) (by kernel_rfl)))) <| .mu 1 <| .done <| .nh [1, 2, 3, 6, 8, 9, 12, 13, 14, 36, 37, 38] [.own (api_Field.c f), .own [aI64 0, aI64 0, nS], .own [aI64 v7.1, aI64 v7.2.1, .hs 3 0 out_12.length 1], .own (out_12.flatMap (iC .i64)), .own (seen_346.flatMap bC), .own (region_347.flatMap (iC .i64))] <| .seq ?_
         obtain ⟨hg400, hr⟩ := gd hr
         refine .regionT fine callOf_nil <| .mu 3 <| .pure (v := aI64 ((gt region_347 at_348).tmod f.Width)) (by kernel_rfl) (op_rem (x := (gt region_347 at_348)) (y := f.Width) (by kernel_rfl) (by kernel_rfl) hg400) (by kernel_rfl) <| .mu 3 <| .pure (v := aI64 (wrapF .i64 ((gt region_347 at_348).tdiv f.Width))) (by kernel_rfl) (op_quo (x := (gt region_347 at_348)) (y := f.Width) (by kernel_rfl) (by kernel_rfl) hg400) (by kernel_rfl) <| .mu 2 ?_
         refine .done ⟨by kernel_rfl, ?_⟩
         refine .nh [1, 2, 3, 6, 8, 9, 12, 13, 14, 15, 16, 36, 37, 38] [.own (api_Field.c f), .own [aI64 0, aI64 0, nS], .own [aI64 v7.1, aI64 v7.2.1, .hs 3 0 out_12.length 1], .own (out_12.flatMap (iC .i64)), .own (seen_346.flatMap bC), .own (region_347.flatMap (iC .i64))] <| .seq <| .r5 fine [1, 2, 3, 6, 8, 9, 12, 13, 14, 36, 37, 38] [(90, .hs 6 0 4 2), (91, aI64 4), (92, aI64 0)] [.own (api_Field.c f), .own [aI64 0, aI64 0, nS], .own [aI64 v7.1, aI64 v7.2.1, .hs 3 0 out_12.length 1], .own (out_12.flatMap (iC .i64)), .own (seen_346.flatMap bC), .own (region_347.flatMap (iC .i64)), .own [aI64 (wrapF .i64 (((gt region_347 at_348).tmod f.Width) - 1)), aI64 (wrapF .i64 ((gt region_347 at_348).tdiv f.Width)), aI64 (wrapF .i64 (((gt region_347 at_348).tmod f.Width) + 1)), aI64 (wrapF .i64 ((gt region_347 at_348).tdiv f.Width)), aI64 ((gt region_347 at_348).tmod f.Width), aI64 (wrapF .i64 ((wrapF .i64 ((gt region_347 at_348).tdiv f.Width)) - 1)), aI64 ((gt region_347 at_348).tmod f.Width), aI64 (wrapF .i64 ((wrapF .i64 ((gt region_347 at_348).tdiv f.Width)) + 1))]] <| .block ?_
         replace hr := bd hr; obtain ⟨o439, hL440, hr⟩ := hr
         refine .loopO (σ := fun z0 => match z0 with | (seen_401, region_402, x_403) => ⟨mkS 196 0 [(1, aI64 step), (2, aI64 least), (3, .hp 0 0), (6, .hp 1 0), (8, .hp 2 0), (9, .hs 4 0 seen_401.length 1), (12, .hs 5 0 region_402.length 1), (13, aI64 at_348), (14, aI64 (gt region_347 at_348)), (36, sI64 f.V), (37, aI64 (f.V.length : Int)), (38, aI64 x_14), (90, .hs 6 0 ((nbs (gt region_347 at_348) f.Width).length) 2), (91, aI64 4), (92, aI64 x_403)], [.own (api_Field.c f), .own [aI64 0, aI64 0, nS], .own [aI64 v7.1, aI64 v7.2.1, .hs 3 0 out_12.length 1], .own (out_12.flatMap (iC .i64)), .own (seen_401.flatMap bC), .own (region_402.flatMap (iC .i64)), .own ((nbs (gt region_347 at_348) f.Width).flatMap A2_2_int.c)]⟩) (Q := fun x st' => match (generalizing := false) o439 with | (seen_420, region_421) => x = .exit 4 ∧ Wk 0 st' ⟨mkS 196 0 [(1, aI64 step), (2, aI64 least), (3, .hp 0 0), (6, .hp 1 0), (8, .hp 2 0), (9, .hs 4 0 seen_420.length 1), (12, .hs 5 0 region_421.length 1), (13, aI64 at_348), (36, sI64 f.V), (37, aI64 (f.V.length : Int)), (38, aI64 x_14)], [.own (api_Field.c f), .own [aI64 0, aI64 0, nS], .own [aI64 v7.1, aI64 v7.2.1, .hs 3 0 out_12.length 1], .own (out_12.flatMap (iC .i64)), .own (seen_420.flatMap bC), .own (region_421.flatMap (iC .i64))]⟩) hL440 ((Wk.gc [1, 2, 3, 6, 8, 9, 12, 13, 14, 36, 37, 38, 90, 91, 92] [(0, true), (1, true), (2, true), (3, false), (4, false), (5, false), (6, false)] rfl (pKt (pKt (pKt (pKo (iC .i64) (iC_pure _) out_12 (pKo bC bC_pure seen_346 (pKo (iC .i64) (iC_pure _) region_347 (pKc trivial)))))))).to (by kernel_rfl)) ?_ ?_
         ·clear hr
          rintro m ⟨seen_401, region_402, x_403⟩ hr
          show CQ _ _ _ _ _ ⟨_, _⟩
          refine .seq <| .r4 fine [1, 2, 3, 6, 8, 9, 12, 13, 14, 36, 37, 38, 90, 91, 92] [(93, aB (decide (x_403 < 4)))] <| .seq ?_
          refine .cd hr (fun hb424 hr => ?_) (fun hb424 hr => ?_)
          ·refine .skip <| .seq <| .block <| .seq ?_
           obtain ⟨hg425, hr⟩ := gd hr
           refine .r0 fine <| .p0 (v := .hp 6 (0 + x_403.toNat * 2)) (tr (ofP_guard hg425)) <| .p0 (v := .agg [aI64 (gt (nbs (gt region_347 at_348) f.Width) x_403).e0, aI64 (gt (nbs (gt region_347 at_348) f.Width) x_403).e1]) (Eq.trans (b := ORes.ofP (guardV (decide (2 ≤ (((nbs (gt region_347 at_348) f.Width).flatMap A2_2_int.c).drop (0 + x_403.toNat * 2)).length)) (.agg ((((nbs (gt region_347 at_348) f.Width).flatMap A2_2_int.c).drop (0 + x_403.toNat * 2)).take 2)))) (by kernel_rfl) (flat_load A2_2_int.len (inR_lt hg425) (by decide) (by omega : 0 + x_403.toNat * 2 = x_403.toNat * 2 + 0) (by kernel_rfl))) <| .mu 2 <| .done ?_
           refine .nh [1, 2, 3, 6, 8, 9, 12, 13, 14, 18, 36, 37, 38, 90, 91, 92] [.own (api_Field.c f), .own [aI64 0, aI64 0, nS], .own [aI64 v7.1, aI64 v7.2.1, .hs 3 0 out_12.length 1], .own (out_12.flatMap (iC .i64)), .own (seen_401.flatMap bC), .own (region_402.flatMap (iC .i64)), .own ((nbs (gt region_347 at_348) f.Width).flatMap A2_2_int.c), .own [aI64 (gt (nbs (gt region_347 at_348) f.Width) x_403).e0, aI64 (gt (nbs (gt region_347 at_348) f.Width) x_403).e1]] <| .seq <| .seq ?_
           rcases Bool.eq_false_or_eq_true (decide ((gt (nbs (gt region_347 at_348) f.Width) x_403).e0 < 0)) with hb426 | hb426
           ·replace hr := cd_t hb426 hr
            refine .r0 fine <| .mu 2 <| .p0 (v := aB true) (eB hb426) <| .mu 19 <| .done <| .nh [1, 2, 3, 6, 8, 9, 12, 13, 14, 18, 36, 37, 38, 90, 91, 92, 117] [.own (api_Field.c f), .own [aI64 0, aI64 0, nS], .own [aI64 v7.1, aI64 v7.2.1, .hs 3 0 out_12.length 1], .own (out_12.flatMap (iC .i64)), .own (seen_401.flatMap bC), .own (region_402.flatMap (iC .i64)), .own ((nbs (gt region_347 at_348) f.Width).flatMap A2_2_int.c), .own [aI64 (gt (nbs (gt region_347 at_348) f.Width) x_403).e0, aI64 (gt (nbs (gt region_347 at_348) f.Width) x_403).e1]] <| .cT (by kernel_rfl) <| .exit rfl <| .ru fine ?_
            exact loopF_back (seen_401, region_402, wrapF .i64 (x_403 + 1)) hr ((Wk.gc [1, 2, 3, 6, 8, 9, 12, 13, 14, 36, 37, 38, 90, 91, 92] [(0, true), (1, true), (2, true), (3, false), (4, false), (5, false), (6, false)] rfl (pKt (pKt (pKt (pKo (iC .i64) (iC_pure _) out_12 (pKo bC bC_pure seen_401 (pKo (iC .i64) (iC_pure _) region_402 (pKo A2_2_int.c A2_2_int.pure (nbs (gt region_347 at_348) f.Width) trivial)))))))).to (by kernel_rfl))
           ·replace hr := cd_f hb426 hr
            rcases Bool.eq_false_or_eq_true (decide ((gt (nbs (gt region_347 at_348) f.Width) x_403).e0 ≥ f.Width)) with hb427 | hb427
            ·replace hr := cd_t hb427 hr
             refine .r0 fine <| .mu 2 <| .p0 (v := aB false) (eB hb426) <| .mu 5 <| .pure (v := aB true) (by kernel_rfl) (eB hb427) <| .mu 13 <| .done <| .nh [1, 2, 3, 6, 8, 9, 12, 13, 14, 18, 36, 37, 38, 90, 91, 92, 117] [.own (api_Field.c f), .own [aI64 0, aI64 0, nS], .own [aI64 v7.1, aI64 v7.2.1, .hs 3 0 out_12.length 1], .own (out_12.flatMap (iC .i64)), .own (seen_401.flatMap bC), .own (region_402.flatMap (iC .i64)), .own ((nbs (gt region_347 at_348) f.Width).flatMap A2_2_int.c), .own [aI64 (gt (nbs (gt region_347 at_348) f.Width) x_403).e0, aI64 (gt (nbs (gt region_347 at_348) f.Width) x_403).e1]] <| .cT (by kernel_rfl) <| .exit rfl <| .ru fine ?_
             exact loopF_back (seen_401, region_402, wrapF .i64 (x_403 + 1)) hr ((Wk.gc [1, 2, 3, 6, 8, 9, 12, 13, 14, 36, 37, 38, 90, 91, 92] [(0, true), (1, true), (2, true), (3, false), (4, false), (5, false), (6, false)] rfl (pKt (pKt (pKt (pKo (iC .i64) (iC_pure _) out_12 (pKo bC bC_pure seen_401 (pKo (iC .i64) (iC_pure _) region_402 (pKo A2_2_int.c A2_2_int.pure (nbs (gt region_347 at_348) f.Width) trivial)))))))).to (by kernel_rfl))
            ·replace hr := cd_f hb427 hr
             rcases Bool.eq_false_or_eq_true (decide ((gt (nbs (gt region_347 at_348) f.Width) x_403).e1 < 0)) with hb428 | hb428
             ·replace hr := cd_t hb428 hr
              refine .r0 fine <| .mu 2 <| .p0 (v := aB false) (eB hb426) <| .mu 5 <| .pure (v := aB false) (by kernel_rfl) (eB hb427) <| .mu 4 <| .pure (v := aB true) (by kernel_rfl) (eB hb428) <| .mu 8 <| .done <| .nh [1, 2, 3, 6, 8, 9, 12, 13, 14, 18, 36, 37, 38, 90, 91, 92, 117] [.own (api_Field.c f), .own [aI64 0, aI64 0, nS], .own [aI64 v7.1, aI64 v7.2.1, .hs 3 0 out_12.length 1], .own (out_12.flatMap (iC .i64)), .own (seen_401.flatMap bC), .own (region_402.flatMap (iC .i64)), .own ((nbs (gt region_347 at_348) f.Width).flatMap A2_2_int.c), .own [aI64 (gt (nbs (gt region_347 at_348) f.Width) x_403).e0, aI64 (gt (nbs (gt region_347 at_348) f.Width) x_403).e1]] <| .cT (by kernel_rfl) <| .exit rfl <| .ru fine ?_
              exact loopF_back (seen_401, region_402, wrapF .i64 (x_403 + 1)) hr ((Wk.gc [1, 2, 3, 6, 8, 9, 12, 13, 14, 36, 37, 38, 90, 91, 92] [(0, true), (1, true), (2, true), (3, false), (4, false), (5, false), (6, false)] rfl (pKt (pKt (pKt (pKo (iC .i64) (iC_pure _) out_12 (pKo bC bC_pure seen_401 (pKo (iC .i64) (iC_pure _) region_402 (pKo A2_2_int.c A2_2_int.pure (nbs (gt region_347 at_348) f.Width) trivial)))))))).to (by kernel_rfl))
             ·replace hr := cd_f hb428 hr
              refine .r0 fine <| .mu 2 <| .p0 (v := aB false) (eB hb426) <| .mu 5 <| .pure (v := aB false) (by kernel_rfl) (eB hb427) <| .mu 4 <| .pure (v := aB false) (by kernel_rfl) (eB hb428) <| .mu 8 <| .done <| .nh [1, 2, 3, 6, 8, 9, 12, 13, 14, 18, 36, 37, 38, 90, 91, 92, 117] [.own (api_Field.c f), .own [aI64 0, aI64 0, nS], .own [aI64 v7.1, aI64 v7.2.1, .hs 3 0 out_12.length 1], .own (out_12.flatMap (iC .i64)), .own (seen_401.flatMap bC), .own (region_402.flatMap (iC .i64)), .own ((nbs (gt region_347 at_348) f.Width).flatMap A2_2_int.c), .own [aI64 (gt (nbs (gt region_347 at_348) f.Width) x_403).e0, aI64 (gt (nbs (gt region_347 at_348) f.Width) x_403).e1]] ?_
              refine .cd hr (fun hb430 hr => ?_) (fun hb430 hr => ?_)
              ·refine .exit rfl <| .ru fine ?_
               exact loopF_back (seen_401, region_402, wrapF .i64 (x_403 + 1)) hr ((Wk.gc [1, 2, 3, 6, 8, 9, 12, 13, 14, 36, 37, 38, 90, 91, 92] [(0, true), (1, true), (2, true), (3, false), (4, false), (5, false), (6, false)] rfl (pKt (pKt (pKt (pKo (iC .i64) (iC_pure _) out_12 (pKo bC bC_pure seen_401 (pKo (iC .i64) (iC_pure _) region_402 (pKo A2_2_int.c A2_2_int.pure (nbs (gt region_347 at_348) f.Width) trivial)))))))).to (by kernel_rfl))
              ·refine .skip <| .seq <| .r4 fine [1, 2, 3, 6, 8, 9, 12, 13, 14, 36, 37, 38, 90, 91, 92] [(19, aI64 (wrapF .i64 ((wrapF .i64 ((gt (nbs (gt region_347 at_348) f.Width) x_403).e1 * f.Width)) + (gt (nbs (gt region_347 at_348) f.Width) x_403).e0)))] <| .seq ?_
               obtain ⟨hg431, hr⟩ := gd hr
               rcases Bool.eq_false_or_eq_true (!(gt seen_401 (wrapF .i64 ((wrapF .i64 ((gt (nbs (gt region_347 at_348) f.Width) x_403).e1 * f.Width)) + (gt (nbs (gt region_347 at_348) f.Width) x_403).e0)))) with hb432 | hb432
               ·replace hr := cd_t hb432 hr
                obtain ⟨hg433, hr⟩ := gd hr
                rcases Bool.eq_false_or_eq_true (decide ((gt f.V (wrapF .i64 ((wrapF .i64 ((gt (nbs (gt region_347 at_348) f.Width) x_403).e1 * f.Width)) + (gt (nbs (gt region_347 at_348) f.Width) x_403).e0))) ≥ 0)) with hb434 | hb434
                ·replace hr := cd_t hb434 hr
                 obtain ⟨hg435, hr⟩ := gd hr
                 refine .regionT fine callOf_nil <| .mu 2 <| .pure (v := .hp 4 (0 + (wrapF .i64 ((wrapF .i64 ((gt (nbs (gt region_347 at_348) f.Width) x_403).e1 * f.Width)) + (gt (nbs (gt region_347 at_348) f.Width) x_403).e0)).toNat * 1)) (by kernel_rfl) (tr (ofP_guard hg431)) (by kernel_rfl) ?_
                 refine .pure (v := aB (gt seen_401 (wrapF .i64 ((wrapF .i64 ((gt (nbs (gt region_347 at_348) f.Width) x_403).e1 * f.Width)) + (gt (nbs (gt region_347 at_348) f.Width) x_403).e0)))) (by kernel_rfl) (tr (ofP_some (flat_get bC_len (inR_lt hg431) (by decide : 0 < 1) (by omega : 0 + (wrapF .i64 ((wrapF .i64 ((gt (nbs (gt region_347 at_348) f.Width) x_403).e1 * f.Width)) + (gt (nbs (gt region_347 at_348) f.Width) x_403).e0)).toNat * 1 = (wrapF .i64 ((wrapF .i64 ((gt (nbs (gt region_347 at_348) f.Width) x_403).e1 * f.Width)) + (gt (nbs (gt region_347 at_348) f.Width) x_403).e0)).toNat * 1 + 0) (by kernel_rfl)))) (by kernel_rfl) <| .pure (v := aB true) (by kernel_rfl) (eB hb432) (by kernel_rfl) <| .mu 4 ?_
                 refine .pure (v := .pp (f.V.flatMap (iC .i64)) ((wrapF .i64 ((wrapF .i64 ((gt (nbs (gt region_347 at_348) f.Width) x_403).e1 * f.Width)) + (gt (nbs (gt region_347 at_348) f.Width) x_403).e0)).toNat * 1)) (by kernel_rfl) (tr (ofP_guard hg433)) (by kernel_rfl) ?_
                 refine .pure (v := aI64 (gt f.V (wrapF .i64 ((wrapF .i64 ((gt (nbs (gt region_347 at_348) f.Width) x_403).e1 * f.Width)) + (gt (nbs (gt region_347 at_348) f.Width) x_403).e0)))) (by kernel_rfl) (tr (ofP_some (flat_get (iC_len .i64) (inR_lt hg433) (by decide : 0 < 1) (by omega : (wrapF .i64 ((wrapF .i64 ((gt (nbs (gt region_347 at_348) f.Width) x_403).e1 * f.Width)) + (gt (nbs (gt region_347 at_348) f.Width) x_403).e0)).toNat * 1 = (wrapF .i64 ((wrapF .i64 ((gt (nbs (gt region_347 at_348) f.Width) x_403).e1 * f.Width)) + (gt (nbs (gt region_347 at_348) f.Width) x_403).e0)).toNat * 1 + 0) (by kernel_rfl)))) (by kernel_rfl) <| .pure (v := aB true) (by kernel_rfl) (eB hb434) (by kernel_rfl) <| .mu 5 <| .pure (v := .pp (f.V.flatMap (iC .i64)) ((gt region_347 at_348).toNat * 1)) (by kernel_rfl) (tr (ofP_guard hg435)) (by kernel_rfl) <| .pure (v := aI64 (gt f.V (gt region_347 at_348))) (by kernel_rfl) (tr (ofP_some (flat_get (iC_len .i64) (inR_lt hg435) (by decide : 0 < 1) (by omega : (gt region_347 at_348).toNat * 1 = (gt region_347 at_348).toNat * 1 + 0) (by kernel_rfl)))) (by kernel_rfl) <| .mu 3 ?_
                 refine .pure (v := .pp (f.V.flatMap (iC .i64)) ((wrapF .i64 ((wrapF .i64 ((gt (nbs (gt region_347 at_348) f.Width) x_403).e1 * f.Width)) + (gt (nbs (gt region_347 at_348) f.Width) x_403).e0)).toNat * 1)) (by kernel_rfl) (tr (ofP_guard hg433)) (by kernel_rfl) ?_
                 refine .pure (v := aI64 (gt f.V (wrapF .i64 ((wrapF .i64 ((gt (nbs (gt region_347 at_348) f.Width) x_403).e1 * f.Width)) + (gt (nbs (gt region_347 at_348) f.Width) x_403).e0)))) (by kernel_rfl) (tr (ofP_some (flat_get (iC_len .i64) (inR_lt hg433) (by decide : 0 < 1) (by omega : (wrapF .i64 ((wrapF .i64 ((gt (nbs (gt region_347 at_348) f.Width) x_403).e1 * f.Width)) + (gt (nbs (gt region_347 at_348) f.Width) x_403).e0)).toNat * 1 = (wrapF .i64 ((wrapF .i64 ((gt (nbs (gt region_347 at_348) f.Width) x_403).e1 * f.Width)) + (gt (nbs (gt region_347 at_348) f.Width) x_403).e0)).toNat * 1 + 0) (by kernel_rfl)))) (by kernel_rfl) <| .mu 4 ?_
                 refine .pure (v := .pp (f.V.flatMap (iC .i64)) ((wrapF .i64 ((wrapF .i64 ((gt (nbs (gt region_347 at_348) f.Width) x_403).e1 * f.Width)) + (gt (nbs (gt region_347 at_348) f.Width) x_403).e0)).toNat * 1)) (by kernel_rfl) (tr (ofP_guard hg433)) (by kernel_rfl) ?_
                 refine .pure (v := aI64 (gt f.V (wrapF .i64 ((wrapF .i64 ((gt (nbs (gt region_347 at_348) f.Width) x_403).e1 * f.Width)) + (gt (nbs (gt region_347 at_348) f.Width) x_403).e0)))) (by kernel_rfl) (tr (ofP_some (flat_get (iC_len .i64) (inR_lt hg433) (by decide : 0 < 1) (by omega : (wrapF .i64 ((wrapF .i64 ((gt (nbs (gt region_347 at_348) f.Width) x_403).e1 * f.Width)) + (gt (nbs (gt region_347 at_348) f.Width) x_403).e0)).toNat * 1 = (wrapF .i64 ((wrapF .i64 ((gt (nbs (gt region_347 at_348) f.Width) x_403).e1 * f.Width)) + (gt (nbs (gt region_347 at_348) f.Width) x_403).e0)).toNat * 1 + 0) (by kernel_rfl)))) (by kernel_rfl) <| .mu 3 <| .pure (v := .pp (f.V.flatMap (iC .i64)) ((gt region_347 at_348).toNat * 1)) (by kernel_rfl) (tr (ofP_guard hg435)) (by kernel_rfl) <| .pure (v := aI64 (gt f.V (gt region_347 at_348))) (by kernel_rfl) (tr (ofP_some (flat_get (iC_len .i64) (inR_lt hg435) (by decide : 0 < 1) (by omega : (gt region_347 at_348).toNat * 1 = (gt region_347 at_348).toNat * 1 + 0) (by kernel_rfl)))) (by kernel_rfl) <| .mu 5 ?_
                 refine .done ⟨by kernel_rfl, ?_⟩
                 refine .nh [1, 2, 3, 6, 8, 9, 12, 13, 14, 19, 36, 37, 38, 90, 91, 92, 165] [.own (api_Field.c f), .own [aI64 0, aI64 0, nS], .own [aI64 v7.1, aI64 v7.2.1, .hs 3 0 out_12.length 1], .own (out_12.flatMap (iC .i64)), .own (seen_401.flatMap bC), .own (region_402.flatMap (iC .i64)), .own ((nbs (gt region_347 at_348) f.Width).flatMap A2_2_int.c), .own [aI64 (gt (nbs (gt region_347 at_348) f.Width) x_403).e0, aI64 (gt (nbs (gt region_347 at_348) f.Width) x_403).e1]] ?_
                 refine .cd hr (fun hb436 hr => ?_) (fun hb436 hr => ?_)
                 ·refine .seq <| .r0 fine <| .mu 2 <| .p0 (v := .hp 4 (0 + (wrapF .i64 ((wrapF .i64 ((gt (nbs (gt region_347 at_348) f.Width) x_403).e1 * f.Width)) + (gt (nbs (gt region_347 at_348) f.Width) x_403).e0)).toNat * 1)) (tr (ofP_guard hg431)) ?_
                  refine .e0 (v := .unk) (ws := [(4, .own ((seen_401.set (wrapF .i64 ((wrapF .i64 ((gt (nbs (gt region_347 at_348) f.Width) x_403).e1 * f.Width)) + (gt (nbs (gt region_347 at_348) f.Width) x_403).e0)).toNat true).flatMap bC))]) (tr (stO_t (and_t (flat_fits (n := 1) bC_len (inR_lt hg431) (Nat.le_of_ble_eq_true rfl) (by omega : 0 + (wrapF .i64 ((wrapF .i64 ((gt (nbs (gt region_347 at_348) f.Width) x_403).e1 * f.Width)) + (gt (nbs (gt region_347 at_348) f.Width) x_403).e0)).toNat * 1 = (wrapF .i64 ((wrapF .i64 ((gt (nbs (gt region_347 at_348) f.Width) x_403).e1 * f.Width)) + (gt (nbs (gt region_347 at_348) f.Width) x_403).e0)).toNat * 1 + 0))) (congrArg Blk.own (flat_set (xs := [aB true]) bC_len (inR_lt hg431) (Nat.le_of_ble_eq_true rfl) (by omega : 0 + (wrapF .i64 ((wrapF .i64 ((gt (nbs (gt region_347 at_348) f.Width) x_403).e1 * f.Width)) + (gt (nbs (gt region_347 at_348) f.Width) x_403).e0)).toNat * 1 = (wrapF .i64 ((wrapF .i64 ((gt (nbs (gt region_347 at_348) f.Width) x_403).e1 * f.Width)) + (gt (nbs (gt region_347 at_348) f.Width) x_403).e0)).toNat * 1 + 0) (by kernel_rfl))))) ?_
                  refine .done <| .nh [1, 2, 3, 6, 8, 9, 12, 13, 14, 19, 36, 37, 38, 90, 91, 92] [.own (api_Field.c f), .own [aI64 0, aI64 0, nS], .own [aI64 v7.1, aI64 v7.2.1, .hs 3 0 out_12.length 1], .own (out_12.flatMap (iC .i64)), .own ((seen_401.set (wrapF .i64 ((wrapF .i64 ((gt (nbs (gt region_347 at_348) f.Width) x_403).e1 * f.Width)) + (gt (nbs (gt region_347 at_348) f.Width) x_403).e0)).toNat true).flatMap bC), .own (region_402.flatMap (iC .i64)), .own ((nbs (gt region_347 at_348) f.Width).flatMap A2_2_int.c), .own [aI64 (gt (nbs (gt region_347 at_348) f.Width) x_403).e0, aI64 (gt (nbs (gt region_347 at_348) f.Width) x_403).e1]] ?_
                  obtain ⟨hg437, hg438, hr⟩ := gd2 hr
                  refine .r0 fine <| .mu 3 ?_
                  refine .e0 (v := .hs 9 0 (region_402 ++ [wrapF .i64 ((wrapF .i64 ((gt (nbs (gt region_347 at_348) f.Width) x_403).e1 * f.Width)) + (gt (nbs (gt region_347 at_348) f.Width) x_403).e0)]).length 1) (ws := [(5, .dead), (9, .own ((region_402 ++ [wrapF .i64 ((wrapF .i64 ((gt (nbs (gt region_347 at_348) f.Width) x_403).e1 * f.Width)) + (gt (nbs (gt region_347 at_348) f.Width) x_403).e0)]).flatMap (iC .i64)))]) (tr (app_own (new := [aI64 (wrapF .i64 ((wrapF .i64 ((gt (nbs (gt region_347 at_348) f.Width) x_403).e1 * f.Width)) + (gt (nbs (gt region_347 at_348) f.Width) x_403).e0))]) (l := region_402) (xs := [wrapF .i64 ((wrapF .i64 ((gt (nbs (gt region_347 at_348) f.Width) x_403).e1 * f.Width)) + (gt (nbs (gt region_347 at_348) f.Width) x_403).e0)]) (iC_len .i64) rfl rfl (by kernel_rfl) hg437 hg438)) ?_
                  refine .mu 1 <| .done <| .pop <| .ru fine ?_
                  exact loopF_back (seen_401.set (wrapF .i64 ((wrapF .i64 ((gt (nbs (gt region_347 at_348) f.Width) x_403).e1 * f.Width)) + (gt (nbs (gt region_347 at_348) f.Width) x_403).e0)).toNat true, region_402 ++ [wrapF .i64 ((wrapF .i64 ((gt (nbs (gt region_347 at_348) f.Width) x_403).e1 * f.Width)) + (gt (nbs (gt region_347 at_348) f.Width) x_403).e0)], wrapF .i64 (x_403 + 1)) hr ((Wk.relen 9 (b := 4) (es := 1) (len := seen_401.length) (seen_401.set (wrapF .i64 ((wrapF .i64 ((gt (nbs (gt region_347 at_348) f.Width) x_403).e1 * f.Width)) + (gt (nbs (gt region_347 at_348) f.Width) x_403).e0)).toNat true).length (by kernel_rfl) (Eq.symm (List.length_set.trans rfl))).trans ((Wk.gc [1, 2, 3, 6, 8, 9, 12, 13, 14, 36, 37, 38, 90, 91, 92] [(0, true), (1, true), (2, true), (3, false), (4, false), (9, false), (6, false)] rfl (pKt (pKt (pKt (pKo (iC .i64) (iC_pure _) out_12 (pKo bC bC_pure (seen_401.set (wrapF .i64 ((wrapF .i64 ((gt (nbs (gt region_347 at_348) f.Width) x_403).e1 * f.Width)) + (gt (nbs (gt region_347 at_348) f.Width) x_403).e0)).toNat true) (pKo (iC .i64) (iC_pure _) (region_402 ++ [wrapF .i64 ((wrapF .i64 ((gt (nbs (gt region_347 at_348) f.Width) x_403).e1 * f.Width)) + (gt (nbs (gt region_347 at_348) f.Width) x_403).e0)]) (pKo A2_2_int.c A2_2_int.pure (nbs (gt region_347 at_348) f.Width) trivial)))))))).to (by kernel_rfl)))
                 ·refine .skip <| .pop <| .ru fine ?_
                  exact loopF_back (seen_401, region_402, wrapF .i64 (x_403 + 1)) hr ((Wk.gc [1, 2, 3, 6, 8, 9, 12, 13, 14, 36, 37, 38, 90, 91, 92] [(0, true), (1, true), (2, true), (3, false), (4, false), (5, false), (6, false)] rfl (pKt (pKt (pKt (pKo (iC .i64) (iC_pure _) out_12 (pKo bC bC_pure seen_401 (pKo (iC .i64) (iC_pure _) region_402 (pKo A2_2_int.c A2_2_int.pure (nbs (gt region_347 at_348) f.Width) trivial)))))))).to (by kernel_rfl))
                ·replace hr := cd_f hb434 hr
                 refine .regionT fine callOf_nil <| .mu 2 <| .pure (v := .hp 4 (0 + (wrapF .i64 ((wrapF .i64 ((gt (nbs (gt region_347 at_348) f.Width) x_403).e1 * f.Width)) + (gt (nbs (gt region_347 at_348) f.Width) x_403).e0)).toNat * 1)) (by kernel_rfl) (tr (ofP_guard hg431)) (by kernel_rfl) ?_
                 refine .pure (v := aB (gt seen_401 (wrapF .i64 ((wrapF .i64 ((gt (nbs (gt region_347 at_348) f.Width) x_403).e1 * f.Width)) + (gt (nbs (gt region_347 at_348) f.Width) x_403).e0)))) (by kernel_rfl) (tr (ofP_some (flat_get bC_len (inR_lt hg431) (by decide : 0 < 1) (by omega : 0 + (wrapF .i64 ((wrapF .i64 ((gt (nbs (gt region_347 at_348) f.Width) x_403).e1 * f.Width)) + (gt (nbs (gt region_347 at_348) f.Width) x_403).e0)).toNat * 1 = (wrapF .i64 ((wrapF .i64 ((gt (nbs (gt region_347 at_348) f.Width) x_403).e1 * f.Width)) + (gt (nbs (gt region_347 at_348) f.Width) x_403).e0)).toNat * 1 + 0) (by kernel_rfl)))) (by kernel_rfl) <| .pure (v := aB true) (by kernel_rfl) (eB hb432) (by kernel_rfl) <| .mu 4 ?_
                 refine .pure (v := .pp (f.V.flatMap (iC .i64)) ((wrapF .i64 ((wrapF .i64 ((gt (nbs (gt region_347 at_348) f.Width) x_403).e1 * f.Width)) + (gt (nbs (gt region_347 at_348) f.Width) x_403).e0)).toNat * 1)) (by kernel_rfl) (tr (ofP_guard hg433)) (by kernel_rfl) ?_
                 refine .pure (v := aI64 (gt f.V (wrapF .i64 ((wrapF .i64 ((gt (nbs (gt region_347 at_348) f.Width) x_403).e1 * f.Width)) + (gt (nbs (gt region_347 at_348) f.Width) x_403).e0)))) (by kernel_rfl) (tr (ofP_some (flat_get (iC_len .i64) (inR_lt hg433) (by decide : 0 < 1) (by omega : (wrapF .i64 ((wrapF .i64 ((gt (nbs (gt region_347 at_348) f.Width) x_403).e1 * f.Width)) + (gt (nbs (gt region_347 at_348) f.Width) x_403).e0)).toNat * 1 = (wrapF .i64 ((wrapF .i64 ((gt (nbs (gt region_347 at_348) f.Width) x_403).e1 * f.Width)) + (gt (nbs (gt region_347 at_348) f.Width) x_403).e0)).toNat * 1 + 0) (by kernel_rfl)))) (by kernel_rfl) <| .pure (v := aB false) (by kernel_rfl) (eB hb434) (by kernel_rfl) <| .mu 28 ?_
                 refine .done ⟨by kernel_rfl, ?_⟩
                 refine .nh [1, 2, 3, 6, 8, 9, 12, 13, 14, 19, 36, 37, 38, 90, 91, 92, 165] [.own (api_Field.c f), .own [aI64 0, aI64 0, nS], .own [aI64 v7.1, aI64 v7.2.1, .hs 3 0 out_12.length 1], .own (out_12.flatMap (iC .i64)), .own (seen_401.flatMap bC), .own (region_402.flatMap (iC .i64)), .own ((nbs (gt region_347 at_348) f.Width).flatMap A2_2_int.c), .own [aI64 (gt (nbs (gt region_347 at_348) f.Width) x_403).e0, aI64 (gt (nbs (gt region_347 at_348) f.Width) x_403).e1]] <| .cF (by kernel_rfl) <| .skip <| .pop <| .ru fine ?_
                 exact loopF_back (seen_401, region_402, wrapF .i64 (x_403 + 1)) hr ((Wk.gc [1, 2, 3, 6, 8, 9, 12, 13, 14, 36, 37, 38, 90, 91, 92] [(0, true), (1, true), (2, true), (3, false), (4, false), (5, false), (6, false)] rfl (pKt (pKt (pKt (pKo (iC .i64) (iC_pure _) out_12 (pKo bC bC_pure seen_401 (pKo (iC .i64) (iC_pure _) region_402 (pKo A2_2_int.c A2_2_int.pure (nbs (gt region_347 at_348) f.Width) trivial)))))))).to (by kernel_rfl))
               ·replace hr := cd_f hb432 hr
                refine .regionT fine callOf_nil <| .mu 2 <| .pure (v := .hp 4 (0 + (wrapF .i64 ((wrapF .i64 ((gt (nbs (gt region_347 at_348) f.Width) x_403).e1 * f.Width)) + (gt (nbs (gt region_347 at_348) f.Width) x_403).e0)).toNat * 1)) (by kernel_rfl) (tr (ofP_guard hg431)) (by kernel_rfl) ?_
                refine .pure (v := aB (gt seen_401 (wrapF .i64 ((wrapF .i64 ((gt (nbs (gt region_347 at_348) f.Width) x_403).e1 * f.Width)) + (gt (nbs (gt region_347 at_348) f.Width) x_403).e0)))) (by kernel_rfl) (tr (ofP_some (flat_get bC_len (inR_lt hg431) (by decide : 0 < 1) (by omega : 0 + (wrapF .i64 ((wrapF .i64 ((gt (nbs (gt region_347 at_348) f.Width) x_403).e1 * f.Width)) + (gt (nbs (gt region_347 at_348) f.Width) x_403).e0)).toNat * 1 = (wrapF .i64 ((wrapF .i64 ((gt (nbs (gt region_347 at_348) f.Width) x_403).e1 * f.Width)) + (gt (nbs (gt region_347 at_348) f.Width) x_403).e0)).toNat * 1 + 0) (by kernel_rfl)))) (by kernel_rfl) <| .pure (v := aB false) (by kernel_rfl) (eB hb432) (by kernel_rfl) <| .mu 35 ?_
                refine .done ⟨by kernel_rfl, ?_⟩
                refine .nh [1, 2, 3, 6, 8, 9, 12, 13, 14, 19, 36, 37, 38, 90, 91, 92, 165] [.own (api_Field.c f), .own [aI64 0, aI64 0, nS], .own [aI64 v7.1, aI64 v7.2.1, .hs 3 0 out_12.length 1], .own (out_12.flatMap (iC .i64)), .own (seen_401.flatMap bC), .own (region_402.flatMap (iC .i64)), .own ((nbs (gt region_347 at_348) f.Width).flatMap A2_2_int.c), .own [aI64 (gt (nbs (gt region_347 at_348) f.Width) x_403).e0, aI64 (gt (nbs (gt region_347 at_348) f.Width) x_403).e1]] <| .cF (by kernel_rfl) <| .skip <| .pop <| .ru fine ?_
                exact loopF_back (seen_401, region_402, wrapF .i64 (x_403 + 1)) hr ((Wk.gc [1, 2, 3, 6, 8, 9, 12, 13, 14, 36, 37, 38, 90, 91, 92] [(0, true), (1, true), (2, true), (3, false), (4, false), (5, false), (6, false)] rfl (pKt (pKt (pKt (pKo (iC .i64) (iC_pure _) out_12 (pKo bC bC_pure seen_401 (pKo (iC .i64) (iC_pure _) region_402 (pKo A2_2_int.c A2_2_int.pure (nbs (gt region_347 at_348) f.Width) trivial)))))))).to (by kernel_rfl))
          ·refine .leave rfl ?_
           obtain rfl := oi hr
           exact ⟨rfl, ((Wk.gc [1, 2, 3, 6, 8, 9, 12, 13, 36, 37, 38] [(0, true), (1, true), (2, true), (3, false), (4, false), (5, false)] rfl (pKt (pKt (pKt (pKo (iC .i64) (iC_pure _) out_12 (pKo bC bC_pure seen_401 (pKo (iC .i64) (iC_pure _) region_402 trivial))))))).to (by kernel_rfl))⟩
         ·rcases o439 with ⟨seen_420, region_421⟩
          rintro x st' hq441
          clear hL440
          obtain ⟨rfl, hq441⟩ := hq441
          refine CQ_exit _ rfl <| .pop <| .wk hq441 <| .ru fine ?_
          exact loopF_back (seen_420, region_421, wrapF .i64 (at_348 + 1)) hr ((Wk.gc [1, 2, 3, 6, 8, 9, 12, 13, 36, 37, 38] [(0, true), (1, true), (2, true), (3, false), (4, false), (5, false)] rfl (pKt (pKt (pKt (pKo (iC .i64) (iC_pure _) out_12 (pKo bC bC_pure seen_420 (pKo (iC .i64) (iC_pure _) region_421 trivial))))))).to (by kernel_rfl))
        ·refine .leave rfl ?_
         obtain rfl := oi hr
         exact ⟨rfl, ((Wk.gc [1, 2, 3, 6, 8, 9, 12, 36, 37, 38] [(0, true), (1, true), (2, true), (3, false), (4, false), (5, false)] rfl (pKt (pKt (pKt (pKo (iC .i64) (iC_pure _) out_12 (pKo bC bC_pure seen_346 (pKo (iC .i64) (iC_pure _) region_347 trivial))))))).to (by kernel_rfl))⟩
       ·rcases o442 with ⟨seen_394, region_395⟩
        rintro x st' hq444
        clear hL443
        obtain ⟨rfl, hq444⟩ := hq444
        refine CQ_exit _ rfl <| .wk hq444 <| .seq <| .r4 fine [1, 2, 3, 6, 8, 9, 12, 36, 37, 38] [(177, aB (decide ((region_395.length : Int) ≥ least)))] ?_
        refine .cd hr (fun hb445 hr => ?_) (fun hb445 hr => ?_)
        ·refine .seq <| .r4 fine [1, 2, 3, 6, 8, 9, 36, 37, 38] [(178, .hs 5 0 region_395.length 1), (179, aI64 (region_395.length : Int)), (180, aI64 0)] <| .block ?_
         replace hr := bd hr; obtain ⟨out_453, hL461, hr⟩ := hr
         refine .loopO (σ := fun z0 => match z0 with | (out_446, x_447) => ⟨mkS 196 0 [(1, aI64 step), (2, aI64 least), (3, .hp 0 0), (6, .hp 1 0), (8, .hp 2 0), (9, .hs 4 0 seen_394.length 1), (36, sI64 f.V), (37, aI64 (f.V.length : Int)), (38, aI64 x_14), (178, .hs 5 0 region_395.length 1), (179, aI64 (region_395.length : Int)), (180, aI64 x_447)], [.own (api_Field.c f), .own [aI64 0, aI64 0, nS], .own [aI64 v7.1, aI64 v7.2.1, .hs 3 0 out_446.length 1], .own (out_446.flatMap (iC .i64)), .own (seen_394.flatMap bC), .own (region_395.flatMap (iC .i64))]⟩) (Q := fun x st' => x = .exit 6 ∧ Wk 0 st' ⟨mkS 196 0 [(1, aI64 step), (2, aI64 least), (3, .hp 0 0), (6, .hp 1 0), (8, .hp 2 0), (9, .hs 4 0 seen_394.length 1), (36, sI64 f.V), (37, aI64 (f.V.length : Int)), (38, aI64 x_14)], [.own (api_Field.c f), .own [aI64 0, aI64 0, nS], .own [aI64 v7.1, aI64 v7.2.1, .hs 3 0 out_453.length 1], .own (out_453.flatMap (iC .i64)), .own (seen_394.flatMap bC)]⟩) hL461 ((Wk.gc [1, 2, 3, 6, 8, 9, 36, 37, 38, 178, 179, 180] [(0, true), (1, true), (2, true), (3, false), (4, false), (5, false)] rfl (pKt (pKt (pKt (pKo (iC .i64) (iC_pure _) out_12 (pKo bC bC_pure seen_394 (pKo (iC .i64) (iC_pure _) region_395 trivial))))))).to (by kernel_rfl)) ?_ ?_
         ·clear hr
          rintro m ⟨out_446, x_447⟩ hr
          show CQ _ _ _ _ _ ⟨_, _⟩
          refine .seq <| .r4 fine [1, 2, 3, 6, 8, 9, 36, 37, 38, 178, 179, 180] [(181, aB (decide (x_447 < (region_395.length : Int))))] <| .seq ?_
          refine .cd hr (fun hb456 hr => ?_) (fun hb456 hr => ?_)
          ·refine .skip <| .seq <| .block <| .seq ?_
           obtain ⟨hg457, hr⟩ := gd hr
           refine .r0 fine <| .p0 (v := .hp 5 (0 + x_447.toNat * 1)) (tr (ofP_guard hg457)) <| .p0 (v := aI64 (gt region_395 x_447)) (tr (ofP_some (flat_get (iC_len .i64) (inR_lt hg457) (by decide : 0 < 1) (by omega : 0 + x_447.toNat * 1 = x_447.toNat * 1 + 0) (by kernel_rfl)))) <| .mu 1 <| .done <| .nh [1, 2, 3, 6, 8, 9, 21, 36, 37, 38, 178, 179, 180] [.own (api_Field.c f), .own [aI64 0, aI64 0, nS], .own [aI64 v7.1, aI64 v7.2.1, .hs 3 0 out_446.length 1], .own (out_446.flatMap (iC .i64)), .own (seen_394.flatMap bC), .own (region_395.flatMap (iC .i64))] ?_
           obtain ⟨hg458, hg459, hr⟩ := gd2 hr
           refine .regionT fine callOf_nil <| .mu 6 <| .pure (v := .pp (f.V.flatMap (iC .i64)) ((gt region_395 x_447).toNat * 1)) (by kernel_rfl) (tr (ofP_guard hg458)) (by kernel_rfl) <| .pure (v := aI64 (gt f.V (gt region_395 x_447))) (by kernel_rfl) (tr (ofP_some (flat_get (iC_len .i64) (inR_lt hg458) (by decide : 0 < 1) (by omega : (gt region_395 x_447).toNat * 1 = (gt region_395 x_447).toNat * 1 + 0) (by kernel_rfl)))) (by kernel_rfl) <| .pure (v := .hp 3 (0 + (gt region_395 x_447).toNat * 1)) (by kernel_rfl) (tr (ofP_guard hg459)) (by kernel_rfl) <| .eff (v := .unk) (ws := [(3, .own ((out_446.set (gt region_395 x_447).toNat (gt f.V (gt region_395 x_447))).flatMap (iC .i64)))]) (by kernel_rfl) (tr (stO_t (and_t (flat_fits (n := 1) (iC_len .i64) (inR_lt hg459) (Nat.le_of_ble_eq_true rfl) (by omega : 0 + (gt region_395 x_447).toNat * 1 = (gt region_395 x_447).toNat * 1 + 0))) (congrArg Blk.own (flat_set (xs := [aI64 (gt f.V (gt region_395 x_447))]) (iC_len .i64) (inR_lt hg459) (Nat.le_of_ble_eq_true rfl) (by omega : 0 + (gt region_395 x_447).toNat * 1 = (gt region_395 x_447).toNat * 1 + 0) (by kernel_rfl))))) (by kernel_rfl) ?_
           refine .done ⟨by kernel_rfl, ?_⟩
           refine .pop <| .ru fine ?_
           exact loopF_back (out_446.set (gt region_395 x_447).toNat (gt f.V (gt region_395 x_447)), wrapF .i64 (x_447 + 1)) hr ((Wk.recell 2 2 (b := 3) (es := 1) (len := out_446.length) (cs := [aI64 v7.1, aI64 v7.2.1, .hs 3 0 out_446.length 1]) (out_446.set (gt region_395 x_447).toNat (gt f.V (gt region_395 x_447))).length (by kernel_rfl) (by kernel_rfl) (by simp)).trans ((Wk.gc [1, 2, 3, 6, 8, 9, 36, 37, 38, 178, 179, 180] [(0, true), (1, true), (2, true), (3, false), (4, false), (5, false)] rfl (pKt (pKt (pKt (pKo (iC .i64) (iC_pure _) (out_446.set (gt region_395 x_447).toNat (gt f.V (gt region_395 x_447))) (pKo bC bC_pure seen_394 (pKo (iC .i64) (iC_pure _) region_395 trivial))))))).to (by kernel_rfl)))
          ·refine .leave rfl ?_
           obtain rfl := oi hr
           exact ⟨rfl, ((Wk.gc [1, 2, 3, 6, 8, 9, 36, 37, 38] [(0, true), (1, true), (2, true), (3, false), (4, false)] rfl (pKt (pKt (pKt (pKo (iC .i64) (iC_pure _) out_446 (pKo bC bC_pure seen_394 trivial)))))).to (by kernel_rfl))⟩
         ·rintro x st' hq462
          clear hL461
          obtain ⟨rfl, hq462⟩ := hq462
          refine CQ_exit _ rfl <| .pop <| .wk hq462 <| .ru fine ?_
          exact loopF_back (out_453, seen_394, wrapF .i64 (x_14 + 1)) hr ((Wk.gc [1, 2, 3, 6, 8, 9, 36, 37, 38] [(0, true), (1, true), (2, true), (3, false), (4, false)] rfl (pKt (pKt (pKt (pKo (iC .i64) (iC_pure _) out_453 (pKo bC bC_pure seen_394 trivial)))))).to (by kernel_rfl))
        ·refine .skip <| .pop <| .ru fine ?_
         exact loopF_back (out_12, seen_394, wrapF .i64 (x_14 + 1)) hr ((Wk.gc [1, 2, 3, 6, 8, 9, 36, 37, 38] [(0, true), (1, true), (2, true), (3, false), (4, false)] rfl (pKt (pKt (pKt (pKo (iC .i64) (iC_pure _) out_12 (pKo bC bC_pure seen_394 trivial)))))).to (by kernel_rfl))
    ·refine .leave rfl ?_
     obtain rfl := oi hr
     exact ⟨rfl, ((Wk.gc [6, 8] [(1, true), (2, true), (3, false)] rfl (pKt (pKt (pKo (iC .i64) (iC_pure _) out_12 trivial)))).to (by kernel_rfl))⟩
   ·rintro x st' hq465
    clear hL464
    obtain ⟨rfl, hq465⟩ := hq465
    refine CQ_exit _ rfl <| .wk hq465 <| .seq <| .r5 fine [6] [(7, aI64 0)] [.own [aI64 v7.1, aI64 v7.2.1, .hs 2 0 out_238.length 1], .own [aI64 v7.1, aI64 v7.2.1, .hs 2 0 out_238.length 1], .own (out_238.flatMap (iC .i64))] <| .ret ?_
    obtain rfl := oi hr
    exact FinQ.ret (vs := [.agg [aI64 v7.1, aI64 v7.2.1, .hs 2 0 out_238.length 1], aI64 0]) (by kernel_rfl) (Sn.tup (SnL.cons (Sn.agg (SnL.cons (Sn.pure rfl) (SnL.cons (Sn.pure rfl) (SnL.cons (Sn.hs rfl (.inl rfl) (SnC.pure (ids_flat (iC_pure _) _)) (fun h => flat_nil0 h)) SnL.nil)))) (SnL.cons (Sn.pure rfl) SnL.nil)))

theorem fiduciallaw46_DepthFlips_4_ok (n : Nat) (a : api_Field) (b : api_Field) (p : Int) (p' : Int) (r : api_Field × Int) (hr : fiduciallaw46_DepthFlips_4 n a b p p' = some r) : FnOk Tryz.prog 33 [.agg (api_Field.c a), .agg (api_Field.c b), .pp [aU8 p, aU8 p'] 0] (.tup [.agg (api_Field.c r.1), aI64 r.2]) := by
 unfold fiduciallaw46_DepthFlips_4 at hr
 refine FnOk.bd fine Tryz.func33 [.cell 5 39, .tmp 6] ?_
 unfold Tryz.f33
 simp only [Option.getD_some]
 refine .seq <| .r5 fine [2] [(3, .hp 0 0), (5, .hp 2 0)] [.own (api_Field.c a), .own (api_Field.c b), .own [aI64 0, aI64 0, nS]] <| .seq ?_
 obtain ⟨v1, hc2, hr⟩ := bd hr
 refine .g1 fine (ok0 (depth_Speckles_ok n a (wrapF .i64 p) (wrapF .i64 p') v1 hc2)) <| .mu 7 <| .ca cf0 <| .mu 4 <| .done <| .nh [5, 6] [.own (api_Field.c a), .own (api_Field.c b), .own (api_Field.c v1.1)] <| .ret ?_
 obtain rfl := oi hr
 exact FinQ.ret (vs := [.agg (api_Field.c v1.1), aI64 v1.2]) (by kernel_rfl) (Sn.tup (SnL.cons (Sn.pure rfl) (SnL.cons (Sn.pure rfl) SnL.nil)))

theorem slices_Clone_int_int_w_ok (n : Nat) (s : List Int) (r : List Int) (hr : slices_Clone_int_int_w n s = some r) : FnMut 0 Tryz.prog 89 [sI64 s] [] (.hs 0 0 r.length 1) [.own (r.flatMap (iC .i64))] := by
 unfold slices_Clone_int_int_w at hr
 refine FnMut.bodyW fine Tryz.func89 (c := (Tryz.f89.body).getD .skip) rfl (us := [.hs 0 0 r.length 1]) (s := mkS 8 0 [(0, sI64 s)]) (by kernel_rfl) (rs := [.tmp 2]) rfl ?_
 unfold Tryz.f89
 simp only [Option.getD_some]
 refine .seq <| .r4 fine [0] [] <| .seq <| .seq ?_
 refine .nilcase (t := 0) (cs := s.flatMap (iC .i64)) (len := s.length) (by kernel_rfl) (fun hn7 => ?_) ?_
 ·obtain rfl : s = [] := List.length_eq_zero_iff.1 hn7
  have hx := gd hr; clear hr; obtain ⟨_, hr⟩ := hx
  have hx := gd hr; clear hr; obtain ⟨_, hr⟩ := hx
  refine .r4 fine [0] [(4, aB true)] <| .cT (by kernel_rfl) <| .seq <| .r3 fine 8 [(2, nS)] <| .ret ?_
  obtain rfl := oi hr
  exact FinMW.ret [nS] ((Wk.nil 0 1 (by kernel_rfl)).trans ((Wk.gc [0] [(0, false)] rfl (pKc trivial)).to (by kernel_rfl)))
 ·refine .r4 fine [0] [(4, aB false)] <| .cF (by kernel_rfl) <| .skip <| .seq ?_
  obtain ⟨hg5, hg6, hr⟩ := gd2 hr
  refine .r0 fine <| .mu 2 <| .e0 (v := .hs 1 0 s.length 1) (ws := [(0, .dead), (1, .own (s.flatMap (iC .i64)))]) (Eq.trans (b := appS (decide (((s.flatMap (iC .i64))).length = s.length * 1)) (s.flatMap (iC .i64)) s.length (fun z1 z2 => guardO (decide (0 + 0 * 1 ≤ (([] : List Int).flatMap (iC .i64)).length) && decide ((0 + z2) * 8 ≤ 140737488355328) && decide (0 + z2 ≤ 4611686018427387904)) (some (.eff (.hs 1 0 (0 + z2) 1) [(0, .dead), (1, .own (((([] : List Int).flatMap (iC .i64)).drop 0).take (0 * 1) ++ z1))])))) (by kernel_rfl) (appS_t (flat_lenB (iC_len _)) rfl (app_own (l := ([] : List Int)) (xs := s) (iC_len _) rfl rfl rfl hg5 hg6))) <| .mu 1 <| .done <| .nh [2] [.dead, .own (s.flatMap (iC .i64))] <| .ret ?_
  obtain rfl := oi hr
  exact FinMW.ret [.hs 1 0 s.length 1] ((Wk.gc [0] [(1, false)] rfl (pKo (iC .i64) (iC_pure _) s trivial)).to (by kernel_rfl))

theorem depth_Fill_ok (n : Nat) (f : api_Field) (longest : Int) (r : api_Field × Int) (hr : depth_Fill n f longest = some r) : FnOk Tryz.prog 35 [.agg (api_Field.c f), aI64 longest] (.tup [.agg (api_Field.c r.1), aI64 r.2]) := by
 unfold depth_Fill at hr
 refine FnOk.bd fine Tryz.func35 [.cell 4 39, .tmp 5] ?_
 unfold Tryz.f35
 simp only [Option.getD_some]
 refine .seq <| .r5 fine [1] [(2, .hp 0 0), (4, .hp 1 0)] [.own (api_Field.c f), .own [aI64 0, aI64 0, nS]] <| .seq <| .seq ?_
 obtain ⟨v1, hc2, hr⟩ := bd hr
 refine .g1 fine (ok0 (depth_Check_ok n f v1 hc2)) <| .mu 1 <| .ca cf0 <| .mu 1 <| .done <| .nh [1, 2, 4, 15] [.own (api_Field.c f), .own [aI64 0, aI64 0, nS]] ?_
 refine .cd hr (fun hb4 hr => ?_) (fun hb4 hr => ?_)
 ·refine .seq <| .r4 fine [4] [(5, aI64 1)] <| .ret ?_
  obtain rfl := oi hr
  exact FinQ.ret (vs := [.agg [aI64 0, aI64 0, nS], aI64 1]) (by kernel_rfl) (Sn.tup (SnL.cons (Sn.agg (SnL.cons (Sn.pure rfl) (SnL.cons (Sn.pure rfl) (SnL.cons Sn.nilsl SnL.nil)))) (SnL.cons (Sn.pure rfl) SnL.nil)))
 ·refine .skip <| .seq <| .seq <| .r4 fine [1, 2, 4] [(18, aB (decide (longest < 0)))] ?_
  refine .cd hr (fun hb6 hr => ?_) (fun hb6 hr => ?_)
  ·refine .seq <| .r4 fine [4] [(5, aI64 2)] <| .ret ?_
   obtain rfl := oi hr
   exact FinQ.ret (vs := [.agg [aI64 0, aI64 0, nS], aI64 2]) (by kernel_rfl) (Sn.tup (SnL.cons (Sn.agg (SnL.cons (Sn.pure rfl) (SnL.cons (Sn.pure rfl) (SnL.cons Sn.nilsl SnL.nil)))) (SnL.cons (Sn.pure rfl) SnL.nil)))
  ·refine .skip <| .seq ?_
   obtain ⟨v7, hc8, hr⟩ := bd hr
   refine .g1 fine (callOk_mutU (args := [sI64 f.V]) 0 1 [] [false] (slices_Clone_int_int_w_ok n f.V v7 hc8) trivial (by exact ⟨ids_flat (iC_pure _) _, trivial⟩) rfl rfl (by kernel_rfl) (by kernel_rfl)) <| .mu 2 <| .ca cf0 <| .mu 2 <| .done <| .nh [1, 2, 4] [.own [aI64 f.Width, aI64 f.Height, .hs 2 0 v7.length 1], .own [aI64 0, aI64 0, nS], .own (v7.flatMap (iC .i64))] <| .seq <| .seq <| .r4 fine [1, 2, 4] [(25, aI64 f.Height), (26, aI64 0)] <| .block ?_
   replace hr := bd hr; obtain ⟨f_76, hL144, hr⟩ := hr
   refine .loopO (σ := fun z0 => match z0 with | (f_9, x_10) => ⟨mkS 81 0 [(1, aI64 longest), (2, .hp 0 0), (4, .hp 2 0), (25, aI64 f.Height), (26, aI64 x_10)], [.own [aI64 f.Width, aI64 f.Height, .hs 1 0 f_9.length 1], .own (f_9.flatMap (iC .i64)), .own [aI64 0, aI64 0, nS]]⟩) (Q := fun x st' => x = .exit 0 ∧ Wk 0 st' ⟨mkS 81 0 [(2, .hp 0 0), (4, .hp 2 0)], [.own [aI64 f.Width, aI64 f.Height, .hs 1 0 f_76.length 1], .own (f_76.flatMap (iC .i64)), .own [aI64 0, aI64 0, nS]]⟩) hL144 ((Wk.gc [1, 2, 4, 25, 26] [(0, true), (2, false), (1, true)] rfl (pKt (pKo (iC .i64) (iC_pure _) v7 trivial))).to (by kernel_rfl)) ?_ ?_
   ·clear hr
    rintro m ⟨f_9, x_10⟩ hr
    show CQ _ _ _ _ _ ⟨_, _⟩
    refine .seq <| .r4 fine [1, 2, 4, 25, 26] [(27, aB (decide (x_10 < f.Height)))] <| .seq ?_
    refine .cd hr (fun hb79 hr => ?_) (fun hb79 hr => ?_)
    ·refine .skip <| .seq <| .block <| .seq <| .r4 fine [1, 2, 4, 25, 26] [(6, aI64 x_10)] <| .scope <| .seq ?_
     obtain ⟨hg80, hr⟩ := gd hr
     refine .r0 fine <| .mu 11 <| .p0 (v := .hs 1 (0 + (wrapF .i64 (x_10 * f.Width)).toNat * 1) ((wrapF .i64 ((wrapF .i64 (x_10 + 1)) * f.Width)).toNat - (wrapF .i64 (x_10 * f.Width)).toNat) 1) (Eq.trans (b := slH (inS (wrapF .i64 (x_10 * f.Width)) (wrapF .i64 ((wrapF .i64 (x_10 + 1)) * f.Width)) f_9.length) true ((wrapF .i64 (x_10 * f.Width)).toNat) ((wrapF .i64 ((wrapF .i64 (x_10 + 1)) * f.Width)).toNat) (fun z1 z2 => .hs 1 (0 + z1 * 1) (z2 - z1) 1)) (by kernel_rfl) (slH_t hg80 (by kernel_rfl))) <| .mu 1 <| .done <| .nh [1, 2, 4, 7, 25, 26] [.own [aI64 f.Width, aI64 f.Height, .hs 1 0 f_9.length 1], .own (f_9.flatMap (iC .i64)), .own [aI64 0, aI64 0, nS]] <| .seq <| .r4 fine [1, 2, 4, 7, 25, 26] [(8, aI64 (-1))] <| .seq <| .label <| .seq <| .r4 fine [1, 2, 4, 7, 8, 25, 26] [(41, .hs 1 (0 + (wrapF .i64 (x_10 * f.Width)).toNat * 1) ((wrapF .i64 ((wrapF .i64 (x_10 + 1)) * f.Width)).toNat - (wrapF .i64 (x_10 * f.Width)).toNat) 1), (42, aI64 (((wrapF .i64 ((wrapF .i64 (x_10 + 1)) * f.Width)).toNat - (wrapF .i64 (x_10 * f.Width)).toNat : Nat) : Int)), (43, aI64 0)] <| .block ?_
     replace hr := bd hr; obtain ⟨f_111, hL141, hr⟩ := hr
     refine .loopO (σ := fun z0 => match z0 with | (f_81, last_82, x_83) => ⟨mkS 81 0 [(1, aI64 longest), (2, .hp 0 0), (4, .hp 2 0), (7, .hs 1 (0 + (wrapF .i64 (x_10 * f.Width)).toNat * 1) ((wrapF .i64 ((wrapF .i64 (x_10 + 1)) * f.Width)).toNat - (wrapF .i64 (x_10 * f.Width)).toNat) 1), (8, aI64 last_82), (25, aI64 f.Height), (26, aI64 x_10), (41, .hs 1 (0 + (wrapF .i64 (x_10 * f.Width)).toNat * 1) ((wrapF .i64 ((wrapF .i64 (x_10 + 1)) * f.Width)).toNat - (wrapF .i64 (x_10 * f.Width)).toNat) 1), (42, aI64 (((wrapF .i64 ((wrapF .i64 (x_10 + 1)) * f.Width)).toNat - (wrapF .i64 (x_10 * f.Width)).toNat : Nat) : Int)), (43, aI64 x_83)], [.own [aI64 f.Width, aI64 f.Height, .hs 1 0 f_81.length 1], .own (f_81.flatMap (iC .i64)), .own [aI64 0, aI64 0, nS]]⟩) (Q := fun x st' => x = .exit 2 ∧ Wk 0 st' ⟨mkS 81 0 [(1, aI64 longest), (2, .hp 0 0), (4, .hp 2 0), (25, aI64 f.Height), (26, aI64 x_10)], [.own [aI64 f.Width, aI64 f.Height, .hs 1 0 f_111.length 1], .own (f_111.flatMap (iC .i64)), .own [aI64 0, aI64 0, nS]]⟩) hL141 ((Wk.gc [1, 2, 4, 7, 8, 25, 26, 41, 42, 43] [(0, true), (1, false), (2, true)] rfl (pKt (pKo (iC .i64) (iC_pure _) f_9 trivial))).to (by kernel_rfl)) ?_ ?_
     ·clear hr
      rintro m ⟨f_81, last_82, x_83⟩ hr
      show CQ _ _ _ _ _ ⟨_, _⟩
      refine .seq <| .r4 fine [1, 2, 4, 7, 8, 25, 26, 41, 42, 43] [(44, aB (decide (x_83 < (((wrapF .i64 ((wrapF .i64 (x_10 + 1)) * f.Width)).toNat - (wrapF .i64 (x_10 * f.Width)).toNat : Nat) : Int))))] <| .seq ?_
      refine .cd hr (fun hb114 hr => ?_) (fun hb114 hr => ?_)
      ·refine .skip <| .seq <| .block <| .seq ?_
       obtain ⟨hg115, hg116, hr⟩ := gd2 hr
       refine .r0 fine <| .mu 1 <| .p0 (v := .hp 1 (0 + (wrapF .i64 (x_10 * f.Width)).toNat * 1 + x_83.toNat * 1)) (tr (ofP_guard hg115)) <| .p0 (v := aI64 (gt f_81 (((wrapF .i64 (x_10 * f.Width)).toNat + x_83.toNat : Nat) : Int))) (tr (ofP_some (flat_get (iC_len .i64) (inR_lt hg116) (by decide : 0 < 1) (by omega : 0 + (wrapF .i64 (x_10 * f.Width)).toNat * 1 + x_83.toNat * 1 = (((wrapF .i64 (x_10 * f.Width)).toNat + x_83.toNat : Nat) : Int).toNat * 1 + 0) (by kernel_rfl)))) <| .mu 2 <| .done <| .nh [1, 2, 4, 7, 8, 9, 10, 25, 26, 41, 42, 43] [.own [aI64 f.Width, aI64 f.Height, .hs 1 0 f_81.length 1], .own (f_81.flatMap (iC .i64)), .own [aI64 0, aI64 0, nS]] <| .seq <| .seq <| .r4 fine [1, 2, 4, 7, 8, 9, 10, 25, 26, 41, 42, 43] [(49, aB (decide ((gt f_81 (((wrapF .i64 (x_10 * f.Width)).toNat + x_83.toNat : Nat) : Int)) < 0)))] ?_
       refine .cd hr (fun hb118 hr => ?_) (fun hb118 hr => ?_)
       ·refine .exit rfl <| .ru fine ?_
        exact loopF_back (f_81, last_82, wrapF .i64 (x_83 + 1)) hr ((Wk.gc [1, 2, 4, 7, 8, 25, 26, 41, 42, 43] [(0, true), (1, false), (2, true)] rfl (pKt (pKo (iC .i64) (iC_pure _) f_81 trivial))).to (by kernel_rfl))
       ·refine .skip <| .seq <| .seq <| .r4 fine [1, 2, 4, 7, 8, 9, 10, 25, 26, 41, 42, 43] [(11, aI64 (wrapF .i64 ((wrapF .i64 (x_83 - last_82)) - 1)))] <| .seq ?_
        rcases Bool.eq_false_or_eq_true (decide (last_82 ≥ 0)) with hb119 | hb119
        ·replace hr := cd_t hb119 hr
         refine .r0 fine <| .mu 1 <| .p0 (v := aB true) (eB hb119) <| .mu 5 <| .done <| .nh [1, 2, 4, 7, 8, 9, 10, 25, 26, 41, 42, 43, 60] [.own [aI64 f.Width, aI64 f.Height, .hs 1 0 f_81.length 1], .own (f_81.flatMap (iC .i64)), .own [aI64 0, aI64 0, nS]] ?_
         refine .cd hr (fun hb120 hr => ?_) (fun hb120 hr => ?_)
         ·refine .seq <| .r4 fine [1, 2, 4, 7, 8, 9, 10, 25, 26, 41, 42, 43] [(12, aI64 (wrapF .i64 (last_82 + 1)))] <| .block ?_
          replace hr := bd hr; obtain ⟨f_129, hL138, hr⟩ := hr
          refine .loopO (σ := fun z0 => match z0 with | (f_121, k_122) => ⟨mkS 81 0 [(1, aI64 longest), (2, .hp 0 0), (4, .hp 2 0), (7, .hs 1 (0 + (wrapF .i64 (x_10 * f.Width)).toNat * 1) ((wrapF .i64 ((wrapF .i64 (x_10 + 1)) * f.Width)).toNat - (wrapF .i64 (x_10 * f.Width)).toNat) 1), (8, aI64 last_82), (9, aI64 x_83), (10, aI64 (gt f_81 (((wrapF .i64 (x_10 * f.Width)).toNat + x_83.toNat : Nat) : Int))), (12, aI64 k_122), (25, aI64 f.Height), (26, aI64 x_10), (41, .hs 1 (0 + (wrapF .i64 (x_10 * f.Width)).toNat * 1) ((wrapF .i64 ((wrapF .i64 (x_10 + 1)) * f.Width)).toNat - (wrapF .i64 (x_10 * f.Width)).toNat) 1), (42, aI64 (((wrapF .i64 ((wrapF .i64 (x_10 + 1)) * f.Width)).toNat - (wrapF .i64 (x_10 * f.Width)).toNat : Nat) : Int)), (43, aI64 x_83)], [.own [aI64 f.Width, aI64 f.Height, .hs 1 0 f_121.length 1], .own (f_121.flatMap (iC .i64)), .own [aI64 0, aI64 0, nS]]⟩) (Q := fun x st' => x = .exit 4 ∧ Wk 0 st' ⟨mkS 81 0 [(1, aI64 longest), (2, .hp 0 0), (4, .hp 2 0), (7, .hs 1 (0 + (wrapF .i64 (x_10 * f.Width)).toNat * 1) ((wrapF .i64 ((wrapF .i64 (x_10 + 1)) * f.Width)).toNat - (wrapF .i64 (x_10 * f.Width)).toNat) 1), (9, aI64 x_83), (25, aI64 f.Height), (26, aI64 x_10), (41, .hs 1 (0 + (wrapF .i64 (x_10 * f.Width)).toNat * 1) ((wrapF .i64 ((wrapF .i64 (x_10 + 1)) * f.Width)).toNat - (wrapF .i64 (x_10 * f.Width)).toNat) 1), (42, aI64 (((wrapF .i64 ((wrapF .i64 (x_10 + 1)) * f.Width)).toNat - (wrapF .i64 (x_10 * f.Width)).toNat : Nat) : Int)), (43, aI64 x_83)], [.own [aI64 f.Width, aI64 f.Height, .hs 1 0 f_129.length 1], .own (f_129.flatMap (iC .i64)), .own [aI64 0, aI64 0, nS]]⟩) hL138 ((Wk.gc [1, 2, 4, 7, 8, 9, 10, 12, 25, 26, 41, 42, 43] [(0, true), (1, false), (2, true)] rfl (pKt (pKo (iC .i64) (iC_pure _) f_81 trivial))).to (by kernel_rfl)) ?_ ?_
          ·clear hr
           rintro m ⟨f_121, k_122⟩ hr
           show CQ _ _ _ _ _ ⟨_, _⟩
           refine .seq <| .seq <| .r4 fine [1, 2, 4, 7, 8, 9, 10, 12, 25, 26, 41, 42, 43] [(65, aB (decide (k_122 < x_83)))] ?_
           refine .cd hr (fun hb132 hr => ?_) (fun hb132 hr => ?_)
           ·refine .skip <| .seq <| .block ?_
            obtain ⟨hg133, hg134, hg135, hr⟩ := gd3 hr
            obtain ⟨hg136, hr⟩ := gd hr
            refine .r0 fine <| .mu 5 <| .p0 (v := .hp 1 (0 + (wrapF .i64 (x_10 * f.Width)).toNat * 1 + last_82.toNat * 1)) (tr (ofP_guard hg133)) <| .p0 (v := aI64 (gt f_121 (((wrapF .i64 (x_10 * f.Width)).toNat + last_82.toNat : Nat) : Int))) (tr (ofP_some (flat_get (iC_len .i64) (inR_lt hg134) (by decide : 0 < 1) (by omega : 0 + (wrapF .i64 (x_10 * f.Width)).toNat * 1 + last_82.toNat * 1 = (((wrapF .i64 (x_10 * f.Width)).toNat + last_82.toNat : Nat) : Int).toNat * 1 + 0) (by kernel_rfl)))) <| .mu 1 <| .p0 (v := .hp 1 (0 + (wrapF .i64 (x_10 * f.Width)).toNat * 1 + k_122.toNat * 1)) (tr (ofP_guard hg135)) <| .e0 (v := .unk) (ws := [(1, .own ((f_121.set (((wrapF .i64 (x_10 * f.Width)).toNat + k_122.toNat : Nat) : Int).toNat (mn (gt f_81 (((wrapF .i64 (x_10 * f.Width)).toNat + x_83.toNat : Nat) : Int)) (gt f_121 (((wrapF .i64 (x_10 * f.Width)).toNat + last_82.toNat : Nat) : Int)))).flatMap (iC .i64)))]) (tr (stO_t (and_t (flat_fits (n := 1) (iC_len .i64) (inR_lt hg136) (Nat.le_of_ble_eq_true rfl) (by omega : 0 + (wrapF .i64 (x_10 * f.Width)).toNat * 1 + k_122.toNat * 1 = (((wrapF .i64 (x_10 * f.Width)).toNat + k_122.toNat : Nat) : Int).toNat * 1 + 0))) (congrArg Blk.own (flat_set (xs := [aI64 (mn (gt f_81 (((wrapF .i64 (x_10 * f.Width)).toNat + x_83.toNat : Nat) : Int)) (gt f_121 (((wrapF .i64 (x_10 * f.Width)).toNat + last_82.toNat : Nat) : Int)))]) (iC_len .i64) (inR_lt hg136) (Nat.le_of_ble_eq_true rfl) (by omega : 0 + (wrapF .i64 (x_10 * f.Width)).toNat * 1 + k_122.toNat * 1 = (((wrapF .i64 (x_10 * f.Width)).toNat + k_122.toNat : Nat) : Int).toNat * 1 + 0) (by kernel_rfl))))) <| .done <| .pop <| .ru fine ?_
            exact loopF_back (f_121.set (((wrapF .i64 (x_10 * f.Width)).toNat + k_122.toNat : Nat) : Int).toNat (mn (gt f_81 (((wrapF .i64 (x_10 * f.Width)).toNat + x_83.toNat : Nat) : Int)) (gt f_121 (((wrapF .i64 (x_10 * f.Width)).toNat + last_82.toNat : Nat) : Int))), wrapF .i64 (k_122 + 1)) hr ((Wk.recell 0 2 (b := 1) (es := 1) (len := f_121.length) (cs := [aI64 f.Width, aI64 f.Height, .hs 1 0 f_121.length 1]) (f_121.set (((wrapF .i64 (x_10 * f.Width)).toNat + k_122.toNat : Nat) : Int).toNat (mn (gt f_81 (((wrapF .i64 (x_10 * f.Width)).toNat + x_83.toNat : Nat) : Int)) (gt f_121 (((wrapF .i64 (x_10 * f.Width)).toNat + last_82.toNat : Nat) : Int)))).length (by kernel_rfl) (by kernel_rfl) (by simp)).trans ((Wk.gc [1, 2, 4, 7, 8, 9, 10, 12, 25, 26, 41, 42, 43] [(0, true), (1, false), (2, true)] rfl (pKt (pKo (iC .i64) (iC_pure _) (f_121.set (((wrapF .i64 (x_10 * f.Width)).toNat + k_122.toNat : Nat) : Int).toNat (mn (gt f_81 (((wrapF .i64 (x_10 * f.Width)).toNat + x_83.toNat : Nat) : Int)) (gt f_121 (((wrapF .i64 (x_10 * f.Width)).toNat + last_82.toNat : Nat) : Int)))) trivial))).to (by kernel_rfl)))
           ·refine .leave rfl ?_
            obtain rfl := oi hr
            exact ⟨rfl, ((Wk.gc [1, 2, 4, 7, 9, 25, 26, 41, 42, 43] [(0, true), (1, false), (2, true)] rfl (pKt (pKo (iC .i64) (iC_pure _) f_121 trivial))).to (by kernel_rfl))⟩
          ·rintro x st' hq139
           clear hL138
           obtain ⟨rfl, hq139⟩ := hq139
           refine CQ_exit _ rfl <| .wk hq139 <| .ru fine <| .pop <| .ru fine ?_
           exact loopF_back (f_129, x_83, wrapF .i64 (x_83 + 1)) hr ((Wk.gc [1, 2, 4, 7, 8, 25, 26, 41, 42, 43] [(0, true), (1, false), (2, true)] rfl (pKt (pKo (iC .i64) (iC_pure _) f_129 trivial))).to (by kernel_rfl))
         ·refine .skip <| .ru fine <| .pop <| .ru fine ?_
          exact loopF_back (f_81, x_83, wrapF .i64 (x_83 + 1)) hr ((Wk.gc [1, 2, 4, 7, 8, 25, 26, 41, 42, 43] [(0, true), (1, false), (2, true)] rfl (pKt (pKo (iC .i64) (iC_pure _) f_81 trivial))).to (by kernel_rfl))
        ·replace hr := cd_f hb119 hr
         refine .r0 fine <| .mu 1 <| .p0 (v := aB false) (eB hb119) <| .mu 5 <| .done <| .nh [1, 2, 4, 7, 8, 9, 10, 25, 26, 41, 42, 43, 60] [.own [aI64 f.Width, aI64 f.Height, .hs 1 0 f_81.length 1], .own (f_81.flatMap (iC .i64)), .own [aI64 0, aI64 0, nS]] <| .cF (by kernel_rfl) <| .skip <| .ru fine <| .pop <| .ru fine ?_
         exact loopF_back (f_81, x_83, wrapF .i64 (x_83 + 1)) hr ((Wk.gc [1, 2, 4, 7, 8, 25, 26, 41, 42, 43] [(0, true), (1, false), (2, true)] rfl (pKt (pKo (iC .i64) (iC_pure _) f_81 trivial))).to (by kernel_rfl))
      ·refine .leave rfl ?_
       obtain rfl := oi hr
       exact ⟨rfl, ((Wk.gc [1, 2, 4, 25, 26] [(0, true), (1, false), (2, true)] rfl (pKt (pKo (iC .i64) (iC_pure _) f_81 trivial))).to (by kernel_rfl))⟩
     ·rintro x st' hq142
      clear hL141
      obtain ⟨rfl, hq142⟩ := hq142
      refine CQ_exit _ rfl <| .pop <| .wk hq142 <| .ru fine ?_
      exact loopF_back (f_111, wrapF .i64 (x_10 + 1)) hr ((Wk.gc [1, 2, 4, 25, 26] [(0, true), (1, false), (2, true)] rfl (pKt (pKo (iC .i64) (iC_pure _) f_111 trivial))).to (by kernel_rfl))
    ·refine .leave rfl ?_
     obtain rfl := oi hr
     exact ⟨rfl, ((Wk.gc [2, 4] [(0, true), (1, false), (2, true)] rfl (pKt (pKo (iC .i64) (iC_pure _) f_9 trivial))).to (by kernel_rfl))⟩
   ·rintro x st' hq145
    clear hL144
    obtain ⟨rfl, hq145⟩ := hq145
    refine CQ_exit _ rfl <| .wk hq145 <| .seq <| .r5 fine [4] [(5, aI64 0)] [.own [aI64 f.Width, aI64 f.Height, .hs 1 0 f_76.length 1], .own (f_76.flatMap (iC .i64)), .own [aI64 f.Width, aI64 f.Height, .hs 1 0 f_76.length 1]] <| .ret ?_
    obtain rfl := oi hr
    exact FinQ.ret (vs := [.agg [aI64 f.Width, aI64 f.Height, .hs 1 0 f_76.length 1], aI64 0]) (by kernel_rfl) (Sn.tup (SnL.cons (Sn.agg (SnL.cons (Sn.pure rfl) (SnL.cons (Sn.pure rfl) (SnL.cons (Sn.hs rfl (.inl rfl) (SnC.pure (ids_flat (iC_pure _) _)) (fun h => flat_nil0 h)) SnL.nil)))) (SnL.cons (Sn.pure rfl) SnL.nil)))

theorem fiduciallaw46_DepthFlips_5_ok (n : Nat) (a : api_Field) (b : api_Field) (p : Int) (p' : Int) (r : api_Field × Int) (hr : fiduciallaw46_DepthFlips_5 n a b p p' = some r) : FnOk Tryz.prog 34 [.agg (api_Field.c a), .agg (api_Field.c b), .pp [aU8 p, aU8 p'] 0] (.tup [.agg (api_Field.c r.1), aI64 r.2]) := by
 unfold fiduciallaw46_DepthFlips_5 at hr
 refine FnOk.bd fine Tryz.func34 [.cell 5 39, .tmp 6] ?_
 unfold Tryz.f34
 simp only [Option.getD_some]
 refine .seq <| .r5 fine [2] [(3, .hp 0 0), (5, .hp 2 0)] [.own (api_Field.c a), .own (api_Field.c b), .own [aI64 0, aI64 0, nS]] <| .seq ?_
 obtain ⟨v1, hc2, hr⟩ := bd hr
 refine .g1 fine (ok0 (depth_Fill_ok n a (wrapF .i64 p) v1 hc2)) <| .mu 4 <| .ca cf0 <| .mu 4 <| .done <| .nh [5, 6] [.own (api_Field.c a), .own (api_Field.c b), .own (api_Field.c v1.1)] <| .ret ?_
 obtain rfl := oi hr
 exact FinQ.ret (vs := [.agg (api_Field.c v1.1), aI64 v1.2]) (by kernel_rfl) (Sn.tup (SnL.cons (Sn.pure rfl) (SnL.cons (Sn.pure rfl) SnL.nil)))

theorem slices_Sort_int_int_w_ok (n : Nat) (x' : List Int) (r : List Int) (hr : slices_Sort_int_int_w n x' = some r) : FnMut 1 Tryz.prog 90 [.hs 0 0 x'.length 1] [.own (x'.flatMap (iC .i64))] (.tup []) [.own (r.flatMap (iC .i64))] := by
 unfold slices_Sort_int_int_w at hr
 obtain ⟨h1, hr⟩ := gd hr
 obtain rfl := oi hr
 exact Go.Proofs.YtkhmlbchphhokaaGreat.sort_fn h1

theorem depth_Fuse_ok (n : Nat) (l : List api_Field) (r : api_Field × api_Field × Int) (hr : depth_Fuse n l = some r) : FnOk Tryz.prog 37 [slT api_Field.c l] (.tup [.agg (api_Field.c r.1), .agg (api_Field.c r.2.1), aI64 r.2.2]) := by
 unfold depth_Fuse at hr
 refine FnOk.bd fine Tryz.func37 [.cell 2 39, .cell 3 39, .tmp 4] ?_
 unfold Tryz.f37
 simp only [Option.getD_some]
 refine .seq <| .r5 fine [0] [(2, .hp 0 0), (3, .hp 1 0)] [.own [aI64 0, aI64 0, nS], .own [aI64 0, aI64 0, nS]] <| .seq <| .seq <| .r4 fine [0, 2, 3] [(13, slT api_Field.c l), (14, aI64 (l.length : Int)), (15, aI64 0)] <| .block ?_
 replace hr := bd hr; obtain ⟨o32, hL33, hr⟩ := hr
 refine .loopO (σ := fun z0 => match z0 with | x_18 => ⟨mkS 110 0 [(0, slT api_Field.c l), (2, .hp 0 0), (3, .hp 1 0), (13, slT api_Field.c l), (14, aI64 (l.length : Int)), (15, aI64 x_18)], [.own [aI64 0, aI64 0, nS], .own [aI64 0, aI64 0, nS]]⟩) (Q := fun x st' => match (generalizing := false) o32 with | .inl _ => x = .exit 0 ∧ Wk 0 st' ⟨mkS 110 0 [(0, slT api_Field.c l), (2, .hp 0 0), (3, .hp 1 0)], [.own [aI64 0, aI64 0, nS], .own [aI64 0, aI64 0, nS]]⟩ | .inr (r0) => x = .ret ∧ FinQ Tryz.prog [.cell 2 39, .cell 3 39, .tmp 4] (.tup [.agg (api_Field.c r0.1), .agg (api_Field.c r0.2.1), aI64 r0.2.2]) .ret st') hL33 ((Wk.gc [0, 2, 3, 13, 14, 15] [(0, true), (1, true)] rfl trivial).to (by kernel_rfl)) ?_ ?_
 ·clear hr
  rintro m x_18 hr
  show CQ _ _ _ _ _ ⟨_, _⟩
  refine .seq <| .r4 fine [0, 2, 3, 13, 14, 15] [(16, aB (decide (x_18 < (l.length : Int))))] <| .seq ?_
  refine .cd hr (fun hb27 hr => ?_) (fun hb27 hr => ?_)
  ·refine .skip <| .seq <| .block <| .seq ?_
   obtain ⟨hg28, hr⟩ := gd hr
   refine .r0 fine <| .p0 (v := .pp (l.flatMap api_Field.c) (x_18.toNat * 3)) (tr (ofP_guard hg28)) <| .p0 (v := .agg (api_Field.c (gt l x_18))) (Eq.trans (b := ORes.ofP (guardV (decide (3 ≤ ((l.flatMap api_Field.c).drop (x_18.toNat * 3)).length)) (.agg (((l.flatMap api_Field.c).drop (x_18.toNat * 3)).take 3)))) (by kernel_rfl) (flat_load api_Field.len (inR_lt hg28) (by decide) (by omega : x_18.toNat * 3 = x_18.toNat * 3 + 0) (by kernel_rfl))) <| .mu 2 <| .done <| .nh [0, 2, 3, 6, 13, 14, 15] [.own [aI64 0, aI64 0, nS], .own [aI64 0, aI64 0, nS], .own (api_Field.c (gt l x_18))] <| .seq ?_
   obtain ⟨v29, hc30, hr⟩ := bd hr
   refine .g1 fine (ok0 (depth_Check_ok n (gt l x_18) v29 hc30)) <| .mu 1 <| .ca cf0 <| .mu 1 <| .done <| .nh [0, 2, 3, 13, 14, 15, 21] [.own [aI64 0, aI64 0, nS], .own [aI64 0, aI64 0, nS], .own (api_Field.c (gt l x_18))] ?_
   refine .cd hr (fun hb31 hr => ?_) (fun hb31 hr => ?_)
   ·refine .seq <| .r4 fine [2, 3] [(4, aI64 1)] <| .ret ?_
    obtain rfl := oi hr
    exact ⟨rfl, FinQ.ret (vs := [.agg [aI64 0, aI64 0, nS], .agg [aI64 0, aI64 0, nS], aI64 1]) (by kernel_rfl) (Sn.tup (SnL.cons (Sn.agg (SnL.cons (Sn.pure rfl) (SnL.cons (Sn.pure rfl) (SnL.cons Sn.nilsl SnL.nil)))) (SnL.cons (Sn.agg (SnL.cons (Sn.pure rfl) (SnL.cons (Sn.pure rfl) (SnL.cons Sn.nilsl SnL.nil)))) (SnL.cons (Sn.pure rfl) SnL.nil))))⟩
   ·refine .skip <| .pop <| .ru fine ?_
    exact loopF_back (wrapF .i64 (x_18 + 1)) hr ((Wk.gc [0, 2, 3, 13, 14, 15] [(0, true), (1, true)] rfl trivial).to (by kernel_rfl))
  ·refine .leave rfl ?_
   obtain rfl := oi hr
   exact ⟨rfl, ((Wk.gc [0, 2, 3] [(0, true), (1, true)] rfl trivial).to (by kernel_rfl))⟩
 ·rcases o32 with ⟨⟩ | r0
  ·rintro x st' hq34
   clear hL33
   obtain ⟨rfl, hq34⟩ := hq34
   refine CQ_exit _ rfl <| .wk hq34 <| .seq <| .seq ?_
   rcases Bool.eq_false_or_eq_true (decide ((l.length : Int) < 1)) with hb35 | hb35
   ·replace hr := cd_t hb35 hr
    refine .r0 fine <| .mu 2 <| .p0 (v := aB true) (eB hb35) <| .mu 5 <| .done <| .nh [0, 2, 3, 32] [.own [aI64 0, aI64 0, nS], .own [aI64 0, aI64 0, nS]] <| .cT (by kernel_rfl) <| .seq <| .r4 fine [2, 3] [(4, aI64 3)] <| .ret ?_
    obtain rfl := oi hr
    exact FinQ.ret (vs := [.agg [aI64 0, aI64 0, nS], .agg [aI64 0, aI64 0, nS], aI64 3]) (by kernel_rfl) (Sn.tup (SnL.cons (Sn.agg (SnL.cons (Sn.pure rfl) (SnL.cons (Sn.pure rfl) (SnL.cons Sn.nilsl SnL.nil)))) (SnL.cons (Sn.agg (SnL.cons (Sn.pure rfl) (SnL.cons (Sn.pure rfl) (SnL.cons Sn.nilsl SnL.nil)))) (SnL.cons (Sn.pure rfl) SnL.nil))))
   ·replace hr := cd_f hb35 hr
    refine .r0 fine <| .mu 2 <| .p0 (v := aB false) (eB hb35) <| .mu 5 <| .done <| .nh [0, 2, 3, 32] [.own [aI64 0, aI64 0, nS], .own [aI64 0, aI64 0, nS]] ?_
    refine .cd hr (fun hb37 hr => ?_) (fun hb37 hr => ?_)
    ·refine .seq <| .r4 fine [2, 3] [(4, aI64 3)] <| .ret ?_
     obtain rfl := oi hr
     exact FinQ.ret (vs := [.agg [aI64 0, aI64 0, nS], .agg [aI64 0, aI64 0, nS], aI64 3]) (by kernel_rfl) (Sn.tup (SnL.cons (Sn.agg (SnL.cons (Sn.pure rfl) (SnL.cons (Sn.pure rfl) (SnL.cons Sn.nilsl SnL.nil)))) (SnL.cons (Sn.agg (SnL.cons (Sn.pure rfl) (SnL.cons (Sn.pure rfl) (SnL.cons Sn.nilsl SnL.nil)))) (SnL.cons (Sn.pure rfl) SnL.nil))))
    ·refine .skip <| .seq <| .seq <| .r4 fine [0, 2, 3] [(35, slT api_Field.c l), (36, aI64 (l.length : Int)), (37, aI64 0)] <| .block ?_
     replace hr := bd hr; obtain ⟨o73, hL74, hr⟩ := hr
     refine .loopO (σ := fun z0 => match z0 with | x_57 => ⟨mkS 110 0 [(0, slT api_Field.c l), (2, .hp 0 0), (3, .hp 1 0), (35, slT api_Field.c l), (36, aI64 (l.length : Int)), (37, aI64 x_57)], [.own [aI64 0, aI64 0, nS], .own [aI64 0, aI64 0, nS]]⟩) (Q := fun x st' => match (generalizing := false) o73 with | .inl _ => x = .exit 2 ∧ Wk 0 st' ⟨mkS 110 0 [(0, slT api_Field.c l), (2, .hp 0 0), (3, .hp 1 0)], [.own [aI64 0, aI64 0, nS], .own [aI64 0, aI64 0, nS]]⟩ | .inr (r0) => x = .ret ∧ FinQ Tryz.prog [.cell 2 39, .cell 3 39, .tmp 4] (.tup [.agg (api_Field.c r0.1), .agg (api_Field.c r0.2.1), aI64 r0.2.2]) .ret st') hL74 ((Wk.gc [0, 2, 3, 35, 36, 37] [(0, true), (1, true)] rfl trivial).to (by kernel_rfl)) ?_ ?_
     ·clear hr
      rintro m x_57 hr
      show CQ _ _ _ _ _ ⟨_, _⟩
      refine .seq <| .r4 fine [0, 2, 3, 35, 36, 37] [(38, aB (decide (x_57 < (l.length : Int))))] <| .seq ?_
      refine .cd hr (fun hb67 hr => ?_) (fun hb67 hr => ?_)
      ·refine .skip <| .seq <| .block <| .seq ?_
       obtain ⟨hg68, hr⟩ := gd hr
       refine .r0 fine <| .p0 (v := .pp (l.flatMap api_Field.c) (x_57.toNat * 3)) (tr (ofP_guard hg68)) <| .p0 (v := .agg (api_Field.c (gt l x_57))) (Eq.trans (b := ORes.ofP (guardV (decide (3 ≤ ((l.flatMap api_Field.c).drop (x_57.toNat * 3)).length)) (.agg (((l.flatMap api_Field.c).drop (x_57.toNat * 3)).take 3)))) (by kernel_rfl) (flat_load api_Field.len (inR_lt hg68) (by decide) (by omega : x_57.toNat * 3 = x_57.toNat * 3 + 0) (by kernel_rfl))) <| .mu 2 <| .done <| .nh [0, 2, 3, 8, 35, 36, 37] [.own [aI64 0, aI64 0, nS], .own [aI64 0, aI64 0, nS], .own (api_Field.c (gt l x_57))] <| .seq ?_
       obtain ⟨hg69, hr⟩ := gd hr
       obtain ⟨v70, hc71, hr⟩ := bd hr
       refine .t1 fine (ok0 (depth_alike_ok n (gt l x_57) (gt l 0) v70 hc71)) <| .mu 2 <| .pure (v := .pp (l.flatMap api_Field.c) ((0 : Int).toNat * 3)) (by kernel_rfl) (tr (ofP_guard hg69)) (by kernel_rfl) <| .pure (v := .agg (api_Field.c (gt l 0))) (by kernel_rfl) (Eq.trans (b := ORes.ofP (guardV (decide (3 ≤ ((l.flatMap api_Field.c).drop ((0 : Int).toNat * 3)).length)) (.agg (((l.flatMap api_Field.c).drop ((0 : Int).toNat * 3)).take 3)))) (by kernel_rfl) (flat_load api_Field.len (inR_lt hg69) (by decide) (by omega : (0 : Int).toNat * 3 = (0 : Int).toNat * 3 + 0) (by kernel_rfl))) (by kernel_rfl) <| .ca cf0 <| .mu 1 ?_
       refine .done ⟨by kernel_rfl, ?_⟩
       refine .nh [0, 2, 3, 35, 36, 37, 46] [.own [aI64 0, aI64 0, nS], .own [aI64 0, aI64 0, nS], .own (api_Field.c (gt l x_57))] ?_
       refine .cd hr (fun hb72 hr => ?_) (fun hb72 hr => ?_)
       ·refine .seq <| .r4 fine [2, 3] [(4, aI64 4)] <| .ret ?_
        obtain rfl := oi hr
        exact ⟨rfl, FinQ.ret (vs := [.agg [aI64 0, aI64 0, nS], .agg [aI64 0, aI64 0, nS], aI64 4]) (by kernel_rfl) (Sn.tup (SnL.cons (Sn.agg (SnL.cons (Sn.pure rfl) (SnL.cons (Sn.pure rfl) (SnL.cons Sn.nilsl SnL.nil)))) (SnL.cons (Sn.agg (SnL.cons (Sn.pure rfl) (SnL.cons (Sn.pure rfl) (SnL.cons Sn.nilsl SnL.nil)))) (SnL.cons (Sn.pure rfl) SnL.nil))))⟩
       ·refine .skip <| .pop <| .ru fine ?_
        exact loopF_back (wrapF .i64 (x_57 + 1)) hr ((Wk.gc [0, 2, 3, 35, 36, 37] [(0, true), (1, true)] rfl trivial).to (by kernel_rfl))
      ·refine .leave rfl ?_
       obtain rfl := oi hr
       exact ⟨rfl, ((Wk.gc [0, 2, 3] [(0, true), (1, true)] rfl trivial).to (by kernel_rfl))⟩
     ·rcases o73 with ⟨⟩ | r0
      ·rintro x st' hq75
       clear hL74
       obtain ⟨rfl, hq75⟩ := hq75
       refine CQ_exit _ rfl <| .wk hq75 <| .seq ?_
       obtain ⟨hg76, hr⟩ := gd hr
       obtain ⟨v77, hc78, v79, hc80, hr⟩ := bd2 hr
       refine .tn fine (ca1 (callOk_mutU (args := [.agg (api_Field.c (gt l 0))]) 0 1 [] [false] (depth_blank_w_ok n (gt l 0) v77 hc78) trivial (by exact ⟨ids_flat (iC_pure _) _, trivial⟩) rfl rfl (by kernel_rfl) (by kernel_rfl)) (ca4 [.own [aI64 0, aI64 0, nS], .own [aI64 0, aI64 0, nS], .own (v77.2.2.flatMap (iC .i64))] (callOk_mutU (args := [.agg (api_Field.c (gt l 0))]) 0 1 [] [false] (depth_blank_w_ok n (gt l 0) v79 hc80) trivial (by exact ⟨ids_flat (iC_pure _) _, trivial⟩) rfl rfl (by kernel_rfl) (by kernel_rfl)))) <| .mu 1 <| .pure (v := .pp (l.flatMap api_Field.c) ((0 : Int).toNat * 3)) (by kernel_rfl) (tr (ofP_guard hg76)) (by kernel_rfl) <| .pure (v := .agg (api_Field.c (gt l 0))) (by kernel_rfl) (Eq.trans (b := ORes.ofP (guardV (decide (3 ≤ ((l.flatMap api_Field.c).drop ((0 : Int).toNat * 3)).length)) (.agg (((l.flatMap api_Field.c).drop ((0 : Int).toNat * 3)).take 3)))) (by kernel_rfl) (flat_load api_Field.len (inR_lt hg76) (by decide) (by omega : (0 : Int).toNat * 3 = (0 : Int).toNat * 3 + 0) (by kernel_rfl))) (by kernel_rfl) <| .ca cf0 <| .mu 1 <| .pure (v := .pp (l.flatMap api_Field.c) ((0 : Int).toNat * 3)) (by kernel_rfl) (tr (ofP_guard hg76)) (by kernel_rfl) <| .pure (v := .agg (api_Field.c (gt l 0))) (by kernel_rfl) (Eq.trans (b := ORes.ofP (guardV (decide (3 ≤ ((l.flatMap api_Field.c).drop ((0 : Int).toNat * 3)).length)) (.agg (((l.flatMap api_Field.c).drop ((0 : Int).toNat * 3)).take 3)))) (by kernel_rfl) (flat_load api_Field.len (inR_lt hg76) (by decide) (by omega : (0 : Int).toNat * 3 = (0 : Int).toNat * 3 + 0) (by kernel_rfl))) (by kernel_rfl) <| .ca (cfH 2 1 4 cf0) <| .mu 2 ?_
       refine .done ⟨by kernel_rfl, ?_⟩
       refine .nh [0, 2, 3] [.own [aI64 v77.1, aI64 v77.2.1, .hs 2 0 v77.2.2.length 1], .own [aI64 v79.1, aI64 v79.2.1, .hs 3 0 v79.2.2.length 1], .own (v77.2.2.flatMap (iC .i64)), .own (v79.2.2.flatMap (iC .i64))] <| .seq <| .seq <| .r4 fine [0, 2, 3] [(60, aI64 (v77.2.2.length : Int)), (61, aI64 0)] <| .block ?_
       replace hr := bd hr; obtain ⟨o189, hL190, hr⟩ := hr
       refine .loopO (σ := fun z0 => match z0 with | (fused_81, count_82, x_83) => ⟨mkS 110 0 [(0, slT api_Field.c l), (2, .hp 0 0), (3, .hp 2 0), (60, aI64 (v77.2.2.length : Int)), (61, aI64 x_83)], [.own [aI64 v77.1, aI64 v77.2.1, .hs 1 0 fused_81.length 1], .own (fused_81.flatMap (iC .i64)), .own [aI64 v79.1, aI64 v79.2.1, .hs 3 0 count_82.length 1], .own (count_82.flatMap (iC .i64))]⟩) (Q := fun x st' => match (generalizing := false) o189 with | (fused_135, count_136) => x = .exit 4 ∧ Wk 0 st' ⟨mkS 110 0 [(2, .hp 0 0), (3, .hp 2 0)], [.own [aI64 v77.1, aI64 v77.2.1, .hs 1 0 fused_135.length 1], .own (fused_135.flatMap (iC .i64)), .own [aI64 v79.1, aI64 v79.2.1, .hs 3 0 count_136.length 1], .own (count_136.flatMap (iC .i64))]⟩) hL190 ((Wk.gc [0, 2, 3, 60, 61] [(0, true), (2, false), (1, true), (3, false)] rfl (pKt (pKo (iC .i64) (iC_pure _) v77.2.2 (pKt (pKo (iC .i64) (iC_pure _) v79.2.2 trivial))))).to (by kernel_rfl)) ?_ ?_
       ·clear hr
        rintro m ⟨fused_81, count_82, x_83⟩ hr
        show CQ _ _ _ _ _ ⟨_, _⟩
        refine .seq <| .r4 fine [0, 2, 3, 60, 61] [(62, aB (decide (x_83 < (v77.2.2.length : Int))))] <| .seq ?_
        refine .cd hr (fun hb139 hr => ?_) (fun hb139 hr => ?_)
        ·refine .skip <| .seq <| .block <| .seq <| .r4 fine [0, 2, 3, 60, 61] [(9, aI64 x_83)] <| .seq <| .r4 fine [0, 2, 3, 9, 60, 61] [(10, nS)] <| .seq <| .seq <| .r4 fine [0, 2, 3, 9, 10, 60, 61] [(64, slT api_Field.c l), (65, aI64 (l.length : Int)), (66, aI64 0)] <| .block ?_
         replace hr := bd hr; obtain ⟨here_170, hL180, hr⟩ := hr
         refine .loopO (σ := fun z0 => match z0 with | (here_161, x_162) => ⟨mkS 110 0 [(0, slT api_Field.c l), (2, .hp 0 0), (3, .hp 2 0), (9, aI64 x_83), (10, .hs 4 0 here_161.length 1), (60, aI64 (v77.2.2.length : Int)), (61, aI64 x_83), (64, slT api_Field.c l), (65, aI64 (l.length : Int)), (66, aI64 x_162)], [.own [aI64 v77.1, aI64 v77.2.1, .hs 1 0 fused_81.length 1], .own (fused_81.flatMap (iC .i64)), .own [aI64 v79.1, aI64 v79.2.1, .hs 3 0 count_82.length 1], .own (count_82.flatMap (iC .i64)), .own (here_161.flatMap (iC .i64))]⟩) (Q := fun x st' => x = .exit 6 ∧ Wk 0 st' ⟨mkS 110 0 [(0, slT api_Field.c l), (2, .hp 0 0), (3, .hp 2 0), (9, aI64 x_83), (10, .hs 4 0 here_170.length 1), (60, aI64 (v77.2.2.length : Int)), (61, aI64 x_83)], [.own [aI64 v77.1, aI64 v77.2.1, .hs 1 0 fused_81.length 1], .own (fused_81.flatMap (iC .i64)), .own [aI64 v79.1, aI64 v79.2.1, .hs 3 0 count_82.length 1], .own (count_82.flatMap (iC .i64)), .own (here_170.flatMap (iC .i64))]⟩) hL180 ((Wk.nil 10 1 (by kernel_rfl)).trans ((Wk.gc [0, 2, 3, 9, 10, 60, 61, 64, 65, 66] [(0, true), (1, false), (2, true), (3, false), (4, false)] rfl (pKt (pKo (iC .i64) (iC_pure _) fused_81 (pKt (pKo (iC .i64) (iC_pure _) count_82 (pKc trivial)))))).to (by kernel_rfl))) ?_ ?_
         ·clear hr
          rintro m ⟨here_161, x_162⟩ hr
          show CQ _ _ _ _ _ ⟨_, _⟩
          refine .seq <| .r4 fine [0, 2, 3, 9, 10, 60, 61, 64, 65, 66] [(67, aB (decide (x_162 < (l.length : Int))))] <| .seq ?_
          refine .cd hr (fun hb173 hr => ?_) (fun hb173 hr => ?_)
          ·refine .skip <| .seq <| .block <| .seq ?_
           obtain ⟨hg174, hr⟩ := gd hr
           refine .r0 fine <| .p0 (v := .pp (l.flatMap api_Field.c) (x_162.toNat * 3)) (tr (ofP_guard hg174)) <| .p0 (v := .agg (api_Field.c (gt l x_162))) (Eq.trans (b := ORes.ofP (guardV (decide (3 ≤ ((l.flatMap api_Field.c).drop (x_162.toNat * 3)).length)) (.agg (((l.flatMap api_Field.c).drop (x_162.toNat * 3)).take 3)))) (by kernel_rfl) (flat_load api_Field.len (inR_lt hg174) (by decide) (by omega : x_162.toNat * 3 = x_162.toNat * 3 + 0) (by kernel_rfl))) <| .mu 2 <| .done <| .nh [0, 2, 3, 9, 10, 12, 60, 61, 64, 65, 66] [.own [aI64 v77.1, aI64 v77.2.1, .hs 1 0 fused_81.length 1], .own (fused_81.flatMap (iC .i64)), .own [aI64 v79.1, aI64 v79.2.1, .hs 3 0 count_82.length 1], .own (count_82.flatMap (iC .i64)), .own (here_161.flatMap (iC .i64)), .own (api_Field.c (gt l x_162))] <| .seq ?_
           obtain ⟨hg175, hr⟩ := gd hr
           refine .r0 fine <| .mu 3 <| .p0 (v := .pp ((gt l x_162).V.flatMap (iC .i64)) (x_83.toNat * 1)) (tr (ofP_guard hg175)) <| .p0 (v := aI64 (gt (gt l x_162).V x_83)) (tr (ofP_some (flat_get (iC_len .i64) (inR_lt hg175) (by decide : 0 < 1) (by omega : x_83.toNat * 1 = x_83.toNat * 1 + 0) (by kernel_rfl)))) <| .mu 1 <| .done <| .nh [0, 2, 3, 9, 10, 12, 60, 61, 64, 65, 66, 75] [.own [aI64 v77.1, aI64 v77.2.1, .hs 1 0 fused_81.length 1], .own (fused_81.flatMap (iC .i64)), .own [aI64 v79.1, aI64 v79.2.1, .hs 3 0 count_82.length 1], .own (count_82.flatMap (iC .i64)), .own (here_161.flatMap (iC .i64)), .own (api_Field.c (gt l x_162))] ?_
           refine .cd hr (fun hb176 hr => ?_) (fun hb176 hr => ?_)
           ·obtain ⟨hg177, hg178, hr⟩ := gd2 hr
            refine .r0 fine <| .mu 4 <| .p0 (v := .pp ((gt l x_162).V.flatMap (iC .i64)) (x_83.toNat * 1)) (tr (ofP_guard hg175)) <| .p0 (v := aI64 (gt (gt l x_162).V x_83)) (tr (ofP_some (flat_get (iC_len .i64) (inR_lt hg175) (by decide : 0 < 1) (by omega : x_83.toNat * 1 = x_83.toNat * 1 + 0) (by kernel_rfl)))) <| .mu 1 <| .e0 (v := .hs 7 0 (here_161 ++ [(gt (gt l x_162).V x_83)]).length 1) (ws := [(4, .dead), (7, .own ((here_161 ++ [(gt (gt l x_162).V x_83)]).flatMap (iC .i64)))]) (tr (app_own (new := [aI64 (gt (gt l x_162).V x_83)]) (l := here_161) (xs := [(gt (gt l x_162).V x_83)]) (iC_len .i64) rfl rfl (by kernel_rfl) hg177 hg178)) <| .mu 1 <| .done <| .pop <| .ru fine ?_
            exact loopF_back (here_161 ++ [(gt (gt l x_162).V x_83)], wrapF .i64 (x_162 + 1)) hr ((Wk.gc [0, 2, 3, 9, 10, 60, 61, 64, 65, 66] [(0, true), (1, false), (2, true), (3, false), (7, false)] rfl (pKt (pKo (iC .i64) (iC_pure _) fused_81 (pKt (pKo (iC .i64) (iC_pure _) count_82 (pKo (iC .i64) (iC_pure _) (here_161 ++ [(gt (gt l x_162).V x_83)]) trivial)))))).to (by kernel_rfl))
           ·refine .skip <| .pop <| .ru fine ?_
            exact loopF_back (here_161, wrapF .i64 (x_162 + 1)) hr ((Wk.gc [0, 2, 3, 9, 10, 60, 61, 64, 65, 66] [(0, true), (1, false), (2, true), (3, false), (4, false)] rfl (pKt (pKo (iC .i64) (iC_pure _) fused_81 (pKt (pKo (iC .i64) (iC_pure _) count_82 (pKo (iC .i64) (iC_pure _) here_161 trivial)))))).to (by kernel_rfl))
          ·refine .leave rfl ?_
           obtain rfl := oi hr
           exact ⟨rfl, ((Wk.gc [0, 2, 3, 9, 10, 60, 61] [(0, true), (1, false), (2, true), (3, false), (4, false)] rfl (pKt (pKo (iC .i64) (iC_pure _) fused_81 (pKt (pKo (iC .i64) (iC_pure _) count_82 (pKo (iC .i64) (iC_pure _) here_161 trivial)))))).to (by kernel_rfl))⟩
         ·rintro x st' hq181
          clear hL180
          obtain ⟨rfl, hq181⟩ := hq181
          refine CQ_exit _ rfl <| .wk hq181 <| .seq ?_
          obtain ⟨v182, hc183, hr⟩ := bd hr
          obtain ⟨hg184, hr⟩ := gd hr
          refine .g1 fine (callOk_mutU (args := [.hs 4 0 here_170.length 1]) 1 0 [(4, false)] [false] (slices_Sort_int_int_w_ok n here_170 v182 hc183) (by exact ⟨ids_flat (iC_pure _) _, trivial⟩) (by exact ⟨ids_flat (iC_pure _) _, trivial⟩) rfl rfl (by kernel_rfl) (by kernel_rfl)) <| .mu 1 <| .ca cf0 <| .done <| .nh [0, 2, 3, 9, 10, 60, 61] [.own [aI64 v77.1, aI64 v77.2.1, .hs 1 0 fused_81.length 1], .own (fused_81.flatMap (iC .i64)), .own [aI64 v79.1, aI64 v79.2.1, .hs 3 0 count_82.length 1], .own (count_82.flatMap (iC .i64)), .own (v182.flatMap (iC .i64))] <| .seq ?_
          obtain ⟨hg185, hr⟩ := gd hr
          refine .r0 fine <| .mu 5 <| .p0 (v := .hp 3 (0 + x_83.toNat * 1)) (tr (ofP_guard hg185)) <| .e0 (v := .unk) (ws := [(3, .own ((count_82.set x_83.toNat (here_170.length : Int)).flatMap (iC .i64)))]) (tr (stO_t (and_t (flat_fits (n := 1) (iC_len .i64) (inR_lt hg185) (Nat.le_of_ble_eq_true rfl) (by omega : 0 + x_83.toNat * 1 = x_83.toNat * 1 + 0))) (congrArg Blk.own (flat_set (xs := [aI64 (here_170.length : Int)]) (iC_len .i64) (inR_lt hg185) (Nat.le_of_ble_eq_true rfl) (by omega : 0 + x_83.toNat * 1 = x_83.toNat * 1 + 0) (by kernel_rfl))))) <| .done <| .nh [0, 2, 3, 9, 10, 60, 61] [.own [aI64 v77.1, aI64 v77.2.1, .hs 1 0 fused_81.length 1], .own (fused_81.flatMap (iC .i64)), .own [aI64 v79.1, aI64 v79.2.1, .hs 3 0 count_82.length 1], .own ((count_82.set x_83.toNat (here_170.length : Int)).flatMap (iC .i64)), .own (v182.flatMap (iC .i64))] <| .seq <| .r4 fine [0, 2, 3, 9, 10, 60, 61] [(95, aB (decide ((here_170.length : Int) > 0)))] ?_
          refine .cd hr (fun hb186 hr => ?_) (fun hb186 hr => ?_)
          ·obtain ⟨hg187, hg188, hr⟩ := gd2 hr
           refine .regionT fine callOf_nil <| .mu 8 <| .pure (v := .hp 4 (0 + (wrapF .i64 ((wrapF .i64 ((here_170.length : Int) - 1)).tdiv 2)).toNat * 1)) (by kernel_rfl) (tr (ofP_guard hg187)) (by kernel_rfl) <| .pure (v := aI64 (gt v182 (wrapF .i64 ((wrapF .i64 ((here_170.length : Int) - 1)).tdiv 2)))) (by kernel_rfl) (tr (ofP_some (flat_get (iC_len .i64) (inR_lt (inR_eq hg184 hg187)) (by decide : 0 < 1) (by omega : 0 + (wrapF .i64 ((wrapF .i64 ((here_170.length : Int) - 1)).tdiv 2)).toNat * 1 = (wrapF .i64 ((wrapF .i64 ((here_170.length : Int) - 1)).tdiv 2)).toNat * 1 + 0) (by kernel_rfl)))) (by kernel_rfl) <| .pure (v := .hp 1 (0 + x_83.toNat * 1)) (by kernel_rfl) (tr (ofP_guard hg188)) (by kernel_rfl) <| .eff (v := .unk) (ws := [(1, .own ((fused_81.set x_83.toNat (gt v182 (wrapF .i64 ((wrapF .i64 ((here_170.length : Int) - 1)).tdiv 2)))).flatMap (iC .i64)))]) (by kernel_rfl) (tr (stO_t (and_t (flat_fits (n := 1) (iC_len .i64) (inR_lt hg188) (Nat.le_of_ble_eq_true rfl) (by omega : 0 + x_83.toNat * 1 = x_83.toNat * 1 + 0))) (congrArg Blk.own (flat_set (xs := [aI64 (gt v182 (wrapF .i64 ((wrapF .i64 ((here_170.length : Int) - 1)).tdiv 2)))]) (iC_len .i64) (inR_lt hg188) (Nat.le_of_ble_eq_true rfl) (by omega : 0 + x_83.toNat * 1 = x_83.toNat * 1 + 0) (by kernel_rfl))))) (by kernel_rfl) ?_
           refine .done ⟨by kernel_rfl, ?_⟩
           refine .pop <| .ru fine ?_
           exact loopF_back (fused_81.set x_83.toNat (gt v182 (wrapF .i64 ((wrapF .i64 ((here_170.length : Int) - 1)).tdiv 2))), count_82.set x_83.toNat (here_170.length : Int), wrapF .i64 (x_83 + 1)) hr ((Wk.recell 0 2 (b := 1) (es := 1) (len := fused_81.length) (cs := [aI64 v77.1, aI64 v77.2.1, .hs 1 0 fused_81.length 1]) (fused_81.set x_83.toNat (gt v182 (wrapF .i64 ((wrapF .i64 ((here_170.length : Int) - 1)).tdiv 2)))).length (by kernel_rfl) (by kernel_rfl) (by simp)).trans ((Wk.recell 2 2 (b := 3) (es := 1) (len := count_82.length) (cs := [aI64 v79.1, aI64 v79.2.1, .hs 3 0 count_82.length 1]) (count_82.set x_83.toNat (here_170.length : Int)).length (by kernel_rfl) (by kernel_rfl) (by simp)).trans ((Wk.gc [0, 2, 3, 60, 61] [(0, true), (1, false), (2, true), (3, false)] rfl (pKt (pKo (iC .i64) (iC_pure _) (fused_81.set x_83.toNat (gt v182 (wrapF .i64 ((wrapF .i64 ((here_170.length : Int) - 1)).tdiv 2)))) (pKt (pKo (iC .i64) (iC_pure _) (count_82.set x_83.toNat (here_170.length : Int)) trivial))))).to (by kernel_rfl))))
          ·refine .skip <| .pop <| .ru fine ?_
           exact loopF_back (fused_81, count_82.set x_83.toNat (here_170.length : Int), wrapF .i64 (x_83 + 1)) hr ((Wk.recell 2 2 (b := 3) (es := 1) (len := count_82.length) (cs := [aI64 v79.1, aI64 v79.2.1, .hs 3 0 count_82.length 1]) (count_82.set x_83.toNat (here_170.length : Int)).length (by kernel_rfl) (by kernel_rfl) (by simp)).trans ((Wk.gc [0, 2, 3, 60, 61] [(0, true), (1, false), (2, true), (3, false)] rfl (pKt (pKo (iC .i64) (iC_pure _) fused_81 (pKt (pKo (iC .i64) (iC_pure _) (count_82.set x_83.toNat (here_170.length : Int)) trivial))))).to (by kernel_rfl)))
        ·refine .leave rfl ?_
         obtain rfl := oi hr
         exact ⟨rfl, ((Wk.gc [2, 3] [(0, true), (1, false), (2, true), (3, false)] rfl (pKt (pKo (iC .i64) (iC_pure _) fused_81 (pKt (pKo (iC .i64) (iC_pure _) count_82 trivial))))).to (by kernel_rfl))⟩
       ·rcases o189 with ⟨fused_135, count_136⟩
        rintro x st' hq191
        clear hL190
        obtain ⟨rfl, hq191⟩ := hq191
        refine CQ_exit _ rfl <| .wk hq191 <| .seq <| .regionT fine callOf_nil <| .mu 5 ?_
        refine .done ⟨by kernel_rfl, ?_⟩
        refine .nh [2, 3, 4] [.own [aI64 v77.1, aI64 v77.2.1, .hs 1 0 fused_135.length 1], .own (fused_135.flatMap (iC .i64)), .own [aI64 v79.1, aI64 v79.2.1, .hs 3 0 count_136.length 1], .own (count_136.flatMap (iC .i64))] <| .ret ?_
        obtain rfl := oi hr
        exact FinQ.ret (vs := [.agg [aI64 v77.1, aI64 v77.2.1, .hs 1 0 fused_135.length 1], .agg [aI64 v79.1, aI64 v79.2.1, .hs 3 0 count_136.length 1], aI64 0]) (by kernel_rfl) (Sn.tup (SnL.cons (Sn.agg (SnL.cons (Sn.pure rfl) (SnL.cons (Sn.pure rfl) (SnL.cons (Sn.hs rfl (.inl rfl) (SnC.pure (ids_flat (iC_pure _) _)) (fun h => flat_nil0 h)) SnL.nil)))) (SnL.cons (Sn.agg (SnL.cons (Sn.pure rfl) (SnL.cons (Sn.pure rfl) (SnL.cons (Sn.hs rfl (.inl rfl) (SnC.pure (ids_flat (iC_pure _) _)) (fun h => flat_nil0 h)) SnL.nil)))) (SnL.cons (Sn.pure rfl) SnL.nil))))
      ·rintro x st' hq75
       clear hL74
       obtain ⟨rfl, hq75⟩ := hq75
       obtain rfl := oi hr
       exact CQ_ret _ hq75
  ·rintro x st' hq34
   clear hL33
   obtain ⟨rfl, hq34⟩ := hq34
   obtain rfl := oi hr
   exact CQ_ret _ hq34

theorem fiduciallaw46_DepthFlips_6_ok (n : Nat) (a : api_Field) (b : api_Field) (r : api_Field × Int) (hr : fiduciallaw46_DepthFlips_6 n a b = some r) : FnOk Tryz.prog 36 [.agg (api_Field.c a), .agg (api_Field.c b)] (.tup [.agg (api_Field.c r.1), aI64 r.2]) := by
 unfold fiduciallaw46_DepthFlips_6 at hr
 refine FnOk.bd fine Tryz.func36 [.cell 4 39, .tmp 5] ?_
 unfold Tryz.f36
 simp only [Option.getD_some]
 refine .seq <| .r2 fine 19 [(2, .hp 0 0), (3, .hp 1 0), (4, .hp 2 0)] [.own (api_Field.c a), .own (api_Field.c b), .own [aI64 0, aI64 0, nS]] <| .seq ?_
 obtain ⟨v1, hc2, hr⟩ := bd hr
 refine .gn fine (ca4 [.own (api_Field.c a), .own (api_Field.c b), .own [aI64 0, aI64 0, nS], .own [aI64 a.Width, aI64 a.Height, sI64 a.V, aI64 b.Width, aI64 b.Height, sI64 b.V]] (callOk_ref (args := [.hs 3 0 2 3]) (l := [3]) (SnL.cons (Sn.hs rfl (.inl rfl) (SnC.cons (Sn.pure rfl) (SnC.cons (Sn.pure rfl) (SnC.cons (Sn.pure rfl) (SnC.cons (Sn.pure rfl) (SnC.cons (Sn.pure rfl) (SnC.cons (Sn.pure rfl) SnC.nil)))))) (fun h => nomatch h)) SnL.nil) (depth_Fuse_ok n [a, b] v1 hc2))) <| .mu 3 <| .ca cf0 <| .mu 9 <| .done <| .nh [4, 6, 8] [.own (api_Field.c a), .own (api_Field.c b), .own [aI64 0, aI64 0, nS], .fix [aI64 a.Width, aI64 a.Height, sI64 a.V, aI64 b.Width, aI64 b.Height, sI64 b.V], .own (api_Field.c v1.1), .own (api_Field.c v1.2.1)] <| .seq <| .r5 fine [4] [(5, aI64 v1.2.2)] [.own (api_Field.c a), .own (api_Field.c b), .own (api_Field.c v1.1), .fix [aI64 a.Width, aI64 a.Height, sI64 a.V, aI64 b.Width, aI64 b.Height, sI64 b.V], .own (api_Field.c v1.1), .own (api_Field.c v1.2.1)] <| .ret ?_
 obtain rfl := oi hr
 exact FinQ.ret (vs := [.agg (api_Field.c v1.1), aI64 v1.2.2]) (by kernel_rfl) (Sn.tup (SnL.cons (Sn.pure rfl) (SnL.cons (Sn.pure rfl) SnL.nil)))

theorem fiduciallaw46_DepthFlips_ok (n : Nat) (f : api_Field) (g : api_Field) (n' : A2 Int) (r : Bool) (hr : fiduciallaw46_DepthFlips n f g n' = some r) : FnOk Tryz.prog 6 [.agg (api_Field.c f), .agg (api_Field.c g), .agg [aU8 n'.e0, aU8 n'.e1]] (aB r) := by
 unfold fiduciallaw46_DepthFlips at hr
 refine FnOk.bd fine Tryz.func6 [.tmp 6] ?_
 unfold Tryz.f6
 simp only [Option.getD_some]
 refine .seq <| .r2 fine 78 [(3, .hp 0 0), (4, .hp 1 0), (5, .hp 2 0)] [.own (api_Field.c f), .own (api_Field.c g), .own [aU8 n'.e0, aU8 n'.e1]] <| .seq <| .seq ?_
 obtain ⟨v1, hc2, hr⟩ := bd hr
 refine .g1 fine (ok0 (fiduciallaw46_known_ok n v1 hc2)) <| .ca cf0 <| .mu 1 <| .done <| .nh [3, 4, 5, 16] [.own (api_Field.c f), .own (api_Field.c g), .own [aU8 n'.e0, aU8 n'.e1]] ?_
 refine .cd hr (fun hb4 hr => ?_) (fun hb4 hr => ?_)
 ·refine .seq <| .ru fine <| .ret ?_
  obtain rfl := oi hr
  exact FinQ.r1 [aB false]
 ·refine .skip <| .seq <| .seq ?_
  obtain ⟨v5, hc6, hr⟩ := bd hr
  rcases Bool.eq_false_or_eq_true (!v5) with hb7 | hb7
  ·replace hr := cd_t hb7 hr
   refine .g1 fine (ok0 (fiduciallaw46_few_ok n f v5 hc6)) <| .mu 1 <| .ca cf0 <| .p0 (v := aB true) (eB hb7) <| .mu 11 <| .done <| .nh [3, 4, 5, 30] [.own (api_Field.c f), .own (api_Field.c g), .own [aU8 n'.e0, aU8 n'.e1]] <| .cT (by kernel_rfl) <| .seq <| .ru fine <| .ret ?_
   obtain rfl := oi hr
   exact FinQ.r1 [aB true]
  ·replace hr := cd_f hb7 hr
   obtain ⟨v8, hc9, hr⟩ := bd hr
   rcases Bool.eq_false_or_eq_true (!v8) with hb10 | hb10
   ·replace hr := cd_t hb10 hr
    refine .gn fine (ca1 (ok0 (fiduciallaw46_few_ok n f v5 hc6)) (ca3 (ok0 (fiduciallaw46_few_ok n g v8 hc9)))) <| .mu 1 <| .ca cf0 <| .p0 (v := aB false) (eB hb7) <| .mu 2 <| .ca (cfA (fun h => by rw [sv hc9 hc6 (fiduciallaw46_few_cg n h)]) cf0) <| .pure (v := aB true) (by kernel_rfl) (eB hb10) <| .mu 7 <| .done <| .nh [3, 4, 5, 30] [.own (api_Field.c f), .own (api_Field.c g), .own [aU8 n'.e0, aU8 n'.e1]] <| .cT (by kernel_rfl) <| .seq <| .ru fine <| .ret ?_
    obtain rfl := oi hr
    exact FinQ.r1 [aB true]
   ·replace hr := cd_f hb10 hr
    obtain ⟨v11, hc12, hr⟩ := bd hr
    refine .gn fine (ca1 (ok0 (fiduciallaw46_few_ok n f v5 hc6)) (ca1 (ok0 (fiduciallaw46_few_ok n g v8 hc9)) (ca3 (ok0 (fiduciallaw46_two_ok n f g v11 hc12))))) <| .mu 1 <| .ca cf0 <| .p0 (v := aB false) (eB hb7) <| .mu 2 <| .ca (cfA (fun h => by rw [sv hc9 hc6 (fiduciallaw46_few_cg n h)]) cf0) <| .pure (v := aB false) (by kernel_rfl) (eB hb10) <| .mu 4 <| .ca (cfF (cfF cf0)) <| .mu 2 <| .done <| .nh [3, 4, 5, 30] [.own (api_Field.c f), .own (api_Field.c g), .own [aU8 n'.e0, aU8 n'.e1]] ?_
    refine .cd hr (fun hb14 hr => ?_) (fun hb14 hr => ?_)
    ·refine .seq <| .ru fine <| .ret ?_
     obtain rfl := oi hr
     exact FinQ.r1 [aB true]
    ·refine .skip <| .seq ?_
     obtain ⟨v15, hc16, v17, hc18, hr⟩ := bd2 hr
     refine .tn fine (ca1 (ok0 (fiduciallaw46_Flipped_ok n f v15 hc16)) (ca3 (ok0 (fiduciallaw46_Flipped_ok n g v17 hc18)))) <| .mu 1 <| .ca cf0 <| .mu 1 <| .ca (cfA (fun h => by rw [sv hc18 hc16 (fiduciallaw46_Flipped_cg n h)]) cf0) <| .mu 4 ?_
     refine .done ⟨by kernel_rfl, ?_⟩
     refine .nh [3, 4, 5, 7, 8] [.own (api_Field.c f), .own (api_Field.c g), .own [aU8 n'.e0, aU8 n'.e1], .own (api_Field.c v15), .own (api_Field.c v17)] <| .seq <| .seq <| .r5 fine [3, 4, 7, 8] [(39, .hs 5 0 6 1), (40, aI64 6), (41, aI64 0)] [.own (api_Field.c f), .own (api_Field.c g), .own [aU8 n'.e0, aU8 n'.e1], .own (api_Field.c v15), .own (api_Field.c v17), .own [.fn 27 [] [.hp 2 0], .fn 29 [] [], .fn 31 [] [.hp 2 0], .fn 33 [] [.hp 2 0], .fn 34 [] [.hp 2 0], .fn 36 [] []]] <| .block ?_
     refine .unroll 7 (UNR.one ?_)
     refine .seq <| .r4 fine [3, 4, 7, 8, 39, 40, 41] [(42, aB true)] <| .seq <| .cT (by kernel_rfl) <| .skip <| .seq <| .block <| .seq <| .r4 fine [3, 4, 7, 8, 39, 40, 41] [(10, .fn 27 [] [.hp 2 0])] <| .seq ?_
     obtain ⟨v19, hc20, hr⟩ := bd hr
     refine .g1 fine (callOk_ref (args := [.agg (api_Field.c f), .agg (api_Field.c g), .hp 2 0]) (l := [2]) (SnL.cons (Sn.pure rfl) (SnL.cons (Sn.pure rfl) (SnL.cons (Sn.hp rfl (.inl rfl) (SnC.cons (Sn.pure rfl) (SnC.cons (Sn.pure rfl) SnC.nil))) SnL.nil))) (fiduciallaw46_DepthFlips_1_ok n f g n'.e0 n'.e1 v19 hc20)) <| .mu 3 <| .ca cf0 <| .mu 6 <| .done <| .nh [3, 4, 7, 8, 10, 11, 12, 39, 40, 41] [.own (api_Field.c f), .own (api_Field.c g), .fix [aU8 n'.e0, aU8 n'.e1], .own (api_Field.c v15), .own (api_Field.c v17), .own [.fn 27 [] [.hp 2 0], .fn 29 [] [], .fn 31 [] [.hp 2 0], .fn 33 [] [.hp 2 0], .fn 34 [] [.hp 2 0], .fn 36 [] []], .own (api_Field.c v19.1)] <| .seq ?_
     obtain ⟨v21, hc22, hr⟩ := bd hr
     refine .g1 fine (callOk_ref (args := [.agg (api_Field.c v15), .agg (api_Field.c v17), .hp 2 0]) (l := [2]) (SnL.cons (Sn.pure rfl) (SnL.cons (Sn.pure rfl) (SnL.cons (Sn.hp rfl (.inr rfl) (SnC.cons (Sn.pure rfl) (SnC.cons (Sn.pure rfl) SnC.nil))) SnL.nil))) (fiduciallaw46_DepthFlips_1_ok n v15 v17 n'.e0 n'.e1 v21 hc22)) <| .mu 3 <| .ca cf0 <| .mu 6 <| .done <| .nh [3, 4, 7, 8, 11, 12, 13, 14, 39, 40, 41] [.own (api_Field.c f), .own (api_Field.c g), .fix [aU8 n'.e0, aU8 n'.e1], .own (api_Field.c v15), .own (api_Field.c v17), .own [.fn 27 [] [.hp 2 0], .fn 29 [] [], .fn 31 [] [.hp 2 0], .fn 33 [] [.hp 2 0], .fn 34 [] [.hp 2 0], .fn 36 [] []], .own (api_Field.c v19.1), .own (api_Field.c v21.1)] <| .seq ?_
     rcases Bool.eq_false_or_eq_true ((v19.2 : Int) != 0) with hb23 | hb23
     ·replace hr := cd_t hb23 hr
      refine .regionT fine callOf_nil <| .mu 1 <| .pure (v := aB true) (by kernel_rfl) (eB hb23) (by kernel_rfl) <| .mu 16 ?_
      refine .done ⟨by kernel_rfl, ?_⟩
      refine .nh [3, 4, 7, 8, 39, 40, 41, 76] [.own (api_Field.c f), .own (api_Field.c g), .fix [aU8 n'.e0, aU8 n'.e1], .own (api_Field.c v15), .own (api_Field.c v17), .own [.fn 27 [] [.hp 2 0], .fn 29 [] [], .fn 31 [] [.hp 2 0], .fn 33 [] [.hp 2 0], .fn 34 [] [.hp 2 0], .fn 36 [] []], .own (api_Field.c v19.1), .own (api_Field.c v21.1)] <| .cT (by kernel_rfl) <| .seq <| .ru fine <| .ret <| unF.ret ?_
      obtain rfl := oi hr
      exact FinQ.r1 [aB false]
     ·replace hr := cd_f hb23 hr
      rcases Bool.eq_false_or_eq_true ((v21.2 : Int) != 0) with hb24 | hb24
      ·replace hr := cd_t hb24 hr
       refine .regionT fine callOf_nil <| .mu 1 <| .pure (v := aB false) (by kernel_rfl) (eB hb23) (by kernel_rfl) <| .mu 2 <| .pure (v := aB true) (by kernel_rfl) (eB hb24) (by kernel_rfl) <| .mu 13 ?_
       refine .done ⟨by kernel_rfl, ?_⟩
       refine .nh [3, 4, 7, 8, 39, 40, 41, 76] [.own (api_Field.c f), .own (api_Field.c g), .fix [aU8 n'.e0, aU8 n'.e1], .own (api_Field.c v15), .own (api_Field.c v17), .own [.fn 27 [] [.hp 2 0], .fn 29 [] [], .fn 31 [] [.hp 2 0], .fn 33 [] [.hp 2 0], .fn 34 [] [.hp 2 0], .fn 36 [] []], .own (api_Field.c v19.1), .own (api_Field.c v21.1)] <| .cT (by kernel_rfl) <| .seq <| .ru fine <| .ret <| unF.ret ?_
       obtain rfl := oi hr
       exact FinQ.r1 [aB false]
      ·replace hr := cd_f hb24 hr
       obtain ⟨v25, hc26, hr⟩ := bd hr
       rcases Bool.eq_false_or_eq_true (!v25) with hb27 | hb27
       ·replace hr := cd_t hb27 hr
        refine .t1 fine (ok0 (fiduciallaw46_Valid_ok n v19.1 v25 hc26)) <| .mu 1 <| .pure (v := aB false) (by kernel_rfl) (eB hb23) (by kernel_rfl) <| .mu 2 <| .pure (v := aB false) (by kernel_rfl) (eB hb24) (by kernel_rfl) <| .mu 3 <| .ca cf0 <| .pure (v := aB true) (by kernel_rfl) (eB hb27) (by kernel_rfl) <| .mu 8 ?_
        refine .done ⟨by kernel_rfl, ?_⟩
        refine .nh [3, 4, 7, 8, 39, 40, 41, 76] [.own (api_Field.c f), .own (api_Field.c g), .fix [aU8 n'.e0, aU8 n'.e1], .own (api_Field.c v15), .own (api_Field.c v17), .own [.fn 27 [] [.hp 2 0], .fn 29 [] [], .fn 31 [] [.hp 2 0], .fn 33 [] [.hp 2 0], .fn 34 [] [.hp 2 0], .fn 36 [] []], .own (api_Field.c v19.1), .own (api_Field.c v21.1)] <| .cT (by kernel_rfl) <| .seq <| .ru fine <| .ret <| unF.ret ?_
        obtain rfl := oi hr
        exact FinQ.r1 [aB false]
       ·replace hr := cd_f hb27 hr
        obtain ⟨v28, hc29, v30, hc31, hr⟩ := bd2 hr
        refine .tn fine (ca1 (ok0 (fiduciallaw46_Valid_ok n v19.1 v25 hc26)) (ca1 (ok0 (fiduciallaw46_Flipped_ok n v19.1 v28 hc29)) (ca3 (ok0 (fiduciallaw46_Same_ok n v28 v21.1 v30 hc31))))) <| .mu 1 <| .pure (v := aB false) (by kernel_rfl) (eB hb23) (by kernel_rfl) <| .mu 2 <| .pure (v := aB false) (by kernel_rfl) (eB hb24) (by kernel_rfl) <| .mu 3 <| .ca cf0 <| .pure (v := aB false) (by kernel_rfl) (eB hb27) (by kernel_rfl) <| .mu 3 <| .ca (cfF cf0) <| .mu 1 <| .ca (cfF (cfF cf0)) <| .mu 2 ?_
        refine .done ⟨by kernel_rfl, ?_⟩
        refine .nh [3, 4, 7, 8, 39, 40, 41, 76] [.own (api_Field.c f), .own (api_Field.c g), .fix [aU8 n'.e0, aU8 n'.e1], .own (api_Field.c v15), .own (api_Field.c v17), .own [.fn 27 [] [.hp 2 0], .fn 29 [] [], .fn 31 [] [.hp 2 0], .fn 33 [] [.hp 2 0], .fn 34 [] [.hp 2 0], .fn 36 [] []], .own (api_Field.c v19.1), .own (api_Field.c v21.1)] ?_
        refine .cd hr (fun hb32 hr => ?_) (fun hb32 hr => ?_)
        ·refine .seq <| .ru fine <| .ret <| unF.ret ?_
         obtain rfl := oi hr
         exact FinQ.r1 [aB false]
        ·refine .skip <| .pop <| .ru fine <| UNR.next <| .n2 78 [(3, .hp 0 0), (4, .hp 1 0), (7, .hp 3 0), (8, .hp 4 0), (39, .hs 5 0 6 1), (40, aI64 6), (41, aI64 1)] [.own (api_Field.c f), .own (api_Field.c g), .fix [aU8 n'.e0, aU8 n'.e1], .own (api_Field.c v15), .own (api_Field.c v17), .own [.fn 27 [] [.hp 2 0], .fn 29 [] [], .fn 31 [] [.hp 2 0], .fn 33 [] [.hp 2 0], .fn 34 [] [.hp 2 0], .fn 36 [] []], .own (api_Field.c v19.1), .own (api_Field.c v21.1)] <| .seq <| .r4 fine [3, 4, 7, 8, 39, 40, 41] [(42, aB true)] <| .seq <| .cT (by kernel_rfl) <| .skip <| .seq <| .block <| .seq <| .r4 fine [3, 4, 7, 8, 39, 40, 41] [(10, .fn 29 [] [])] <| .seq ?_
         obtain ⟨v33, hc34, hr⟩ := bd hr
         refine .g1 fine (ok0 (fiduciallaw46_DepthFlips_2_ok n f g v33 hc34)) <| .mu 3 <| .ca cf0 <| .mu 6 <| .done <| .nh [3, 4, 7, 8, 10, 11, 12, 39, 40, 41] [.own (api_Field.c f), .own (api_Field.c g), .fix [aU8 n'.e0, aU8 n'.e1], .own (api_Field.c v15), .own (api_Field.c v17), .own [.fn 27 [] [.hp 2 0], .fn 29 [] [], .fn 31 [] [.hp 2 0], .fn 33 [] [.hp 2 0], .fn 34 [] [.hp 2 0], .fn 36 [] []], .own (api_Field.c v19.1), .own (api_Field.c v21.1), .own (api_Field.c v33.1)] <| .seq ?_
         obtain ⟨v35, hc36, hr⟩ := bd hr
         refine .g1 fine (ok0 (fiduciallaw46_DepthFlips_2_ok n v15 v17 v35 hc36)) <| .mu 3 <| .ca cf0 <| .mu 6 <| .done <| .nh [3, 4, 7, 8, 11, 12, 13, 14, 39, 40, 41] [.own (api_Field.c f), .own (api_Field.c g), .fix [aU8 n'.e0, aU8 n'.e1], .own (api_Field.c v15), .own (api_Field.c v17), .own [.fn 27 [] [.hp 2 0], .fn 29 [] [], .fn 31 [] [.hp 2 0], .fn 33 [] [.hp 2 0], .fn 34 [] [.hp 2 0], .fn 36 [] []], .own (api_Field.c v19.1), .own (api_Field.c v21.1), .own (api_Field.c v33.1), .own (api_Field.c v35.1)] <| .seq ?_
         rcases Bool.eq_false_or_eq_true ((v33.2 : Int) != 0) with hb37 | hb37
         ·replace hr := cd_t hb37 hr
          refine .regionT fine callOf_nil <| .mu 1 <| .pure (v := aB true) (by kernel_rfl) (eB hb37) (by kernel_rfl) <| .mu 16 ?_
          refine .done ⟨by kernel_rfl, ?_⟩
          refine .nh [3, 4, 7, 8, 39, 40, 41, 76] [.own (api_Field.c f), .own (api_Field.c g), .fix [aU8 n'.e0, aU8 n'.e1], .own (api_Field.c v15), .own (api_Field.c v17), .own [.fn 27 [] [.hp 2 0], .fn 29 [] [], .fn 31 [] [.hp 2 0], .fn 33 [] [.hp 2 0], .fn 34 [] [.hp 2 0], .fn 36 [] []], .own (api_Field.c v19.1), .own (api_Field.c v21.1), .own (api_Field.c v33.1), .own (api_Field.c v35.1)] <| .cT (by kernel_rfl) <| .seq <| .ru fine <| .ret <| unF.ret ?_
          obtain rfl := oi hr
          exact FinQ.r1 [aB false]
         ·replace hr := cd_f hb37 hr
          rcases Bool.eq_false_or_eq_true ((v35.2 : Int) != 0) with hb38 | hb38
          ·replace hr := cd_t hb38 hr
           refine .regionT fine callOf_nil <| .mu 1 <| .pure (v := aB false) (by kernel_rfl) (eB hb37) (by kernel_rfl) <| .mu 2 <| .pure (v := aB true) (by kernel_rfl) (eB hb38) (by kernel_rfl) <| .mu 13 ?_
           refine .done ⟨by kernel_rfl, ?_⟩
           refine .nh [3, 4, 7, 8, 39, 40, 41, 76] [.own (api_Field.c f), .own (api_Field.c g), .fix [aU8 n'.e0, aU8 n'.e1], .own (api_Field.c v15), .own (api_Field.c v17), .own [.fn 27 [] [.hp 2 0], .fn 29 [] [], .fn 31 [] [.hp 2 0], .fn 33 [] [.hp 2 0], .fn 34 [] [.hp 2 0], .fn 36 [] []], .own (api_Field.c v19.1), .own (api_Field.c v21.1), .own (api_Field.c v33.1), .own (api_Field.c v35.1)] <| .cT (by kernel_rfl) <| .seq <| .ru fine <| .ret <| unF.ret ?_
           obtain rfl := oi hr
           exact FinQ.r1 [aB false]
          ·replace hr := cd_f hb38 hr
           obtain ⟨v39, hc40, hr⟩ := bd hr
           rcases Bool.eq_false_or_eq_true (!v39) with hb41 | hb41
           ·replace hr := cd_t hb41 hr
            refine .t1 fine (ok0 (fiduciallaw46_Valid_ok n v33.1 v39 hc40)) <| .mu 1 <| .pure (v := aB false) (by kernel_rfl) (eB hb37) (by kernel_rfl) <| .mu 2 <| .pure (v := aB false) (by kernel_rfl) (eB hb38) (by kernel_rfl) <| .mu 3 <| .ca cf0 <| .pure (v := aB true) (by kernel_rfl) (eB hb41) (by kernel_rfl) <| .mu 8 ?_
            refine .done ⟨by kernel_rfl, ?_⟩
            refine .nh [3, 4, 7, 8, 39, 40, 41, 76] [.own (api_Field.c f), .own (api_Field.c g), .fix [aU8 n'.e0, aU8 n'.e1], .own (api_Field.c v15), .own (api_Field.c v17), .own [.fn 27 [] [.hp 2 0], .fn 29 [] [], .fn 31 [] [.hp 2 0], .fn 33 [] [.hp 2 0], .fn 34 [] [.hp 2 0], .fn 36 [] []], .own (api_Field.c v19.1), .own (api_Field.c v21.1), .own (api_Field.c v33.1), .own (api_Field.c v35.1)] <| .cT (by kernel_rfl) <| .seq <| .ru fine <| .ret <| unF.ret ?_
            obtain rfl := oi hr
            exact FinQ.r1 [aB false]
           ·replace hr := cd_f hb41 hr
            obtain ⟨v42, hc43, v44, hc45, hr⟩ := bd2 hr
            refine .tn fine (ca1 (ok0 (fiduciallaw46_Valid_ok n v33.1 v39 hc40)) (ca1 (ok0 (fiduciallaw46_Flipped_ok n v33.1 v42 hc43)) (ca3 (ok0 (fiduciallaw46_Same_ok n v42 v35.1 v44 hc45))))) <| .mu 1 <| .pure (v := aB false) (by kernel_rfl) (eB hb37) (by kernel_rfl) <| .mu 2 <| .pure (v := aB false) (by kernel_rfl) (eB hb38) (by kernel_rfl) <| .mu 3 <| .ca cf0 <| .pure (v := aB false) (by kernel_rfl) (eB hb41) (by kernel_rfl) <| .mu 3 <| .ca (cfF cf0) <| .mu 1 <| .ca (cfF (cfF cf0)) <| .mu 2 ?_
            refine .done ⟨by kernel_rfl, ?_⟩
            refine .nh [3, 4, 7, 8, 39, 40, 41, 76] [.own (api_Field.c f), .own (api_Field.c g), .fix [aU8 n'.e0, aU8 n'.e1], .own (api_Field.c v15), .own (api_Field.c v17), .own [.fn 27 [] [.hp 2 0], .fn 29 [] [], .fn 31 [] [.hp 2 0], .fn 33 [] [.hp 2 0], .fn 34 [] [.hp 2 0], .fn 36 [] []], .own (api_Field.c v19.1), .own (api_Field.c v21.1), .own (api_Field.c v33.1), .own (api_Field.c v35.1)] ?_
            refine .cd hr (fun hb46 hr => ?_) (fun hb46 hr => ?_)
            ·refine .seq <| .ru fine <| .ret <| unF.ret ?_
             obtain rfl := oi hr
             exact FinQ.r1 [aB false]
            ·refine .skip <| .pop <| .ru fine <| UNR.next <| .n2 78 [(3, .hp 0 0), (4, .hp 1 0), (7, .hp 3 0), (8, .hp 4 0), (39, .hs 5 0 6 1), (40, aI64 6), (41, aI64 2)] [.own (api_Field.c f), .own (api_Field.c g), .fix [aU8 n'.e0, aU8 n'.e1], .own (api_Field.c v15), .own (api_Field.c v17), .own [.fn 27 [] [.hp 2 0], .fn 29 [] [], .fn 31 [] [.hp 2 0], .fn 33 [] [.hp 2 0], .fn 34 [] [.hp 2 0], .fn 36 [] []], .own (api_Field.c v19.1), .own (api_Field.c v21.1), .own (api_Field.c v33.1), .own (api_Field.c v35.1)] <| .seq <| .r4 fine [3, 4, 7, 8, 39, 40, 41] [(42, aB true)] <| .seq <| .cT (by kernel_rfl) <| .skip <| .seq <| .block <| .seq <| .r4 fine [3, 4, 7, 8, 39, 40, 41] [(10, .fn 31 [] [.hp 2 0])] <| .seq ?_
             obtain ⟨v47, hc48, hr⟩ := bd hr
             refine .g1 fine (callOk_ref (args := [.agg (api_Field.c f), .agg (api_Field.c g), .hp 2 0]) (l := [2]) (SnL.cons (Sn.pure rfl) (SnL.cons (Sn.pure rfl) (SnL.cons (Sn.hp rfl (.inr rfl) (SnC.cons (Sn.pure rfl) (SnC.cons (Sn.pure rfl) SnC.nil))) SnL.nil))) (fiduciallaw46_DepthFlips_3_ok n f g n'.e0 n'.e1 v47 hc48)) <| .mu 3 <| .ca cf0 <| .mu 6 <| .done <| .nh [3, 4, 7, 8, 10, 11, 12, 39, 40, 41] [.own (api_Field.c f), .own (api_Field.c g), .fix [aU8 n'.e0, aU8 n'.e1], .own (api_Field.c v15), .own (api_Field.c v17), .own [.fn 27 [] [.hp 2 0], .fn 29 [] [], .fn 31 [] [.hp 2 0], .fn 33 [] [.hp 2 0], .fn 34 [] [.hp 2 0], .fn 36 [] []], .own (api_Field.c v19.1), .own (api_Field.c v21.1), .own (api_Field.c v33.1), .own (api_Field.c v35.1), .own (api_Field.c v47.1)] <| .seq ?_
             obtain ⟨v49, hc50, hr⟩ := bd hr
             refine .g1 fine (callOk_ref (args := [.agg (api_Field.c v15), .agg (api_Field.c v17), .hp 2 0]) (l := [2]) (SnL.cons (Sn.pure rfl) (SnL.cons (Sn.pure rfl) (SnL.cons (Sn.hp rfl (.inr rfl) (SnC.cons (Sn.pure rfl) (SnC.cons (Sn.pure rfl) SnC.nil))) SnL.nil))) (fiduciallaw46_DepthFlips_3_ok n v15 v17 n'.e0 n'.e1 v49 hc50)) <| .mu 3 <| .ca cf0 <| .mu 6 <| .done <| .nh [3, 4, 7, 8, 11, 12, 13, 14, 39, 40, 41] [.own (api_Field.c f), .own (api_Field.c g), .fix [aU8 n'.e0, aU8 n'.e1], .own (api_Field.c v15), .own (api_Field.c v17), .own [.fn 27 [] [.hp 2 0], .fn 29 [] [], .fn 31 [] [.hp 2 0], .fn 33 [] [.hp 2 0], .fn 34 [] [.hp 2 0], .fn 36 [] []], .own (api_Field.c v19.1), .own (api_Field.c v21.1), .own (api_Field.c v33.1), .own (api_Field.c v35.1), .own (api_Field.c v47.1), .own (api_Field.c v49.1)] <| .seq ?_
             rcases Bool.eq_false_or_eq_true ((v47.2 : Int) != 0) with hb51 | hb51
             ·replace hr := cd_t hb51 hr
              refine .regionT fine callOf_nil <| .mu 1 <| .pure (v := aB true) (by kernel_rfl) (eB hb51) (by kernel_rfl) <| .mu 16 ?_
              refine .done ⟨by kernel_rfl, ?_⟩
              refine .nh [3, 4, 7, 8, 39, 40, 41, 76] [.own (api_Field.c f), .own (api_Field.c g), .fix [aU8 n'.e0, aU8 n'.e1], .own (api_Field.c v15), .own (api_Field.c v17), .own [.fn 27 [] [.hp 2 0], .fn 29 [] [], .fn 31 [] [.hp 2 0], .fn 33 [] [.hp 2 0], .fn 34 [] [.hp 2 0], .fn 36 [] []], .own (api_Field.c v19.1), .own (api_Field.c v21.1), .own (api_Field.c v33.1), .own (api_Field.c v35.1), .own (api_Field.c v47.1), .own (api_Field.c v49.1)] <| .cT (by kernel_rfl) <| .seq <| .ru fine <| .ret <| unF.ret ?_
              obtain rfl := oi hr
              exact FinQ.r1 [aB false]
             ·replace hr := cd_f hb51 hr
              rcases Bool.eq_false_or_eq_true ((v49.2 : Int) != 0) with hb52 | hb52
              ·replace hr := cd_t hb52 hr
               refine .regionT fine callOf_nil <| .mu 1 <| .pure (v := aB false) (by kernel_rfl) (eB hb51) (by kernel_rfl) <| .mu 2 <| .pure (v := aB true) (by kernel_rfl) (eB hb52) (by kernel_rfl) <| .mu 13 ?_
               refine .done ⟨by kernel_rfl, ?_⟩
               refine .nh [3, 4, 7, 8, 39, 40, 41, 76] [.own (api_Field.c f), .own (api_Field.c g), .fix [aU8 n'.e0, aU8 n'.e1], .own (api_Field.c v15), .own (api_Field.c v17), .own [.fn 27 [] [.hp 2 0], .fn 29 [] [], .fn 31 [] [.hp 2 0], .fn 33 [] [.hp 2 0], .fn 34 [] [.hp 2 0], .fn 36 [] []], .own (api_Field.c v19.1), .own (api_Field.c v21.1), .own (api_Field.c v33.1), .own (api_Field.c v35.1), .own (api_Field.c v47.1), .own (api_Field.c v49.1)] <| .cT (by kernel_rfl) <| .seq <| .ru fine <| .ret <| unF.ret ?_
               obtain rfl := oi hr
               exact FinQ.r1 [aB false]
              ·replace hr := cd_f hb52 hr
               obtain ⟨v53, hc54, hr⟩ := bd hr
               rcases Bool.eq_false_or_eq_true (!v53) with hb55 | hb55
               ·replace hr := cd_t hb55 hr
                refine .t1 fine (ok0 (fiduciallaw46_Valid_ok n v47.1 v53 hc54)) <| .mu 1 <| .pure (v := aB false) (by kernel_rfl) (eB hb51) (by kernel_rfl) <| .mu 2 <| .pure (v := aB false) (by kernel_rfl) (eB hb52) (by kernel_rfl) <| .mu 3 <| .ca cf0 <| .pure (v := aB true) (by kernel_rfl) (eB hb55) (by kernel_rfl) <| .mu 8 ?_
                refine .done ⟨by kernel_rfl, ?_⟩
                refine .nh [3, 4, 7, 8, 39, 40, 41, 76] [.own (api_Field.c f), .own (api_Field.c g), .fix [aU8 n'.e0, aU8 n'.e1], .own (api_Field.c v15), .own (api_Field.c v17), .own [.fn 27 [] [.hp 2 0], .fn 29 [] [], .fn 31 [] [.hp 2 0], .fn 33 [] [.hp 2 0], .fn 34 [] [.hp 2 0], .fn 36 [] []], .own (api_Field.c v19.1), .own (api_Field.c v21.1), .own (api_Field.c v33.1), .own (api_Field.c v35.1), .own (api_Field.c v47.1), .own (api_Field.c v49.1)] <| .cT (by kernel_rfl) <| .seq <| .ru fine <| .ret <| unF.ret ?_
                obtain rfl := oi hr
                exact FinQ.r1 [aB false]
               ·replace hr := cd_f hb55 hr
                obtain ⟨v56, hc57, v58, hc59, hr⟩ := bd2 hr
                refine .tn fine (ca1 (ok0 (fiduciallaw46_Valid_ok n v47.1 v53 hc54)) (ca1 (ok0 (fiduciallaw46_Flipped_ok n v47.1 v56 hc57)) (ca3 (ok0 (fiduciallaw46_Same_ok n v56 v49.1 v58 hc59))))) <| .mu 1 <| .pure (v := aB false) (by kernel_rfl) (eB hb51) (by kernel_rfl) <| .mu 2 <| .pure (v := aB false) (by kernel_rfl) (eB hb52) (by kernel_rfl) <| .mu 3 <| .ca cf0 <| .pure (v := aB false) (by kernel_rfl) (eB hb55) (by kernel_rfl) <| .mu 3 <| .ca (cfF cf0) <| .mu 1 <| .ca (cfF (cfF cf0)) <| .mu 2 ?_
                refine .done ⟨by kernel_rfl, ?_⟩
                refine .nh [3, 4, 7, 8, 39, 40, 41, 76] [.own (api_Field.c f), .own (api_Field.c g), .fix [aU8 n'.e0, aU8 n'.e1], .own (api_Field.c v15), .own (api_Field.c v17), .own [.fn 27 [] [.hp 2 0], .fn 29 [] [], .fn 31 [] [.hp 2 0], .fn 33 [] [.hp 2 0], .fn 34 [] [.hp 2 0], .fn 36 [] []], .own (api_Field.c v19.1), .own (api_Field.c v21.1), .own (api_Field.c v33.1), .own (api_Field.c v35.1), .own (api_Field.c v47.1), .own (api_Field.c v49.1)] ?_
                refine .cd hr (fun hb60 hr => ?_) (fun hb60 hr => ?_)
                ·refine .seq <| .ru fine <| .ret <| unF.ret ?_
                 obtain rfl := oi hr
                 exact FinQ.r1 [aB false]
                ·refine .skip <| .pop <| .ru fine <| UNR.next <| .n2 78 [(3, .hp 0 0), (4, .hp 1 0), (7, .hp 3 0), (8, .hp 4 0), (39, .hs 5 0 6 1), (40, aI64 6), (41, aI64 3)] [.own (api_Field.c f), .own (api_Field.c g), .fix [aU8 n'.e0, aU8 n'.e1], .own (api_Field.c v15), .own (api_Field.c v17), .own [.fn 27 [] [.hp 2 0], .fn 29 [] [], .fn 31 [] [.hp 2 0], .fn 33 [] [.hp 2 0], .fn 34 [] [.hp 2 0], .fn 36 [] []], .own (api_Field.c v19.1), .own (api_Field.c v21.1), .own (api_Field.c v33.1), .own (api_Field.c v35.1), .own (api_Field.c v47.1), .own (api_Field.c v49.1)] <| .seq <| .r4 fine [3, 4, 7, 8, 39, 40, 41] [(42, aB true)] <| .seq <| .cT (by kernel_rfl) <| .skip <| .seq <| .block <| .seq <| .r4 fine [3, 4, 7, 8, 39, 40, 41] [(10, .fn 33 [] [.hp 2 0])] <| .seq ?_
                 obtain ⟨v61, hc62, hr⟩ := bd hr
                 refine .g1 fine (callOk_ref (args := [.agg (api_Field.c f), .agg (api_Field.c g), .hp 2 0]) (l := [2]) (SnL.cons (Sn.pure rfl) (SnL.cons (Sn.pure rfl) (SnL.cons (Sn.hp rfl (.inr rfl) (SnC.cons (Sn.pure rfl) (SnC.cons (Sn.pure rfl) SnC.nil))) SnL.nil))) (fiduciallaw46_DepthFlips_4_ok n f g n'.e0 n'.e1 v61 hc62)) <| .mu 3 <| .ca cf0 <| .mu 6 <| .done <| .nh [3, 4, 7, 8, 10, 11, 12, 39, 40, 41] [.own (api_Field.c f), .own (api_Field.c g), .fix [aU8 n'.e0, aU8 n'.e1], .own (api_Field.c v15), .own (api_Field.c v17), .own [.fn 27 [] [.hp 2 0], .fn 29 [] [], .fn 31 [] [.hp 2 0], .fn 33 [] [.hp 2 0], .fn 34 [] [.hp 2 0], .fn 36 [] []], .own (api_Field.c v19.1), .own (api_Field.c v21.1), .own (api_Field.c v33.1), .own (api_Field.c v35.1), .own (api_Field.c v47.1), .own (api_Field.c v49.1), .own (api_Field.c v61.1)] <| .seq ?_
                 obtain ⟨v63, hc64, hr⟩ := bd hr
                 refine .g1 fine (callOk_ref (args := [.agg (api_Field.c v15), .agg (api_Field.c v17), .hp 2 0]) (l := [2]) (SnL.cons (Sn.pure rfl) (SnL.cons (Sn.pure rfl) (SnL.cons (Sn.hp rfl (.inr rfl) (SnC.cons (Sn.pure rfl) (SnC.cons (Sn.pure rfl) SnC.nil))) SnL.nil))) (fiduciallaw46_DepthFlips_4_ok n v15 v17 n'.e0 n'.e1 v63 hc64)) <| .mu 3 <| .ca cf0 <| .mu 6 <| .done <| .nh [3, 4, 7, 8, 11, 12, 13, 14, 39, 40, 41] [.own (api_Field.c f), .own (api_Field.c g), .fix [aU8 n'.e0, aU8 n'.e1], .own (api_Field.c v15), .own (api_Field.c v17), .own [.fn 27 [] [.hp 2 0], .fn 29 [] [], .fn 31 [] [.hp 2 0], .fn 33 [] [.hp 2 0], .fn 34 [] [.hp 2 0], .fn 36 [] []], .own (api_Field.c v19.1), .own (api_Field.c v21.1), .own (api_Field.c v33.1), .own (api_Field.c v35.1), .own (api_Field.c v47.1), .own (api_Field.c v49.1), .own (api_Field.c v61.1), .own (api_Field.c v63.1)] <| .seq ?_
                 rcases Bool.eq_false_or_eq_true ((v61.2 : Int) != 0) with hb65 | hb65
                 ·replace hr := cd_t hb65 hr
                  refine .regionT fine callOf_nil <| .mu 1 <| .pure (v := aB true) (by kernel_rfl) (eB hb65) (by kernel_rfl) <| .mu 16 ?_
                  refine .done ⟨by kernel_rfl, ?_⟩
                  refine .nh [3, 4, 7, 8, 39, 40, 41, 76] [.own (api_Field.c f), .own (api_Field.c g), .fix [aU8 n'.e0, aU8 n'.e1], .own (api_Field.c v15), .own (api_Field.c v17), .own [.fn 27 [] [.hp 2 0], .fn 29 [] [], .fn 31 [] [.hp 2 0], .fn 33 [] [.hp 2 0], .fn 34 [] [.hp 2 0], .fn 36 [] []], .own (api_Field.c v19.1), .own (api_Field.c v21.1), .own (api_Field.c v33.1), .own (api_Field.c v35.1), .own (api_Field.c v47.1), .own (api_Field.c v49.1), .own (api_Field.c v61.1), .own (api_Field.c v63.1)] <| .cT (by kernel_rfl) <| .seq <| .ru fine <| .ret <| unF.ret ?_
                  obtain rfl := oi hr
                  exact FinQ.r1 [aB false]
                 ·replace hr := cd_f hb65 hr
                  rcases Bool.eq_false_or_eq_true ((v63.2 : Int) != 0) with hb66 | hb66
                  ·replace hr := cd_t hb66 hr
                   refine .regionT fine callOf_nil <| .mu 1 <| .pure (v := aB false) (by kernel_rfl) (eB hb65) (by kernel_rfl) <| .mu 2 <| .pure (v := aB true) (by kernel_rfl) (eB hb66) (by kernel_rfl) <| .mu 13 ?_
                   refine .done ⟨by kernel_rfl, ?_⟩
                   refine .nh [3, 4, 7, 8, 39, 40, 41, 76] [.own (api_Field.c f), .own (api_Field.c g), .fix [aU8 n'.e0, aU8 n'.e1], .own (api_Field.c v15), .own (api_Field.c v17), .own [.fn 27 [] [.hp 2 0], .fn 29 [] [], .fn 31 [] [.hp 2 0], .fn 33 [] [.hp 2 0], .fn 34 [] [.hp 2 0], .fn 36 [] []], .own (api_Field.c v19.1), .own (api_Field.c v21.1), .own (api_Field.c v33.1), .own (api_Field.c v35.1), .own (api_Field.c v47.1), .own (api_Field.c v49.1), .own (api_Field.c v61.1), .own (api_Field.c v63.1)] <| .cT (by kernel_rfl) <| .seq <| .ru fine <| .ret <| unF.ret ?_
                   obtain rfl := oi hr
                   exact FinQ.r1 [aB false]
                  ·replace hr := cd_f hb66 hr
                   obtain ⟨v67, hc68, hr⟩ := bd hr
                   rcases Bool.eq_false_or_eq_true (!v67) with hb69 | hb69
                   ·replace hr := cd_t hb69 hr
                    refine .t1 fine (ok0 (fiduciallaw46_Valid_ok n v61.1 v67 hc68)) <| .mu 1 <| .pure (v := aB false) (by kernel_rfl) (eB hb65) (by kernel_rfl) <| .mu 2 <| .pure (v := aB false) (by kernel_rfl) (eB hb66) (by kernel_rfl) <| .mu 3 <| .ca cf0 <| .pure (v := aB true) (by kernel_rfl) (eB hb69) (by kernel_rfl) <| .mu 8 ?_
                    refine .done ⟨by kernel_rfl, ?_⟩
                    refine .nh [3, 4, 7, 8, 39, 40, 41, 76] [.own (api_Field.c f), .own (api_Field.c g), .fix [aU8 n'.e0, aU8 n'.e1], .own (api_Field.c v15), .own (api_Field.c v17), .own [.fn 27 [] [.hp 2 0], .fn 29 [] [], .fn 31 [] [.hp 2 0], .fn 33 [] [.hp 2 0], .fn 34 [] [.hp 2 0], .fn 36 [] []], .own (api_Field.c v19.1), .own (api_Field.c v21.1), .own (api_Field.c v33.1), .own (api_Field.c v35.1), .own (api_Field.c v47.1), .own (api_Field.c v49.1), .own (api_Field.c v61.1), .own (api_Field.c v63.1)] <| .cT (by kernel_rfl) <| .seq <| .ru fine <| .ret <| unF.ret ?_
                    obtain rfl := oi hr
                    exact FinQ.r1 [aB false]
                   ·replace hr := cd_f hb69 hr
                    obtain ⟨v70, hc71, v72, hc73, hr⟩ := bd2 hr
                    refine .tn fine (ca1 (ok0 (fiduciallaw46_Valid_ok n v61.1 v67 hc68)) (ca1 (ok0 (fiduciallaw46_Flipped_ok n v61.1 v70 hc71)) (ca3 (ok0 (fiduciallaw46_Same_ok n v70 v63.1 v72 hc73))))) <| .mu 1 <| .pure (v := aB false) (by kernel_rfl) (eB hb65) (by kernel_rfl) <| .mu 2 <| .pure (v := aB false) (by kernel_rfl) (eB hb66) (by kernel_rfl) <| .mu 3 <| .ca cf0 <| .pure (v := aB false) (by kernel_rfl) (eB hb69) (by kernel_rfl) <| .mu 3 <| .ca (cfF cf0) <| .mu 1 <| .ca (cfF (cfF cf0)) <| .mu 2 ?_
                    refine .done ⟨by kernel_rfl, ?_⟩
                    refine .nh [3, 4, 7, 8, 39, 40, 41, 76] [.own (api_Field.c f), .own (api_Field.c g), .fix [aU8 n'.e0, aU8 n'.e1], .own (api_Field.c v15), .own (api_Field.c v17), .own [.fn 27 [] [.hp 2 0], .fn 29 [] [], .fn 31 [] [.hp 2 0], .fn 33 [] [.hp 2 0], .fn 34 [] [.hp 2 0], .fn 36 [] []], .own (api_Field.c v19.1), .own (api_Field.c v21.1), .own (api_Field.c v33.1), .own (api_Field.c v35.1), .own (api_Field.c v47.1), .own (api_Field.c v49.1), .own (api_Field.c v61.1), .own (api_Field.c v63.1)] ?_
                    refine .cd hr (fun hb74 hr => ?_) (fun hb74 hr => ?_)
                    ·refine .seq <| .ru fine <| .ret <| unF.ret ?_
                     obtain rfl := oi hr
                     exact FinQ.r1 [aB false]
                    ·refine .skip <| .pop <| .ru fine <| UNR.next <| .n2 78 [(3, .hp 0 0), (4, .hp 1 0), (7, .hp 3 0), (8, .hp 4 0), (39, .hs 5 0 6 1), (40, aI64 6), (41, aI64 4)] [.own (api_Field.c f), .own (api_Field.c g), .fix [aU8 n'.e0, aU8 n'.e1], .own (api_Field.c v15), .own (api_Field.c v17), .own [.fn 27 [] [.hp 2 0], .fn 29 [] [], .fn 31 [] [.hp 2 0], .fn 33 [] [.hp 2 0], .fn 34 [] [.hp 2 0], .fn 36 [] []], .own (api_Field.c v19.1), .own (api_Field.c v21.1), .own (api_Field.c v33.1), .own (api_Field.c v35.1), .own (api_Field.c v47.1), .own (api_Field.c v49.1), .own (api_Field.c v61.1), .own (api_Field.c v63.1)] <| .seq <| .r4 fine [3, 4, 7, 8, 39, 40, 41] [(42, aB true)] <| .seq <| .cT (by kernel_rfl) <| .skip <| .seq <| .block <| .seq <| .r4 fine [3, 4, 7, 8, 39, 40, 41] [(10, .fn 34 [] [.hp 2 0])] <| .seq ?_
                     obtain ⟨v75, hc76, hr⟩ := bd hr
                     refine .g1 fine (callOk_ref (args := [.agg (api_Field.c f), .agg (api_Field.c g), .hp 2 0]) (l := [2]) (SnL.cons (Sn.pure rfl) (SnL.cons (Sn.pure rfl) (SnL.cons (Sn.hp rfl (.inr rfl) (SnC.cons (Sn.pure rfl) (SnC.cons (Sn.pure rfl) SnC.nil))) SnL.nil))) (fiduciallaw46_DepthFlips_5_ok n f g n'.e0 n'.e1 v75 hc76)) <| .mu 3 <| .ca cf0 <| .mu 6 <| .done <| .nh [3, 4, 7, 8, 10, 11, 12, 39, 40, 41] [.own (api_Field.c f), .own (api_Field.c g), .fix [aU8 n'.e0, aU8 n'.e1], .own (api_Field.c v15), .own (api_Field.c v17), .own [.fn 27 [] [.hp 2 0], .fn 29 [] [], .fn 31 [] [.hp 2 0], .fn 33 [] [.hp 2 0], .fn 34 [] [.hp 2 0], .fn 36 [] []], .own (api_Field.c v19.1), .own (api_Field.c v21.1), .own (api_Field.c v33.1), .own (api_Field.c v35.1), .own (api_Field.c v47.1), .own (api_Field.c v49.1), .own (api_Field.c v61.1), .own (api_Field.c v63.1), .own (api_Field.c v75.1)] <| .seq ?_
                     obtain ⟨v77, hc78, hr⟩ := bd hr
                     refine .g1 fine (callOk_ref (args := [.agg (api_Field.c v15), .agg (api_Field.c v17), .hp 2 0]) (l := [2]) (SnL.cons (Sn.pure rfl) (SnL.cons (Sn.pure rfl) (SnL.cons (Sn.hp rfl (.inr rfl) (SnC.cons (Sn.pure rfl) (SnC.cons (Sn.pure rfl) SnC.nil))) SnL.nil))) (fiduciallaw46_DepthFlips_5_ok n v15 v17 n'.e0 n'.e1 v77 hc78)) <| .mu 3 <| .ca cf0 <| .mu 6 <| .done <| .nh [3, 4, 7, 8, 11, 12, 13, 14, 39, 40, 41] [.own (api_Field.c f), .own (api_Field.c g), .fix [aU8 n'.e0, aU8 n'.e1], .own (api_Field.c v15), .own (api_Field.c v17), .own [.fn 27 [] [.hp 2 0], .fn 29 [] [], .fn 31 [] [.hp 2 0], .fn 33 [] [.hp 2 0], .fn 34 [] [.hp 2 0], .fn 36 [] []], .own (api_Field.c v19.1), .own (api_Field.c v21.1), .own (api_Field.c v33.1), .own (api_Field.c v35.1), .own (api_Field.c v47.1), .own (api_Field.c v49.1), .own (api_Field.c v61.1), .own (api_Field.c v63.1), .own (api_Field.c v75.1), .own (api_Field.c v77.1)] <| .seq ?_
                     rcases Bool.eq_false_or_eq_true ((v75.2 : Int) != 0) with hb79 | hb79
                     ·replace hr := cd_t hb79 hr
                      refine .regionT fine callOf_nil <| .mu 1 <| .pure (v := aB true) (by kernel_rfl) (eB hb79) (by kernel_rfl) <| .mu 16 ?_
                      refine .done ⟨by kernel_rfl, ?_⟩
                      refine .nh [3, 4, 7, 8, 39, 40, 41, 76] [.own (api_Field.c f), .own (api_Field.c g), .fix [aU8 n'.e0, aU8 n'.e1], .own (api_Field.c v15), .own (api_Field.c v17), .own [.fn 27 [] [.hp 2 0], .fn 29 [] [], .fn 31 [] [.hp 2 0], .fn 33 [] [.hp 2 0], .fn 34 [] [.hp 2 0], .fn 36 [] []], .own (api_Field.c v19.1), .own (api_Field.c v21.1), .own (api_Field.c v33.1), .own (api_Field.c v35.1), .own (api_Field.c v47.1), .own (api_Field.c v49.1), .own (api_Field.c v61.1), .own (api_Field.c v63.1), .own (api_Field.c v75.1), .own (api_Field.c v77.1)] <| .cT (by kernel_rfl) <| .seq <| .ru fine <| .ret <| unF.ret ?_
                      obtain rfl := oi hr
                      exact FinQ.r1 [aB false]
                     ·replace hr := cd_f hb79 hr
                      rcases Bool.eq_false_or_eq_true ((v77.2 : Int) != 0) with hb80 | hb80
                      ·replace hr := cd_t hb80 hr
                       refine .regionT fine callOf_nil <| .mu 1 <| .pure (v := aB false) (by kernel_rfl) (eB hb79) (by kernel_rfl) <| .mu 2 <| .pure (v := aB true) (by kernel_rfl) (eB hb80) (by kernel_rfl) <| .mu 13 ?_
                       refine .done ⟨by kernel_rfl, ?_⟩
                       refine .nh [3, 4, 7, 8, 39, 40, 41, 76] [.own (api_Field.c f), .own (api_Field.c g), .fix [aU8 n'.e0, aU8 n'.e1], .own (api_Field.c v15), .own (api_Field.c v17), .own [.fn 27 [] [.hp 2 0], .fn 29 [] [], .fn 31 [] [.hp 2 0], .fn 33 [] [.hp 2 0], .fn 34 [] [.hp 2 0], .fn 36 [] []], .own (api_Field.c v19.1), .own (api_Field.c v21.1), .own (api_Field.c v33.1), .own (api_Field.c v35.1), .own (api_Field.c v47.1), .own (api_Field.c v49.1), .own (api_Field.c v61.1), .own (api_Field.c v63.1), .own (api_Field.c v75.1), .own (api_Field.c v77.1)] <| .cT (by kernel_rfl) <| .seq <| .ru fine <| .ret <| unF.ret ?_
                       obtain rfl := oi hr
                       exact FinQ.r1 [aB false]
                      ·replace hr := cd_f hb80 hr
                       obtain ⟨v81, hc82, hr⟩ := bd hr
                       rcases Bool.eq_false_or_eq_true (!v81) with hb83 | hb83
                       ·replace hr := cd_t hb83 hr
                        refine .t1 fine (ok0 (fiduciallaw46_Valid_ok n v75.1 v81 hc82)) <| .mu 1 <| .pure (v := aB false) (by kernel_rfl) (eB hb79) (by kernel_rfl) <| .mu 2 <| .pure (v := aB false) (by kernel_rfl) (eB hb80) (by kernel_rfl) <| .mu 3 <| .ca cf0 <| .pure (v := aB true) (by kernel_rfl) (eB hb83) (by kernel_rfl) <| .mu 8 ?_
                        refine .done ⟨by kernel_rfl, ?_⟩
                        refine .nh [3, 4, 7, 8, 39, 40, 41, 76] [.own (api_Field.c f), .own (api_Field.c g), .fix [aU8 n'.e0, aU8 n'.e1], .own (api_Field.c v15), .own (api_Field.c v17), .own [.fn 27 [] [.hp 2 0], .fn 29 [] [], .fn 31 [] [.hp 2 0], .fn 33 [] [.hp 2 0], .fn 34 [] [.hp 2 0], .fn 36 [] []], .own (api_Field.c v19.1), .own (api_Field.c v21.1), .own (api_Field.c v33.1), .own (api_Field.c v35.1), .own (api_Field.c v47.1), .own (api_Field.c v49.1), .own (api_Field.c v61.1), .own (api_Field.c v63.1), .own (api_Field.c v75.1), .own (api_Field.c v77.1)] <| .cT (by kernel_rfl) <| .seq <| .ru fine <| .ret <| unF.ret ?_
                        obtain rfl := oi hr
                        exact FinQ.r1 [aB false]
                       ·replace hr := cd_f hb83 hr
                        obtain ⟨v84, hc85, v86, hc87, hr⟩ := bd2 hr
                        refine .tn fine (ca1 (ok0 (fiduciallaw46_Valid_ok n v75.1 v81 hc82)) (ca1 (ok0 (fiduciallaw46_Flipped_ok n v75.1 v84 hc85)) (ca3 (ok0 (fiduciallaw46_Same_ok n v84 v77.1 v86 hc87))))) <| .mu 1 <| .pure (v := aB false) (by kernel_rfl) (eB hb79) (by kernel_rfl) <| .mu 2 <| .pure (v := aB false) (by kernel_rfl) (eB hb80) (by kernel_rfl) <| .mu 3 <| .ca cf0 <| .pure (v := aB false) (by kernel_rfl) (eB hb83) (by kernel_rfl) <| .mu 3 <| .ca (cfF cf0) <| .mu 1 <| .ca (cfF (cfF cf0)) <| .mu 2 ?_
                        refine .done ⟨by kernel_rfl, ?_⟩
                        refine .nh [3, 4, 7, 8, 39, 40, 41, 76] [.own (api_Field.c f), .own (api_Field.c g), .fix [aU8 n'.e0, aU8 n'.e1], .own (api_Field.c v15), .own (api_Field.c v17), .own [.fn 27 [] [.hp 2 0], .fn 29 [] [], .fn 31 [] [.hp 2 0], .fn 33 [] [.hp 2 0], .fn 34 [] [.hp 2 0], .fn 36 [] []], .own (api_Field.c v19.1), .own (api_Field.c v21.1), .own (api_Field.c v33.1), .own (api_Field.c v35.1), .own (api_Field.c v47.1), .own (api_Field.c v49.1), .own (api_Field.c v61.1), .own (api_Field.c v63.1), .own (api_Field.c v75.1), .own (api_Field.c v77.1)] ?_
                        refine .cd hr (fun hb88 hr => ?_) (fun hb88 hr => ?_)
                        ·refine .seq <| .ru fine <| .ret <| unF.ret ?_
                         obtain rfl := oi hr
                         exact FinQ.r1 [aB false]
                        ·refine .skip <| .pop <| .ru fine <| UNR.next <| .n2 78 [(3, .hp 0 0), (4, .hp 1 0), (7, .hp 3 0), (8, .hp 4 0), (39, .hs 5 0 6 1), (40, aI64 6), (41, aI64 5)] [.own (api_Field.c f), .own (api_Field.c g), .fix [aU8 n'.e0, aU8 n'.e1], .own (api_Field.c v15), .own (api_Field.c v17), .own [.fn 27 [] [.hp 2 0], .fn 29 [] [], .fn 31 [] [.hp 2 0], .fn 33 [] [.hp 2 0], .fn 34 [] [.hp 2 0], .fn 36 [] []], .own (api_Field.c v19.1), .own (api_Field.c v21.1), .own (api_Field.c v33.1), .own (api_Field.c v35.1), .own (api_Field.c v47.1), .own (api_Field.c v49.1), .own (api_Field.c v61.1), .own (api_Field.c v63.1), .own (api_Field.c v75.1), .own (api_Field.c v77.1)] <| .seq <| .r4 fine [3, 4, 7, 8, 39, 40, 41] [(42, aB true)] <| .seq <| .cT (by kernel_rfl) <| .skip <| .seq <| .block <| .seq <| .r4 fine [3, 4, 7, 8, 39, 40, 41] [(10, .fn 36 [] [])] <| .seq ?_
                         obtain ⟨v89, hc90, hr⟩ := bd hr
                         refine .g1 fine (ok0 (fiduciallaw46_DepthFlips_6_ok n f g v89 hc90)) <| .mu 3 <| .ca cf0 <| .mu 6 <| .done <| .nh [3, 4, 7, 8, 10, 11, 12, 39, 40, 41] [.own (api_Field.c f), .own (api_Field.c g), .fix [aU8 n'.e0, aU8 n'.e1], .own (api_Field.c v15), .own (api_Field.c v17), .own [.fn 27 [] [.hp 2 0], .fn 29 [] [], .fn 31 [] [.hp 2 0], .fn 33 [] [.hp 2 0], .fn 34 [] [.hp 2 0], .fn 36 [] []], .own (api_Field.c v19.1), .own (api_Field.c v21.1), .own (api_Field.c v33.1), .own (api_Field.c v35.1), .own (api_Field.c v47.1), .own (api_Field.c v49.1), .own (api_Field.c v61.1), .own (api_Field.c v63.1), .own (api_Field.c v75.1), .own (api_Field.c v77.1), .own (api_Field.c v89.1)] <| .seq ?_
                         obtain ⟨v91, hc92, hr⟩ := bd hr
                         refine .g1 fine (ok0 (fiduciallaw46_DepthFlips_6_ok n v15 v17 v91 hc92)) <| .mu 3 <| .ca cf0 <| .mu 6 <| .done <| .nh [3, 4, 7, 8, 11, 12, 13, 14, 39, 40, 41] [.own (api_Field.c f), .own (api_Field.c g), .fix [aU8 n'.e0, aU8 n'.e1], .own (api_Field.c v15), .own (api_Field.c v17), .own [.fn 27 [] [.hp 2 0], .fn 29 [] [], .fn 31 [] [.hp 2 0], .fn 33 [] [.hp 2 0], .fn 34 [] [.hp 2 0], .fn 36 [] []], .own (api_Field.c v19.1), .own (api_Field.c v21.1), .own (api_Field.c v33.1), .own (api_Field.c v35.1), .own (api_Field.c v47.1), .own (api_Field.c v49.1), .own (api_Field.c v61.1), .own (api_Field.c v63.1), .own (api_Field.c v75.1), .own (api_Field.c v77.1), .own (api_Field.c v89.1), .own (api_Field.c v91.1)] <| .seq ?_
                         rcases Bool.eq_false_or_eq_true ((v89.2 : Int) != 0) with hb93 | hb93
                         ·replace hr := cd_t hb93 hr
                          refine .regionT fine callOf_nil <| .mu 1 <| .pure (v := aB true) (by kernel_rfl) (eB hb93) (by kernel_rfl) <| .mu 16 ?_
                          refine .done ⟨by kernel_rfl, ?_⟩
                          refine .nh [3, 4, 7, 8, 39, 40, 41, 76] [.own (api_Field.c f), .own (api_Field.c g), .fix [aU8 n'.e0, aU8 n'.e1], .own (api_Field.c v15), .own (api_Field.c v17), .own [.fn 27 [] [.hp 2 0], .fn 29 [] [], .fn 31 [] [.hp 2 0], .fn 33 [] [.hp 2 0], .fn 34 [] [.hp 2 0], .fn 36 [] []], .own (api_Field.c v19.1), .own (api_Field.c v21.1), .own (api_Field.c v33.1), .own (api_Field.c v35.1), .own (api_Field.c v47.1), .own (api_Field.c v49.1), .own (api_Field.c v61.1), .own (api_Field.c v63.1), .own (api_Field.c v75.1), .own (api_Field.c v77.1), .own (api_Field.c v89.1), .own (api_Field.c v91.1)] <| .cT (by kernel_rfl) <| .seq <| .ru fine <| .ret <| unF.ret ?_
                          obtain rfl := oi hr
                          exact FinQ.r1 [aB false]
                         ·replace hr := cd_f hb93 hr
                          rcases Bool.eq_false_or_eq_true ((v91.2 : Int) != 0) with hb94 | hb94
                          ·replace hr := cd_t hb94 hr
                           refine .regionT fine callOf_nil <| .mu 1 <| .pure (v := aB false) (by kernel_rfl) (eB hb93) (by kernel_rfl) <| .mu 2 <| .pure (v := aB true) (by kernel_rfl) (eB hb94) (by kernel_rfl) <| .mu 13 ?_
                           refine .done ⟨by kernel_rfl, ?_⟩
                           refine .nh [3, 4, 7, 8, 39, 40, 41, 76] [.own (api_Field.c f), .own (api_Field.c g), .fix [aU8 n'.e0, aU8 n'.e1], .own (api_Field.c v15), .own (api_Field.c v17), .own [.fn 27 [] [.hp 2 0], .fn 29 [] [], .fn 31 [] [.hp 2 0], .fn 33 [] [.hp 2 0], .fn 34 [] [.hp 2 0], .fn 36 [] []], .own (api_Field.c v19.1), .own (api_Field.c v21.1), .own (api_Field.c v33.1), .own (api_Field.c v35.1), .own (api_Field.c v47.1), .own (api_Field.c v49.1), .own (api_Field.c v61.1), .own (api_Field.c v63.1), .own (api_Field.c v75.1), .own (api_Field.c v77.1), .own (api_Field.c v89.1), .own (api_Field.c v91.1)] <| .cT (by kernel_rfl) <| .seq <| .ru fine <| .ret <| unF.ret ?_
                           obtain rfl := oi hr
                           exact FinQ.r1 [aB false]
                          ·replace hr := cd_f hb94 hr
                           obtain ⟨v95, hc96, hr⟩ := bd hr
                           rcases Bool.eq_false_or_eq_true (!v95) with hb97 | hb97
                           ·replace hr := cd_t hb97 hr
                            refine .t1 fine (ok0 (fiduciallaw46_Valid_ok n v89.1 v95 hc96)) <| .mu 1 <| .pure (v := aB false) (by kernel_rfl) (eB hb93) (by kernel_rfl) <| .mu 2 <| .pure (v := aB false) (by kernel_rfl) (eB hb94) (by kernel_rfl) <| .mu 3 <| .ca cf0 <| .pure (v := aB true) (by kernel_rfl) (eB hb97) (by kernel_rfl) <| .mu 8 ?_
                            refine .done ⟨by kernel_rfl, ?_⟩
                            refine .nh [3, 4, 7, 8, 39, 40, 41, 76] [.own (api_Field.c f), .own (api_Field.c g), .fix [aU8 n'.e0, aU8 n'.e1], .own (api_Field.c v15), .own (api_Field.c v17), .own [.fn 27 [] [.hp 2 0], .fn 29 [] [], .fn 31 [] [.hp 2 0], .fn 33 [] [.hp 2 0], .fn 34 [] [.hp 2 0], .fn 36 [] []], .own (api_Field.c v19.1), .own (api_Field.c v21.1), .own (api_Field.c v33.1), .own (api_Field.c v35.1), .own (api_Field.c v47.1), .own (api_Field.c v49.1), .own (api_Field.c v61.1), .own (api_Field.c v63.1), .own (api_Field.c v75.1), .own (api_Field.c v77.1), .own (api_Field.c v89.1), .own (api_Field.c v91.1)] <| .cT (by kernel_rfl) <| .seq <| .ru fine <| .ret <| unF.ret ?_
                            obtain rfl := oi hr
                            exact FinQ.r1 [aB false]
                           ·replace hr := cd_f hb97 hr
                            obtain ⟨v98, hc99, v100, hc101, hr⟩ := bd2 hr
                            refine .tn fine (ca1 (ok0 (fiduciallaw46_Valid_ok n v89.1 v95 hc96)) (ca1 (ok0 (fiduciallaw46_Flipped_ok n v89.1 v98 hc99)) (ca3 (ok0 (fiduciallaw46_Same_ok n v98 v91.1 v100 hc101))))) <| .mu 1 <| .pure (v := aB false) (by kernel_rfl) (eB hb93) (by kernel_rfl) <| .mu 2 <| .pure (v := aB false) (by kernel_rfl) (eB hb94) (by kernel_rfl) <| .mu 3 <| .ca cf0 <| .pure (v := aB false) (by kernel_rfl) (eB hb97) (by kernel_rfl) <| .mu 3 <| .ca (cfF cf0) <| .mu 1 <| .ca (cfF (cfF cf0)) <| .mu 2 ?_
                            refine .done ⟨by kernel_rfl, ?_⟩
                            refine .nh [3, 4, 7, 8, 39, 40, 41, 76] [.own (api_Field.c f), .own (api_Field.c g), .fix [aU8 n'.e0, aU8 n'.e1], .own (api_Field.c v15), .own (api_Field.c v17), .own [.fn 27 [] [.hp 2 0], .fn 29 [] [], .fn 31 [] [.hp 2 0], .fn 33 [] [.hp 2 0], .fn 34 [] [.hp 2 0], .fn 36 [] []], .own (api_Field.c v19.1), .own (api_Field.c v21.1), .own (api_Field.c v33.1), .own (api_Field.c v35.1), .own (api_Field.c v47.1), .own (api_Field.c v49.1), .own (api_Field.c v61.1), .own (api_Field.c v63.1), .own (api_Field.c v75.1), .own (api_Field.c v77.1), .own (api_Field.c v89.1), .own (api_Field.c v91.1)] ?_
                            refine .cd hr (fun hb102 hr => ?_) (fun hb102 hr => ?_)
                            ·refine .seq <| .ru fine <| .ret <| unF.ret ?_
                             obtain rfl := oi hr
                             exact FinQ.r1 [aB false]
                            ·refine .skip <| .pop <| .ru fine <| UNR.next <| .n2 78 [(3, .hp 0 0), (4, .hp 1 0), (7, .hp 3 0), (8, .hp 4 0), (39, .hs 5 0 6 1), (40, aI64 6), (41, aI64 6)] [.own (api_Field.c f), .own (api_Field.c g), .fix [aU8 n'.e0, aU8 n'.e1], .own (api_Field.c v15), .own (api_Field.c v17), .own [.fn 27 [] [.hp 2 0], .fn 29 [] [], .fn 31 [] [.hp 2 0], .fn 33 [] [.hp 2 0], .fn 34 [] [.hp 2 0], .fn 36 [] []], .own (api_Field.c v19.1), .own (api_Field.c v21.1), .own (api_Field.c v33.1), .own (api_Field.c v35.1), .own (api_Field.c v47.1), .own (api_Field.c v49.1), .own (api_Field.c v61.1), .own (api_Field.c v63.1), .own (api_Field.c v75.1), .own (api_Field.c v77.1), .own (api_Field.c v89.1), .own (api_Field.c v91.1)] <| .seq <| .r4 fine [3, 4, 7, 8, 39, 40, 41] [(42, aB false)] <| .seq <| .cF (by kernel_rfl) <| .leave rfl <| unF.exit rfl <| .seq <| .ru fine <| .ret ?_
                             obtain rfl := oi hr
                             exact FinQ.r1 [aB true]
end Go.L
