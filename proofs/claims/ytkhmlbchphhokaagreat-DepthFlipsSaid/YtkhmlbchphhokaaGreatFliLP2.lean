/- The program's functions compute what the plain Lean programs compute, part 2; printed by a program. -/
import Derived.Test.YtkhmlbchphhokaaGreatFliLP1
import Derived.Test.YtkhmlbchphhokaaGreatL0iblbgfpm
import Derived.Test.YtkhmlbchphhokaaGreatSmallgikpmiii
import Derived.Test.YtkhmlbchphhokaaGreatSortbkcbaoca
import Derived.Test.YtkhmlbchphhokaaGreatChecked
import Derived.KernelRfl
set_option linter.all false
set_option maxRecDepth 100000
set_option maxHeartbeats 4000000
namespace Go.L
open Go Go.Eng Go.Proofs
theorem depth_Depths_ok (n : Nat) (f : api_Field) (focal : Int) (base : Int) (r : api_Field × Int) (hr : depth_Depths n f focal base = some r) : FnOk Tryz.prog 32 [.agg (api_Field.c f), aI64 focal, aI64 base] (.tup [.agg (api_Field.c r.1), aI64 r.2]) := by
 unfold depth_Depths at hr
 refine FnOk.bd fine Tryz.func32 [.cell 6 39, .tmp 7] ?_
 unfold Tryz.f32
 simp only [Option.getD_some]
 refine .seq <| .r5 fine [1, 2] [(3, .hp 0 0), (6, .hp 1 0)] [.own (api_Field.c f), .own [aI64 0, aI64 0, nS]] <| .seq <| .seq ?_
 obtain ⟨v1, hc2, hr⟩ := bd hr
 refine .g1 fine (ok0 (depth_Check_ok n f v1 hc2)) <| .mu 1 <| .ca cf0 <| .mu 1 <| .done <| .nh [1, 2, 3, 6, 20] [.own (api_Field.c f), .own [aI64 0, aI64 0, nS]] ?_
 refine .cd hr (fun hb4 hr => ?_) (fun hb4 hr => ?_)
 ·refine .seq <| .r4 fine [6] [(7, aI64 1)] <| .ret ?_
  obtain rfl := oi hr
  exact FinQ.ret (vs := [.agg [aI64 0, aI64 0, nS], aI64 1]) (by kernel_rfl) (Sn.tup (SnL.cons (Sn.agg (SnL.cons (Sn.pure rfl) (SnL.cons (Sn.pure rfl) (SnL.cons Sn.nilsl SnL.nil)))) (SnL.cons (Sn.pure rfl) SnL.nil)))
 ·refine .skip <| .seq <| .seq ?_
  obtain ⟨v5, hc6, hr⟩ := bd hr
  refine .g1 fine (ok0 (depth_optics_ok n focal base v5 hc6)) <| .mu 2 <| .ca cf0 <| .mu 1 <| .done <| .nh [1, 2, 3, 6, 8] [.own (api_Field.c f), .own [aI64 0, aI64 0, nS]] <| .seq <| .r4 fine [1, 2, 3, 6, 8] [(26, aB ((v5 : Int) != 0))] ?_
  refine .cd hr (fun hb8 hr => ?_) (fun hb8 hr => ?_)
  ·refine .seq <| .r4 fine [6] [(7, aI64 v5)] <| .ret ?_
   obtain rfl := oi hr
   exact FinQ.ret (vs := [.agg [aI64 0, aI64 0, nS], aI64 v5]) (by kernel_rfl) (Sn.tup (SnL.cons (Sn.agg (SnL.cons (Sn.pure rfl) (SnL.cons (Sn.pure rfl) (SnL.cons Sn.nilsl SnL.nil)))) (SnL.cons (Sn.pure rfl) SnL.nil)))
  ·refine .skip <| .seq ?_
   obtain ⟨v9, hc10, hr⟩ := bd hr
   refine .g1 fine (callOk_mutU (args := [.agg (api_Field.c f)]) 0 1 [] [false] (depth_blank_w_ok n f v9 hc10) trivial (by exact ⟨ids_flat (iC_pure _) _, trivial⟩) rfl rfl (by kernel_rfl) (by kernel_rfl)) <| .mu 1 <| .ca cf0 <| .mu 2 <| .done <| .nh [1, 2, 3, 6, 9] [.own (api_Field.c f), .own [aI64 0, aI64 0, nS], .own (v9.2.2.flatMap (iC .i64)), .own [aI64 v9.1, aI64 v9.2.1, .hs 2 0 v9.2.2.length 1]] <| .seq ?_
   obtain ⟨v11, hc12, hr⟩ := bd hr
   refine .g1 fine (ok0 (fraction_Of_ok n 1 2 v11 hc12)) <| .ca cf0 <| .mu 6 <| .done <| .nh [1, 2, 3, 6, 9, 10] [.own (api_Field.c f), .own [aI64 0, aI64 0, nS], .own (v9.2.2.flatMap (iC .i64)), .own [aI64 v9.1, aI64 v9.2.1, .hs 2 0 v9.2.2.length 1], .own (api_Rat.c v11.1)] <| .seq <| .seq <| .r4 fine [1, 2, 6, 9, 10] [(36, sI64 f.V), (37, aI64 (f.V.length : Int)), (38, aI64 0)] <| .block ?_
   replace hr := bd hr; obtain ⟨out_29, hL46, hr⟩ := hr
   refine .loopO (σ := fun z0 => match z0 with | (out_13, x_14) => ⟨mkS 70 0 [(1, aI64 focal), (2, aI64 base), (6, .hp 0 0), (9, .hp 1 0), (10, .hp 3 0), (36, sI64 f.V), (37, aI64 (f.V.length : Int)), (38, aI64 x_14)], [.own [aI64 0, aI64 0, nS], .own [aI64 v9.1, aI64 v9.2.1, .hs 2 0 out_13.length 1], .own (out_13.flatMap (iC .i64)), .own (api_Rat.c v11.1)]⟩) (Q := fun x st' => x = .exit 0 ∧ Wk 0 st' ⟨mkS 70 0 [(6, .hp 0 0), (9, .hp 1 0)], [.own [aI64 0, aI64 0, nS], .own [aI64 v9.1, aI64 v9.2.1, .hs 2 0 out_29.length 1], .own (out_29.flatMap (iC .i64))]⟩) hL46 ((Wk.gc [1, 2, 6, 9, 10, 36, 37, 38] [(1, true), (3, true), (2, false), (4, true)] rfl (pKt (pKt (pKo (iC .i64) (iC_pure _) v9.2.2 trivial)))).to (by kernel_rfl)) ?_ ?_
   ·clear hr
    rintro m ⟨out_13, x_14⟩ hr
    show CQ _ _ _ _ _ ⟨_, _⟩
    refine .seq <| .r4 fine [1, 2, 6, 9, 10, 36, 37, 38] [(39, aB (decide (x_14 < (f.V.length : Int))))] <| .seq ?_
    refine .cd hr (fun hb32 hr => ?_) (fun hb32 hr => ?_)
    ·refine .skip <| .seq <| .block <| .seq ?_
     obtain ⟨hg33, hr⟩ := gd hr
     refine .r0 fine <| .mu 1 <| .p0 (v := .pp (f.V.flatMap (iC .i64)) (x_14.toNat * 1)) (tr (ofP_guard hg33)) <| .p0 (v := aI64 (gt f.V x_14)) (tr (ofP_some (flat_get (iC_len .i64) (inR_lt hg33) (by decide : 0 < 1) (by omega : x_14.toNat * 1 = x_14.toNat * 1 + 0) (by kernel_rfl)))) <| .mu 2 <| .done <| .nh [1, 2, 6, 9, 10, 12, 13, 36, 37, 38] [.own [aI64 0, aI64 0, nS], .own [aI64 v9.1, aI64 v9.2.1, .hs 2 0 out_13.length 1], .own (out_13.flatMap (iC .i64)), .own (api_Rat.c v11.1)] <| .seq <| .seq <| .r4 fine [1, 2, 6, 9, 10, 12, 13, 36, 37, 38] [(44, aB (decide ((gt f.V x_14) < 1)))] ?_
     refine .cd hr (fun hb35 hr => ?_) (fun hb35 hr => ?_)
     ·refine .exit rfl <| .ru fine ?_
      exact loopF_back (out_13, wrapF .i64 (x_14 + 1)) hr ((Wk.gc [1, 2, 6, 9, 10, 36, 37, 38] [(0, true), (1, true), (2, false), (3, true)] rfl (pKt (pKt (pKo (iC .i64) (iC_pure _) out_13 trivial)))).to (by kernel_rfl))
     ·refine .skip <| .seq ?_
      obtain ⟨v36, hc37, hr⟩ := bd hr
      refine .g1 fine (ok0 (fraction_Of_ok n (wrapF .i64 (focal * base)) (wrapF .i64 (64 * (gt f.V x_14))) v36 hc37)) <| .mu 5 <| .ca cf0 <| .mu 6 <| .done <| .nh [1, 2, 6, 9, 10, 12, 14, 36, 37, 38] [.own [aI64 0, aI64 0, nS], .own [aI64 v9.1, aI64 v9.2.1, .hs 2 0 out_13.length 1], .own (out_13.flatMap (iC .i64)), .own (api_Rat.c v11.1), .own (api_Rat.c v36.1)] <| .seq ?_
      obtain ⟨v38, hc39, v40, hc41, v42, hc43, hr⟩ := bd3 hr
      refine .gn fine (ca1 (ok0 (fraction_Add_ok n v36.1 v11.1 v38 hc39)) (ca1 (ok0 (fraction_Floor_ok n v38 v40 hc41)) (ca3 (ok0 (integer_Small_ok n v40 v42 hc43))))) <| .mu 2 <| .ca cf0 <| .ca (cfF cf0) <| .ca (cfF (cfF cf0)) <| .mu 5 <| .done <| .nh [1, 2, 6, 9, 10, 12, 16, 36, 37, 38] [.own [aI64 0, aI64 0, nS], .own [aI64 v9.1, aI64 v9.2.1, .hs 2 0 out_13.length 1], .own (out_13.flatMap (iC .i64)), .own (api_Rat.c v11.1), .own (api_Rat.c v36.1)] ?_
      obtain ⟨hg44, hr⟩ := gd hr
      refine .r0 fine <| .mu 5 <| .p0 (v := .hp 2 (0 + x_14.toNat * 1)) (tr (ofP_guard hg44)) <| .e0 (v := .unk) (ws := [(2, .own ((out_13.set x_14.toNat (mn v42.1 1048576)).flatMap (iC .i64)))]) (tr (stO_t (and_t (flat_fits (n := 1) (iC_len .i64) (inR_lt hg44) (Nat.le_of_ble_eq_true rfl) (by omega : 0 + x_14.toNat * 1 = x_14.toNat * 1 + 0))) (congrArg Blk.own (flat_set (xs := [aI64 (mn v42.1 1048576)]) (iC_len .i64) (inR_lt hg44) (Nat.le_of_ble_eq_true rfl) (by omega : 0 + x_14.toNat * 1 = x_14.toNat * 1 + 0) (by kernel_rfl))))) <| .done <| .pop <| .ru fine ?_
      exact loopF_back (out_13.set x_14.toNat (mn v42.1 1048576), wrapF .i64 (x_14 + 1)) hr ((Wk.recell 1 2 (b := 2) (es := 1) (len := out_13.length) (cs := [aI64 v9.1, aI64 v9.2.1, .hs 2 0 out_13.length 1]) (out_13.set x_14.toNat (mn v42.1 1048576)).length (by kernel_rfl) (by kernel_rfl) (by simp)).trans ((Wk.gc [1, 2, 6, 9, 10, 36, 37, 38] [(0, true), (1, true), (2, false), (3, true)] rfl (pKt (pKt (pKo (iC .i64) (iC_pure _) (out_13.set x_14.toNat (mn v42.1 1048576)) trivial)))).to (by kernel_rfl)))
    ·refine .leave rfl ?_
     obtain rfl := oi hr
     exact ⟨rfl, ((Wk.gc [6, 9] [(0, true), (1, true), (2, false)] rfl (pKt (pKt (pKo (iC .i64) (iC_pure _) out_13 trivial)))).to (by kernel_rfl))⟩
   ·rintro x st' hq47
    clear hL46
    obtain ⟨rfl, hq47⟩ := hq47
    refine CQ_exit _ rfl <| .wk hq47 <| .seq <| .r5 fine [6] [(7, aI64 0)] [.own [aI64 v9.1, aI64 v9.2.1, .hs 2 0 out_29.length 1], .own [aI64 v9.1, aI64 v9.2.1, .hs 2 0 out_29.length 1], .own (out_29.flatMap (iC .i64))] <| .ret ?_
    obtain rfl := oi hr
    exact FinQ.ret (vs := [.agg [aI64 v9.1, aI64 v9.2.1, .hs 2 0 out_29.length 1], aI64 0]) (by kernel_rfl) (Sn.tup (SnL.cons (Sn.agg (SnL.cons (Sn.pure rfl) (SnL.cons (Sn.pure rfl) (SnL.cons (Sn.hs rfl (.inl rfl) (SnC.pure (ids_flat (iC_pure _) _)) (fun h => flat_nil0 h)) SnL.nil)))) (SnL.cons (Sn.pure rfl) SnL.nil)))

theorem depth_Interval_ok (n : Nat) (focal : Int) (base : Int) (d : Int) (r : api_Range × Int) (hr : depth_Interval n focal base d = some r) : FnOk Tryz.prog 52 [aI64 focal, aI64 base, aI64 d] (.tup [.agg (api_Range.c r.1), aI64 r.2]) := by
 unfold depth_Interval at hr
 refine FnOk.bd fine Tryz.func52 [.cell 6 76, .tmp 7] ?_
 unfold Tryz.f52
 simp only [Option.getD_some]
 refine .seq <| .r5 fine [0, 1, 2] [(6, .hp 0 0)] [.own [aB false, nS, aB false, nS, aB false, nS, aB false, nS]] <| .seq <| .seq ?_
 obtain ⟨v1, hc2, hr⟩ := bd hr
 refine .g1 fine (ok0 (depth_optics_ok n focal base v1 hc2)) <| .mu 2 <| .ca cf0 <| .mu 1 <| .done <| .nh [0, 1, 2, 6, 8] [.own [aB false, nS, aB false, nS, aB false, nS, aB false, nS]] <| .seq <| .r4 fine [0, 1, 2, 6, 8] [(17, aB ((v1 : Int) != 0))] ?_
 refine .cd hr (fun hb4 hr => ?_) (fun hb4 hr => ?_)
 ·refine .seq <| .r4 fine [6] [(7, aI64 v1)] <| .ret ?_
  obtain rfl := oi hr
  exact FinQ.ret (vs := [.agg [aB false, nS, aB false, nS, aB false, nS, aB false, nS], aI64 v1]) (by kernel_rfl) (Sn.tup (SnL.cons (Sn.agg (SnL.cons (Sn.pure rfl) (SnL.cons Sn.nilsl (SnL.cons (Sn.pure rfl) (SnL.cons Sn.nilsl (SnL.cons (Sn.pure rfl) (SnL.cons Sn.nilsl (SnL.cons (Sn.pure rfl) (SnL.cons Sn.nilsl SnL.nil))))))))) (SnL.cons (Sn.pure rfl) SnL.nil)))
 ·refine .skip <| .seq <| .seq ?_
  rcases Bool.eq_false_or_eq_true (decide (d < 1)) with hb5 | hb5
  ·replace hr := cd_t hb5 hr
   refine .r0 fine <| .mu 1 <| .p0 (v := aB true) (eB hb5) <| .mu 4 <| .done <| .nh [0, 1, 2, 6, 25] [.own [aB false, nS, aB false, nS, aB false, nS, aB false, nS]] <| .cT (by kernel_rfl) <| .seq <| .r4 fine [6] [(7, aI64 15)] <| .ret ?_
   obtain rfl := oi hr
   exact FinQ.ret (vs := [.agg [aB false, nS, aB false, nS, aB false, nS, aB false, nS], aI64 15]) (by kernel_rfl) (Sn.tup (SnL.cons (Sn.agg (SnL.cons (Sn.pure rfl) (SnL.cons Sn.nilsl (SnL.cons (Sn.pure rfl) (SnL.cons Sn.nilsl (SnL.cons (Sn.pure rfl) (SnL.cons Sn.nilsl (SnL.cons (Sn.pure rfl) (SnL.cons Sn.nilsl SnL.nil))))))))) (SnL.cons (Sn.pure rfl) SnL.nil)))
  ·replace hr := cd_f hb5 hr
   refine .r0 fine <| .mu 1 <| .p0 (v := aB false) (eB hb5) <| .mu 4 <| .done <| .nh [0, 1, 2, 6, 25] [.own [aB false, nS, aB false, nS, aB false, nS, aB false, nS]] ?_
   refine .cd hr (fun hb7 hr => ?_) (fun hb7 hr => ?_)
   ·refine .seq <| .r4 fine [6] [(7, aI64 15)] <| .ret ?_
    obtain rfl := oi hr
    exact FinQ.ret (vs := [.agg [aB false, nS, aB false, nS, aB false, nS, aB false, nS], aI64 15]) (by kernel_rfl) (Sn.tup (SnL.cons (Sn.agg (SnL.cons (Sn.pure rfl) (SnL.cons Sn.nilsl (SnL.cons (Sn.pure rfl) (SnL.cons Sn.nilsl (SnL.cons (Sn.pure rfl) (SnL.cons Sn.nilsl (SnL.cons (Sn.pure rfl) (SnL.cons Sn.nilsl SnL.nil))))))))) (SnL.cons (Sn.pure rfl) SnL.nil)))
   ·refine .skip <| .seq ?_
    obtain ⟨v8, hc9, hr⟩ := bd hr
    refine .g1 fine (ok0 (fraction_Of_ok n (wrapF .i64 (focal * base)) (wrapF .i64 (32 * (wrapF .i64 ((wrapF .i64 (2 * d)) + 1)))) v8 hc9)) <| .mu 7 <| .ca cf0 <| .mu 6 <| .done <| .nh [0, 1, 2, 6, 9] [.own [aB false, nS, aB false, nS, aB false, nS, aB false, nS], .own (api_Rat.c v8.1)] <| .seq ?_
    obtain ⟨v10, hc11, hr⟩ := bd hr
    refine .g1 fine (ok0 (fraction_Of_ok n (wrapF .i64 (focal * base)) (wrapF .i64 (32 * (wrapF .i64 ((wrapF .i64 (2 * d)) - 1)))) v10 hc11)) <| .mu 7 <| .ca cf0 <| .mu 6 <| .done <| .nh [6, 9, 11] [.own [aB false, nS, aB false, nS, aB false, nS, aB false, nS], .own (api_Rat.c v8.1), .own (api_Rat.c v10.1)] <| .seq <| .r5 fine [6] [(7, aI64 0)] [.own [aB v8.1.Num.Negative, sU32 v8.1.Num.Groups, aB v8.1.Den.Negative, sU32 v8.1.Den.Groups, aB v10.1.Num.Negative, sU32 v10.1.Num.Groups, aB v10.1.Den.Negative, sU32 v10.1.Den.Groups], .own (api_Rat.c v8.1), .own (api_Rat.c v10.1)] <| .ret ?_
    obtain rfl := oi hr
    exact FinQ.ret (vs := [.agg [aB v8.1.Num.Negative, sU32 v8.1.Num.Groups, aB v8.1.Den.Negative, sU32 v8.1.Den.Groups, aB v10.1.Num.Negative, sU32 v10.1.Num.Groups, aB v10.1.Den.Negative, sU32 v10.1.Den.Groups], aI64 0]) (by kernel_rfl) (Sn.tup (SnL.cons (Sn.pure rfl) (SnL.cons (Sn.pure rfl) SnL.nil)))

theorem slices_Equal_int_int_ok (n : Nat) (s1 : List Int) (s2 : List Int) (r : Bool) (hr : slices_Equal_int_int n s1 s2 = some r) : FnOk Tryz.prog 12 [sI64 s1, sI64 s2] (aB r) := by
 unfold slices_Equal_int_int at hr
 refine FnOk.bd fine Tryz.func12 [.tmp 4] ?_
 unfold Tryz.f12
 simp only [Option.getD_some]
 refine .seq <| .r4 fine [0, 1] [] <| .seq <| .seq <| .r4 fine [0, 1] [(10, aB (((s1.length : Int) : Int) != (s2.length : Int)))] ?_
 refine .cd hr (fun hb1 hr => ?_) (fun hb1 hr => ?_)
 ·refine .seq <| .ru fine <| .ret ?_
  obtain rfl := oi hr
  exact FinQ.r1 [aB false]
 ·refine .skip <| .seq <| .seq <| .r4 fine [0, 1] [(12, aI64 (s1.length : Int)), (13, aI64 0)] <| .block ?_
  replace hr := bd hr; obtain ⟨o12, hL13, hr⟩ := hr
  refine .loopO (σ := fun z0 => match z0 with | x_2 => ⟨mkS 26 0 [(0, sI64 s1), (1, sI64 s2), (12, aI64 (s1.length : Int)), (13, aI64 x_2)], []⟩) (Q := fun x st' => match (generalizing := false) o12 with | .inl _ => x = .exit 0 ∧ Wk 0 st' ⟨mkS 26 0 [], []⟩ | .inr (r0) => x = .ret ∧ FinQ Tryz.prog [.tmp 4] (aB r0) .ret st') hL13 ((Wk.gc [0, 1, 12, 13] [] rfl pK0).to (by kernel_rfl)) ?_ ?_
  ·clear hr
   rintro m x_2 hr
   show CQ _ _ _ _ _ ⟨_, _⟩
   refine .seq <| .r4 fine [0, 1, 12, 13] [(14, aB (decide (x_2 < (s1.length : Int))))] <| .seq ?_
   refine .cd hr (fun hb8 hr => ?_) (fun hb8 hr => ?_)
   ·refine .skip <| .seq <| .block <| .seq <| .r4 fine [0, 1, 12, 13] [(5, aI64 x_2)] <| .seq ?_
    obtain ⟨hg9, hg10, hr⟩ := gd2 hr
    refine .regionT fine callOf_nil <| .mu 2 <| .pure (v := .pp (s1.flatMap (iC .i64)) (x_2.toNat * 1)) (by kernel_rfl) (tr (ofP_guard hg9)) (by kernel_rfl) <| .pure (v := aI64 (gt s1 x_2)) (by kernel_rfl) (tr (ofP_some (flat_get (iC_len .i64) (inR_lt hg9) (by decide : 0 < 1) (by omega : x_2.toNat * 1 = x_2.toNat * 1 + 0) (by kernel_rfl)))) (by kernel_rfl) <| .mu 2 <| .pure (v := .pp (s2.flatMap (iC .i64)) (x_2.toNat * 1)) (by kernel_rfl) (tr (ofP_guard hg10)) (by kernel_rfl) <| .pure (v := aI64 (gt s2 x_2)) (by kernel_rfl) (tr (ofP_some (flat_get (iC_len .i64) (inR_lt hg10) (by decide : 0 < 1) (by omega : x_2.toNat * 1 = x_2.toNat * 1 + 0) (by kernel_rfl)))) (by kernel_rfl) <| .mu 1 ?_
    refine .done ⟨by kernel_rfl, ?_⟩
    refine .nh [0, 1, 12, 13, 24] [] ?_
    refine .cd hr (fun hb11 hr => ?_) (fun hb11 hr => ?_)
    ·refine .seq <| .ru fine <| .ret ?_
     obtain rfl := oi hr
     exact ⟨rfl, FinQ.ret (vs := [aB false]) (by kernel_rfl) (Sn.pure rfl)⟩
    ·refine .skip <| .pop <| .ru fine ?_
     exact loopF_back (wrapF .i64 (x_2 + 1)) hr ((Wk.gc [0, 1, 12, 13] [] rfl pK0).to (by kernel_rfl))
   ·refine .leave rfl ?_
    obtain rfl := oi hr
    exact ⟨rfl, ((Wk.gc [] [] rfl pK0).to (by kernel_rfl))⟩
  ·rcases o12 with ⟨⟩ | r0
   ·rintro x st' hq14
    clear hL13
    obtain ⟨rfl, hq14⟩ := hq14
    refine CQ_exit _ rfl <| .wk hq14 <| .seq <| .ru fine <| .ret ?_
    obtain rfl := oi hr
    exact FinQ.r1 [aB true]
   ·rintro x st' hq14
    clear hL13
    obtain ⟨rfl, hq14⟩ := hq14
    obtain rfl := oi hr
    exact CQ_ret _ hq14

theorem fiduciallaw46_Same_ok (n : Nat) (a : api_Field) (b : api_Field) (r : Bool) (hr : fiduciallaw46_Same n a b = some r) : FnOk Tryz.prog 20 [.agg (api_Field.c a), .agg (api_Field.c b)] (aB r) := by
 unfold fiduciallaw46_Same at hr
 refine FnOk.bd fine Tryz.func20 [.tmp 4] ?_
 unfold Tryz.f20
 simp only [Option.getD_some]
 refine .seq <| .r2 fine 24 [(2, .hp 0 0), (3, .hp 1 0)] [.own (api_Field.c a), .own (api_Field.c b)] <| .seq ?_
 rcases Bool.eq_false_or_eq_true ((a.Width : Int) == b.Width) with hb1 | hb1
 ·replace hr := cd_t hb1 hr
  rcases Bool.eq_false_or_eq_true ((a.Height : Int) == b.Height) with hb2 | hb2
  ·replace hr := cd_t hb2 hr
   obtain ⟨v3, hc4, hr⟩ := bd hr
   refine .g1 fine (ok0 (slices_Equal_int_int_ok n a.V b.V v3 hc4)) <| .mu 4 <| .p0 (v := aB true) (eB hb1) <| .mu 5 <| .pure (v := aB true) (by kernel_rfl) (eB hb2) <| .mu 6 <| .ca cf0 <| .mu 2 <| .done <| .ret ?_
   obtain rfl := oi hr
   exact FinQ.r1 [aB v3]
  ·replace hr := cd_f hb2 hr
   refine .r0 fine <| .mu 4 <| .p0 (v := aB true) (eB hb1) <| .mu 5 <| .pure (v := aB false) (by kernel_rfl) (eB hb2) <| .mu 9 <| .done <| .ret ?_
   obtain rfl := oi hr
   exact FinQ.r1 [aB false]
 ·replace hr := cd_f hb1 hr
  refine .r0 fine <| .mu 4 <| .p0 (v := aB false) (eB hb1) <| .mu 15 <| .done <| .ret ?_
  obtain rfl := oi hr
  exact FinQ.r1 [aB false]

theorem fiducialref01_made_ok (n : Nat) (negative : Bool) (l : List Int) (r : api_Int) (hr : fiducialref01_made n negative l = some r) : FnOk Tryz.prog 190 [aB negative, sU32 l] (.agg (api_Int.c r)) := by
 unfold fiducialref01_made at hr
 refine FnOk.bd fine Tryz.func190 [.cell 4 72] ?_
 unfold Tryz.f190
 simp only [Option.getD_some]
 refine .seq <| .r5 fine [0, 1] [(4, .hp 0 0)] [.own [aB false, nS]] <| .seq <| .r4 fine [0, 1, 4] [(5, aI64 (l.length : Int))] <| .seq <| .block ?_
 replace hr := bd hr; obtain ⟨n_5, hL11, hr⟩ := hr
 refine .loopO (σ := fun z0 => match z0 with | n_1 => ⟨mkS 31 0 [(0, aB negative), (1, sU32 l), (4, .hp 0 0), (5, aI64 n_1)], [.own [aB false, nS]]⟩) (Q := fun x st' => x = .exit 0 ∧ Wk 0 st' ⟨mkS 31 0 [(0, aB negative), (1, sU32 l), (4, .hp 0 0), (5, aI64 n_5)], [.own [aB false, nS]]⟩) hL11 ((Wk.gc [0, 1, 4, 5] [(0, true)] rfl trivial).to (by kernel_rfl)) ?_ ?_
 ·clear hr
  rintro m n_1 hr
  show CQ _ _ _ _ _ ⟨_, _⟩
  refine .seq <| .seq ?_
  rcases Bool.eq_false_or_eq_true (decide (n_1 > 0)) with hb7 | hb7
  ·replace hr := cd_t hb7 hr
   obtain ⟨hg8, hr⟩ := gd hr
   refine .r0 fine <| .mu 1 <| .p0 (v := aB true) (eB hb7) <| .mu 4 <| .pure (v := .pp (l.flatMap (iC .u32)) ((wrapF .i64 (n_1 - 1)).toNat * 1)) (by kernel_rfl) (tr (ofP_guard hg8)) <| .pure (v := aU32 (gt l (wrapF .i64 (n_1 - 1)))) (by kernel_rfl) (tr (ofP_some (flat_get (iC_len .u32) (inR_lt hg8) (by decide : 0 < 1) (by omega : (wrapF .i64 (n_1 - 1)).toNat * 1 = (wrapF .i64 (n_1 - 1)).toNat * 1 + 0) (by kernel_rfl)))) <| .mu 2 <| .done <| .nh [0, 1, 4, 5, 17] [.own [aB false, nS]] ?_
   refine .cd hr (fun hb9 hr => ?_) (fun hb9 hr => ?_)
   ·refine .skip <| .block <| .ru fine <| .pop ?_
    exact loopF_back (wrapF .i64 (n_1 - 1)) hr ((Wk.gc [0, 1, 4, 5] [(0, true)] rfl trivial).to (by kernel_rfl))
   ·refine .leave rfl ?_
    obtain rfl := oi hr
    exact ⟨rfl, ((Wk.gc [0, 1, 4, 5] [(0, true)] rfl trivial).to (by kernel_rfl))⟩
  ·replace hr := cd_f hb7 hr
   refine .r0 fine <| .mu 1 <| .p0 (v := aB false) (eB hb7) <| .mu 8 <| .done <| .nh [0, 1, 4, 5, 17] [.own [aB false, nS]] <| .cF (by kernel_rfl) <| .leave rfl ?_
   obtain rfl := oi hr
   exact ⟨rfl, ((Wk.gc [0, 1, 4, 5] [(0, true)] rfl trivial).to (by kernel_rfl))⟩
 ·rintro x st' hq12
  clear hL11
  obtain ⟨rfl, hq12⟩ := hq12
  refine CQ_exit _ rfl <| .wk hq12 <| .seq ?_
  rcases Bool.eq_false_or_eq_true negative with hb13 | hb13
  ·replace hr := cd_t hb13 hr
   obtain ⟨hg14, hg15, hg16, hr⟩ := gd3 hr
   refine .r0 fine <| .p0 (v := aB true) (eB hb13) <| .mu 7 <| .p0 (v := sU32 ((l.drop (0 : Int).toNat).take (n_5.toNat - (0 : Int).toNat))) (Eq.trans (b := slO (inS 0 n_5 l.length) (0 : Int).toNat n_5.toNat (fun z1 z2 => .sl true (((l.flatMap (iC .u32)).drop (z1 * 1)).take ((z2 - z1) * 1)) (z2 - z1))) (by kernel_rfl) (slO_t hg14 (sub_sl (iC_len _) (inS_le hg14)))) <| .e0 (v := .hs 2 0 ((l.drop (0 : Int).toNat).take (n_5.toNat - (0 : Int).toNat)).length 1) (ws := [(1, .dead), (2, .own (((l.drop (0 : Int).toNat).take (n_5.toNat - (0 : Int).toNat)).flatMap (iC .u32)))]) (Eq.trans (b := appS (decide (((((l.drop (0 : Int).toNat).take (n_5.toNat - (0 : Int).toNat)).flatMap (iC .u32))).length = ((l.drop (0 : Int).toNat).take (n_5.toNat - (0 : Int).toNat)).length * 1)) (((l.drop (0 : Int).toNat).take (n_5.toNat - (0 : Int).toNat)).flatMap (iC .u32)) ((l.drop (0 : Int).toNat).take (n_5.toNat - (0 : Int).toNat)).length (fun z1 z2 => guardO (decide (0 + 0 * 1 ≤ (([] : List Int).flatMap (iC .u32)).length) && decide ((0 + z2) * 4 ≤ 140737488355328) && decide (0 + z2 ≤ 4611686018427387904)) (some (.eff (.hs 2 0 (0 + z2) 1) [(1, .dead), (2, .own (((([] : List Int).flatMap (iC .u32)).drop 0).take (0 * 1) ++ z1))])))) (by kernel_rfl) (appS_t (flat_lenB (iC_len _)) rfl (app_own (l := ([] : List Int)) (xs := (l.drop (0 : Int).toNat).take (n_5.toNat - (0 : Int).toNat)) (iC_len _) rfl rfl rfl hg15 hg16))) <| .mu 2 <| .done <| .nh [4] [.own [aB (decide (n_5 > 0)), .hs 2 0 ((l.drop (0 : Int).toNat).take (n_5.toNat - (0 : Int).toNat)).length 1], .dead, .own (((l.drop (0 : Int).toNat).take (n_5.toNat - (0 : Int).toNat)).flatMap (iC .u32))] <| .ret ?_
   obtain rfl := oi hr
   exact FinQ.ret (vs := [.agg [aB (decide (n_5 > 0)), .hs 2 0 ((l.drop (0 : Int).toNat).take (n_5.toNat - (0 : Int).toNat)).length 1]]) (by kernel_rfl) (Sn.agg (SnL.cons (Sn.pure rfl) (SnL.cons (Sn.hs rfl (.inl rfl) (SnC.pure (ids_flat (iC_pure _) _)) (fun h => flat_nil0 h)) SnL.nil)))
  ·replace hr := cd_f hb13 hr
   obtain ⟨hg17, hg18, hg19, hr⟩ := gd3 hr
   refine .r0 fine <| .p0 (v := aB false) (eB hb13) <| .mu 7 <| .p0 (v := sU32 ((l.drop (0 : Int).toNat).take (n_5.toNat - (0 : Int).toNat))) (Eq.trans (b := slO (inS 0 n_5 l.length) (0 : Int).toNat n_5.toNat (fun z1 z2 => .sl true (((l.flatMap (iC .u32)).drop (z1 * 1)).take ((z2 - z1) * 1)) (z2 - z1))) (by kernel_rfl) (slO_t hg17 (sub_sl (iC_len _) (inS_le hg17)))) <| .e0 (v := .hs 2 0 ((l.drop (0 : Int).toNat).take (n_5.toNat - (0 : Int).toNat)).length 1) (ws := [(1, .dead), (2, .own (((l.drop (0 : Int).toNat).take (n_5.toNat - (0 : Int).toNat)).flatMap (iC .u32)))]) (Eq.trans (b := appS (decide (((((l.drop (0 : Int).toNat).take (n_5.toNat - (0 : Int).toNat)).flatMap (iC .u32))).length = ((l.drop (0 : Int).toNat).take (n_5.toNat - (0 : Int).toNat)).length * 1)) (((l.drop (0 : Int).toNat).take (n_5.toNat - (0 : Int).toNat)).flatMap (iC .u32)) ((l.drop (0 : Int).toNat).take (n_5.toNat - (0 : Int).toNat)).length (fun z1 z2 => guardO (decide (0 + 0 * 1 ≤ (([] : List Int).flatMap (iC .u32)).length) && decide ((0 + z2) * 4 ≤ 140737488355328) && decide (0 + z2 ≤ 4611686018427387904)) (some (.eff (.hs 2 0 (0 + z2) 1) [(1, .dead), (2, .own (((([] : List Int).flatMap (iC .u32)).drop 0).take (0 * 1) ++ z1))])))) (by kernel_rfl) (appS_t (flat_lenB (iC_len _)) rfl (app_own (l := ([] : List Int)) (xs := (l.drop (0 : Int).toNat).take (n_5.toNat - (0 : Int).toNat)) (iC_len _) rfl rfl rfl hg18 hg19))) <| .mu 2 <| .done <| .nh [4] [.own [aB false, .hs 2 0 ((l.drop (0 : Int).toNat).take (n_5.toNat - (0 : Int).toNat)).length 1], .dead, .own (((l.drop (0 : Int).toNat).take (n_5.toNat - (0 : Int).toNat)).flatMap (iC .u32))] <| .ret ?_
   obtain rfl := oi hr
   exact FinQ.ret (vs := [.agg [aB false, .hs 2 0 ((l.drop (0 : Int).toNat).take (n_5.toNat - (0 : Int).toNat)).length 1]]) (by kernel_rfl) (Sn.agg (SnL.cons (Sn.pure rfl) (SnL.cons (Sn.hs rfl (.inl rfl) (SnC.pure (ids_flat (iC_pure _) _)) (fun h => flat_nil0 h)) SnL.nil)))

theorem fiducialref01_Of_ok (n : Nat) (n' : Int) (r : api_Int) (hr : fiducialref01_Of n n' = some r) : FnOk Tryz.prog 142 [aI64 n'] (.agg (api_Int.c r)) := by
 unfold fiducialref01_Of at hr
 refine FnOk.bd fine Tryz.func142 [.cell 2 72] ?_
 unfold Tryz.f142
 simp only [Option.getD_some]
 refine .seq <| .r5 fine [0] [(2, .hp 0 0)] [.own [aB false, nS]] <| .seq <| .r4 fine [0, 2] [(3, aU64 (wrapF .u64 n'))] <| .seq <| .seq <| .r4 fine [0, 2, 3] [(8, aB (decide (n' < 0)))] ?_
 refine .cd hr (fun hb1 hr => ?_) (fun hb1 hr => ?_)
 ·refine .r0 fine <| .mu 2 <| .p0 (v := aI64 (wrapF .i64 (0 - (wrapF .i64 (n' + 1))))) (Eq.trans (b := some (.pure (aI64 (IntKind.wrap .i64 (0 - (wrapF .i64 (n' + 1))))))) (by kernel_rfl) wrap_at) <| .mu 3 <| .done <| .nh [0, 2, 3] [.own [aB false, nS]] <| .seq <| .r5 fine [0, 2, 3] [(4, .hs 1 0 0 1)] [.own [aB false, nS], .own []] <| .seq <| .block ?_
  replace hr := bd hr; obtain ⟨l_7, hL13, hr⟩ := hr
  refine .loopO (σ := fun z0 => match z0 with | (u_2, l_3) => ⟨mkS 29 0 [(0, aI64 n'), (2, .hp 0 0), (3, aU64 u_2), (4, .hs 1 0 l_3.length 1)], [.own [aB false, nS], .own (l_3.flatMap (iC .u32))]⟩) (Q := fun x st' => x = .exit 0 ∧ Wk 0 st' ⟨mkS 29 0 [(0, aI64 n'), (2, .hp 0 0), (4, .hs 1 0 l_7.length 1)], [.own [aB false, nS], .own (l_7.flatMap (iC .u32))]⟩) hL13 ((Wk.gc [0, 2, 3, 4] [(0, true), (1, false)] rfl (pKt (pKc trivial))).to (by kernel_rfl)) ?_ ?_
  ·clear hr
   rintro m ⟨u_2, l_3⟩ hr
   show CQ _ _ _ _ _ ⟨_, _⟩
   refine .seq <| .seq <| .r4 fine [0, 2, 3, 4] [(16, aB (decide (u_2 > 0)))] ?_
   refine .cd hr (fun hb9 hr => ?_) (fun hb9 hr => ?_)
   ·refine .skip <| .block <| .seq ?_
    obtain ⟨hg10, hg11, hr⟩ := gd2 hr
    refine .r0 fine <| .mu 5 <| .e0 (v := .hs 3 0 (l_3 ++ [wrapF .u32 (u_2.tmod 1000000000)]).length 1) (ws := [(1, .dead), (3, .own ((l_3 ++ [wrapF .u32 (u_2.tmod 1000000000)]).flatMap (iC .u32)))]) (tr (app_own (new := [aU32 (wrapF .u32 (u_2.tmod 1000000000))]) (l := l_3) (xs := [wrapF .u32 (u_2.tmod 1000000000)]) (iC_len .u32) rfl rfl (by kernel_rfl) hg10 hg11)) <| .mu 1 <| .done <| .nh [0, 2, 3, 4] [.own [aB false, nS], .dead, .own [aU32 (wrapF .u32 (u_2.tmod 1000000000))], .own ((l_3 ++ [wrapF .u32 (u_2.tmod 1000000000)]).flatMap (iC .u32))] <| .ru fine <| .pop ?_
    exact loopF_back (wrapF .u64 (u_2.tdiv 1000000000), l_3 ++ [wrapF .u32 (u_2.tmod 1000000000)]) hr ((Wk.gc [0, 2, 3, 4] [(0, true), (3, false)] rfl (pKt (pKo (iC .u32) (iC_pure _) (l_3 ++ [wrapF .u32 (u_2.tmod 1000000000)]) trivial))).to (by kernel_rfl))
   ·refine .leave rfl ?_
    obtain rfl := oi hr
    exact ⟨rfl, ((Wk.gc [0, 2, 4] [(0, true), (1, false)] rfl (pKt (pKo (iC .u32) (iC_pure _) l_3 trivial))).to (by kernel_rfl))⟩
  ·rintro x st' hq14
   clear hL13
   obtain ⟨rfl, hq14⟩ := hq14
   refine CQ_exit _ rfl <| .wk hq14 <| .seq ?_
   obtain ⟨v15, hc16, hr⟩ := bd hr
   refine .g1 fine (callOk_ref (args := [aB true, .hs 1 0 l_7.length 1]) (l := [1]) (SnL.cons (Sn.pure rfl) (SnL.cons (Sn.hs rfl (.inl rfl) (SnC.pure (ids_flat (iC_pure _) _)) (fun h => flat_nil0 h)) SnL.nil)) (fiducialref01_made_ok n true l_7 v15 hc16)) <| .mu 1 <| .p0 (v := aB true) (eB hb1) <| .mu 1 <| .ca cf0 <| .mu 1 <| .done <| .nh [2] [.own (api_Int.c v15), .fix (l_7.flatMap (iC .u32))] <| .ret ?_
   obtain rfl := oi hr
   exact FinQ.r1 [.agg (api_Int.c v15)]
 ·refine .skip <| .seq <| .r5 fine [0, 2, 3] [(4, .hs 1 0 0 1)] [.own [aB false, nS], .own []] <| .seq <| .block ?_
  replace hr := bd hr; obtain ⟨l_22, hL28, hr⟩ := hr
  refine .loopO (σ := fun z0 => match z0 with | (u_17, l_18) => ⟨mkS 29 0 [(0, aI64 n'), (2, .hp 0 0), (3, aU64 u_17), (4, .hs 1 0 l_18.length 1)], [.own [aB false, nS], .own (l_18.flatMap (iC .u32))]⟩) (Q := fun x st' => x = .exit 0 ∧ Wk 0 st' ⟨mkS 29 0 [(0, aI64 n'), (2, .hp 0 0), (4, .hs 1 0 l_22.length 1)], [.own [aB false, nS], .own (l_22.flatMap (iC .u32))]⟩) hL28 ((Wk.gc [0, 2, 3, 4] [(0, true), (1, false)] rfl (pKt (pKc trivial))).to (by kernel_rfl)) ?_ ?_
  ·clear hr
   rintro m ⟨u_17, l_18⟩ hr
   show CQ _ _ _ _ _ ⟨_, _⟩
   refine .seq <| .seq <| .r4 fine [0, 2, 3, 4] [(16, aB (decide (u_17 > 0)))] ?_
   refine .cd hr (fun hb24 hr => ?_) (fun hb24 hr => ?_)
   ·refine .skip <| .block <| .seq ?_
    obtain ⟨hg25, hg26, hr⟩ := gd2 hr
    refine .r0 fine <| .mu 5 <| .e0 (v := .hs 3 0 (l_18 ++ [wrapF .u32 (u_17.tmod 1000000000)]).length 1) (ws := [(1, .dead), (3, .own ((l_18 ++ [wrapF .u32 (u_17.tmod 1000000000)]).flatMap (iC .u32)))]) (tr (app_own (new := [aU32 (wrapF .u32 (u_17.tmod 1000000000))]) (l := l_18) (xs := [wrapF .u32 (u_17.tmod 1000000000)]) (iC_len .u32) rfl rfl (by kernel_rfl) hg25 hg26)) <| .mu 1 <| .done <| .nh [0, 2, 3, 4] [.own [aB false, nS], .dead, .own [aU32 (wrapF .u32 (u_17.tmod 1000000000))], .own ((l_18 ++ [wrapF .u32 (u_17.tmod 1000000000)]).flatMap (iC .u32))] <| .ru fine <| .pop ?_
    exact loopF_back (wrapF .u64 (u_17.tdiv 1000000000), l_18 ++ [wrapF .u32 (u_17.tmod 1000000000)]) hr ((Wk.gc [0, 2, 3, 4] [(0, true), (3, false)] rfl (pKt (pKo (iC .u32) (iC_pure _) (l_18 ++ [wrapF .u32 (u_17.tmod 1000000000)]) trivial))).to (by kernel_rfl))
   ·refine .leave rfl ?_
    obtain rfl := oi hr
    exact ⟨rfl, ((Wk.gc [0, 2, 4] [(0, true), (1, false)] rfl (pKt (pKo (iC .u32) (iC_pure _) l_18 trivial))).to (by kernel_rfl))⟩
  ·rintro x st' hq29
   clear hL28
   obtain ⟨rfl, hq29⟩ := hq29
   refine CQ_exit _ rfl <| .wk hq29 <| .seq ?_
   obtain ⟨v30, hc31, hr⟩ := bd hr
   refine .g1 fine (callOk_ref (args := [aB false, .hs 1 0 l_22.length 1]) (l := [1]) (SnL.cons (Sn.pure rfl) (SnL.cons (Sn.hs rfl (.inl rfl) (SnC.pure (ids_flat (iC_pure _) _)) (fun h => flat_nil0 h)) SnL.nil)) (fiducialref01_made_ok n false l_22 v30 hc31)) <| .mu 1 <| .p0 (v := aB false) (eB hb1) <| .mu 1 <| .ca cf0 <| .mu 1 <| .done <| .nh [2] [.own (api_Int.c v30), .fix (l_22.flatMap (iC .u32))] <| .ret ?_
   obtain rfl := oi hr
   exact FinQ.r1 [.agg (api_Int.c v30)]

theorem fiducialref02_whole_inj {n' : Int} {n'_ : Int} (h : ([.at (.int .i64 n')] : List AV) = [.at (.int .i64 n'_)]) : n' = n'_ := by
 simp only [List.cons.injEq, AV.agg.injEq, AV.at.injEq, Value.int.injEq, Value.bool.injEq, AV.fn.injEq, AV.pp.injEq, true_and, and_true] at h
 simp_all
theorem fiducialref02_whole_cg (n : Nat) {n' : Int} {n'_ : Int} (h : ([.at (.int .i64 n')] : List AV) = [.at (.int .i64 n'_)]) : fiducialref02_whole n n' = fiducialref02_whole n n'_ := by
 obtain rfl := fiducialref02_whole_inj h
 rfl
theorem fiducialref02_whole_ok (n : Nat) (n' : Int) (r : api_Int) (hr : fiducialref02_whole n n' = some r) : FnOk Tryz.prog 100 [aI64 n'] (.agg (api_Int.c r)) := by
 unfold fiducialref02_whole at hr
 refine FnOk.bd fine Tryz.func100 [.cell 2 72] ?_
 unfold Tryz.f100
 simp only [Option.getD_some]
 refine .seq <| .r5 fine [0] [(2, .hp 0 0)] [.own [aB false, nS]] <| .seq ?_
 obtain ⟨v1, hc2, hr⟩ := bd hr
 refine .g1 fine (ok0 (fiducialref01_Of_ok n n' v1 hc2)) <| .mu 1 <| .ca cf0 <| .mu 1 <| .done <| .nh [2] [.own (api_Int.c v1)] <| .ret ?_
 obtain rfl := oi hr
 exact FinQ.r1 [.agg (api_Int.c v1)]

theorem fiducialref02_Whole_ok (n : Nat) (n' : Int) (r : api_Rat) (hr : fiducialref02_Whole n n' = some r) : FnOk Tryz.prog 54 [aI64 n'] (.agg (api_Rat.c r)) := by
 unfold fiducialref02_Whole at hr
 refine FnOk.bd fine Tryz.func54 [.cell 2 74] ?_
 unfold Tryz.f54
 simp only [Option.getD_some]
 refine .seq <| .r5 fine [0] [(2, .hp 0 0)] [.own [aB false, nS, aB false, nS]] <| .seq ?_
 obtain ⟨v1, hc2, v3, hc4, hr⟩ := bd2 hr
 refine .gn fine (ca1 (ok0 (fiducialref02_whole_ok n n' v1 hc2)) (ca3 (ok0 (fiducialref02_whole_ok n 1 v3 hc4)))) <| .mu 1 <| .ca cf0 <| .ca (cfA (fun h => by rw [sv hc4 hc2 (fiducialref02_whole_cg n h)]) cf0) <| .mu 2 <| .done <| .nh [2] [.own [aB v1.Negative, sU32 v1.Groups, aB v3.Negative, sU32 v3.Groups]] <| .ret ?_
 obtain rfl := oi hr
 exact FinQ.r1 [.agg [aB v1.Negative, sU32 v1.Groups, aB v3.Negative, sU32 v3.Groups]]

theorem fiducialref01_Valid_inj {x' : api_Int} {x'_ : api_Int} (h : ([.agg [.at (.bool x'.Negative), slT (iC .u32) x'.Groups]] : List AV) = [.agg [.at (.bool x'_.Negative), slT (iC .u32) x'_.Groups]]) : x' = x'_ := by
 obtain ⟨_, _⟩ := x'
 obtain ⟨_, _⟩ := x'_
 simp only [List.cons.injEq, AV.agg.injEq, AV.at.injEq, Value.int.injEq, Value.bool.injEq, AV.fn.injEq, AV.pp.injEq, true_and, and_true, slT_inj_int] at h
 simp_all
theorem fiducialref01_Valid_cg (n : Nat) {x' : api_Int} {x'_ : api_Int} (h : ([.agg [.at (.bool x'.Negative), slT (iC .u32) x'.Groups]] : List AV) = [.agg [.at (.bool x'_.Negative), slT (iC .u32) x'_.Groups]]) : fiducialref01_Valid n x' = fiducialref01_Valid n x'_ := by
 obtain rfl := fiducialref01_Valid_inj h
 rfl
theorem fiducialref01_Valid_ok (n : Nat) (x' : api_Int) (r : Bool) (hr : fiducialref01_Valid n x' = some r) : FnOk Tryz.prog 136 [.agg (api_Int.c x')] (aB r) := by
 unfold fiducialref01_Valid at hr
 refine FnOk.bd fine Tryz.func136 [.tmp 2] ?_
 unfold Tryz.f136
 simp only [Option.getD_some]
 refine .seq <| .r2 fine 31 [(1, .hp 0 0)] [.own (api_Int.c x')] <| .seq <| .r4 fine [1] [(3, aI64 (x'.Groups.length : Int))] <| .seq <| .seq <| .r4 fine [1, 3] [(4, aI64 0)] <| .block ?_
 replace hr := bd hr; obtain ⟨o9, hL10, hr⟩ := hr
 refine .loopO (σ := fun z0 => match z0 with | i_1 => ⟨mkS 31 0 [(1, .hp 0 0), (3, aI64 (x'.Groups.length : Int)), (4, aI64 i_1)], [.own (api_Int.c x')]⟩) (Q := fun x st' => match (generalizing := false) o9 with | .inl _ => x = .exit 0 ∧ Wk 0 st' ⟨mkS 31 0 [(1, .hp 0 0), (3, aI64 (x'.Groups.length : Int))], [.own (api_Int.c x')]⟩ | .inr (r0) => x = .ret ∧ FinQ Tryz.prog [.tmp 2] (aB r0) .ret st') hL10 ((Wk.gc [1, 3, 4] [(0, true)] rfl trivial).to (by kernel_rfl)) ?_ ?_
 ·clear hr
  rintro m i_1 hr
  show CQ _ _ _ _ _ ⟨_, _⟩
  refine .seq <| .seq <| .r4 fine [1, 3, 4] [(10, aB (decide (i_1 < (x'.Groups.length : Int))))] ?_
  refine .cd hr (fun hb6 hr => ?_) (fun hb6 hr => ?_)
  ·refine .skip <| .seq <| .block <| .seq ?_
   obtain ⟨hg7, hr⟩ := gd hr
   refine .r0 fine <| .mu 3 <| .p0 (v := .pp (x'.Groups.flatMap (iC .u32)) (i_1.toNat * 1)) (tr (ofP_guard hg7)) <| .p0 (v := aU32 (gt x'.Groups i_1)) (tr (ofP_some (flat_get (iC_len .u32) (inR_lt hg7) (by decide : 0 < 1) (by omega : i_1.toNat * 1 = i_1.toNat * 1 + 0) (by kernel_rfl)))) <| .mu 1 <| .done <| .nh [1, 3, 4, 18] [.own (api_Int.c x')] ?_
   refine .cd hr (fun hb8 hr => ?_) (fun hb8 hr => ?_)
   ·refine .seq <| .ru fine <| .ret ?_
    obtain rfl := oi hr
    exact ⟨rfl, FinQ.ret (vs := [aB false]) (by kernel_rfl) (Sn.pure rfl)⟩
   ·refine .skip <| .pop <| .ru fine ?_
    exact loopF_back (wrapF .i64 (i_1 + 1)) hr ((Wk.gc [1, 3, 4] [(0, true)] rfl trivial).to (by kernel_rfl))
  ·refine .leave rfl ?_
   obtain rfl := oi hr
   exact ⟨rfl, ((Wk.gc [1, 3] [(0, true)] rfl trivial).to (by kernel_rfl))⟩
 ·rcases o9 with ⟨⟩ | r0
  ·rintro x st' hq11
   clear hL10
   obtain ⟨rfl, hq11⟩ := hq11
   refine CQ_exit _ rfl <| .wk hq11 <| .seq <| .seq <| .r4 fine [1, 3] [(20, aB (((x'.Groups.length : Int) : Int) == 0))] ?_
   refine .cd hr (fun hb12 hr => ?_) (fun hb12 hr => ?_)
   ·refine .seq <| .ru fine <| .ret ?_
    obtain rfl := oi hr
    exact FinQ.r1 [aB (!x'.Negative)]
   ·refine .skip <| .seq ?_
    obtain ⟨hg13, hr⟩ := gd hr
    refine .r0 fine <| .mu 4 <| .p0 (v := .pp (x'.Groups.flatMap (iC .u32)) ((wrapF .i64 ((x'.Groups.length : Int) - 1)).toNat * 1)) (tr (ofP_guard hg13)) <| .p0 (v := aU32 (gt x'.Groups (wrapF .i64 ((x'.Groups.length : Int) - 1)))) (tr (ofP_some (flat_get (iC_len .u32) (inR_lt hg13) (by decide : 0 < 1) (by omega : (wrapF .i64 ((x'.Groups.length : Int) - 1)).toNat * 1 = (wrapF .i64 ((x'.Groups.length : Int) - 1)).toNat * 1 + 0) (by kernel_rfl)))) <| .mu 2 <| .done <| .ret ?_
    obtain rfl := oi hr
    exact FinQ.r1 [aB (((gt x'.Groups (wrapF .i64 ((x'.Groups.length : Int) - 1))) : Int) != 0)]
  ·rintro x st' hq11
   clear hL10
   obtain ⟨rfl, hq11⟩ := hq11
   obtain rfl := oi hr
   exact CQ_ret _ hq11

theorem fiducialref01_Value_inj {x' : api_Int} {x'_ : api_Int} (h : ([.agg [.at (.bool x'.Negative), slT (iC .u32) x'.Groups]] : List AV) = [.agg [.at (.bool x'_.Negative), slT (iC .u32) x'_.Groups]]) : x' = x'_ := by
 obtain ⟨_, _⟩ := x'
 obtain ⟨_, _⟩ := x'_
 simp only [List.cons.injEq, AV.agg.injEq, AV.at.injEq, Value.int.injEq, Value.bool.injEq, AV.fn.injEq, AV.pp.injEq, true_and, and_true, slT_inj_int] at h
 simp_all
theorem fiducialref01_Value_cg (n : Nat) {x' : api_Int} {x'_ : api_Int} (h : ([.agg [.at (.bool x'.Negative), slT (iC .u32) x'.Groups]] : List AV) = [.agg [.at (.bool x'_.Negative), slT (iC .u32) x'_.Groups]]) : fiducialref01_Value n x' = fiducialref01_Value n x'_ := by
 obtain rfl := fiducialref01_Value_inj h
 rfl
theorem fiducialref01_Value_ok (n : Nat) (x' : api_Int) (r : api_Int) (hr : fiducialref01_Value n x' = some r) : FnOk Tryz.prog 187 [.agg (api_Int.c x')] (.agg (api_Int.c r)) := by
 unfold fiducialref01_Value at hr
 refine FnOk.bd fine Tryz.func187 [.cell 2 72] ?_
 unfold Tryz.f187
 simp only [Option.getD_some]
 refine .seq <| .r2 fine 14 [(1, .hp 0 0), (2, .hp 1 0)] [.own (api_Int.c x'), .own [aB false, nS]] <| .seq <| .seq ?_
 obtain ⟨v1, hc2, hr⟩ := bd hr
 refine .g1 fine (ok0 (fiducialref01_Valid_ok n x' v1 hc2)) <| .mu 1 <| .ca cf0 <| .mu 1 <| .done <| .nh [1, 2, 5] [.own (api_Int.c x'), .own [aB false, nS]] ?_
 refine .cd hr (fun hb3 hr => ?_) (fun hb3 hr => ?_)
 ·refine .seq <| .r4 fine [2] [] <| .ret ?_
  obtain rfl := oi hr
  exact FinQ.ret (vs := [.agg [aB false, nS]]) (by kernel_rfl) (Sn.agg (SnL.cons (Sn.pure rfl) (SnL.cons Sn.nilsl SnL.nil)))
 ·refine .skip <| .seq ?_
  obtain ⟨hg4, hg5, hr⟩ := gd2 hr
  refine .regionT fine callOf_nil <| .mu 5 <| .eff (v := .hs 3 0 x'.Groups.length 1) (ws := [(2, .dead), (3, .own (x'.Groups.flatMap (iC .u32)))]) (by kernel_rfl) (Eq.trans (b := appS (decide (((x'.Groups.flatMap (iC .u32))).length = x'.Groups.length * 1)) (x'.Groups.flatMap (iC .u32)) x'.Groups.length (fun z1 z2 => guardO (decide (0 + 0 * 1 ≤ (([] : List Int).flatMap (iC .u32)).length) && decide ((0 + z2) * 4 ≤ 140737488355328) && decide (0 + z2 ≤ 4611686018427387904)) (some (.eff (.hs 3 0 (0 + z2) 1) [(2, .dead), (3, .own (((([] : List Int).flatMap (iC .u32)).drop 0).take (0 * 1) ++ z1))])))) (by kernel_rfl) (appS_t (flat_lenB (iC_len _)) rfl (app_own (l := ([] : List Int)) (xs := x'.Groups) (iC_len _) rfl rfl rfl hg4 hg5))) (by kernel_rfl) <| .mu 2 ?_
  refine .done ⟨by kernel_rfl, ?_⟩
  refine .nh [2] [.own (api_Int.c x'), .own [aB x'.Negative, .hs 3 0 x'.Groups.length 1], .dead, .own (x'.Groups.flatMap (iC .u32))] <| .ret ?_
  obtain rfl := oi hr
  exact FinQ.ret (vs := [.agg [aB x'.Negative, .hs 3 0 x'.Groups.length 1]]) (by kernel_rfl) (Sn.agg (SnL.cons (Sn.pure rfl) (SnL.cons (Sn.hs rfl (.inl rfl) (SnC.pure (ids_flat (iC_pure _) _)) (fun h => flat_nil0 h)) SnL.nil)))

theorem fiducialref01_Sign_ok (n : Nat) (x' : api_Int) (r : Int) (hr : fiducialref01_Sign n x' = some r) : FnOk Tryz.prog 137 [.agg (api_Int.c x')] (aI64 r) := by
 unfold fiducialref01_Sign at hr
 refine FnOk.bd fine Tryz.func137 [.tmp 2] ?_
 unfold Tryz.f137
 simp only [Option.getD_some]
 refine .seq <| .r2 fine 11 [(1, .hp 0 0)] [.own (api_Int.c x')] <| .seq ?_
 obtain ⟨v1, hc2, hr⟩ := bd hr
 refine .g1 fine (ok0 (fiducialref01_Value_ok n x' v1 hc2)) <| .mu 1 <| .ca cf0 <| .mu 1 <| .done <| .nh [1] [.own (api_Int.c v1)] <| .seq <| .seq <| .r4 fine [1] [(8, aB (((v1.Groups.length : Int) : Int) == 0))] ?_
 refine .cd hr (fun hb3 hr => ?_) (fun hb3 hr => ?_)
 ·refine .seq <| .ru fine <| .ret ?_
  obtain rfl := oi hr
  exact FinQ.r1 [aI64 0]
 ·refine .skip <| .seq <| .seq <| .r3 fine 11 [(10, aB v1.Negative)] ?_
  refine .cd hr (fun hb4 hr => ?_) (fun hb4 hr => ?_)
  ·refine .seq <| .ru fine <| .ret ?_
   obtain rfl := oi hr
   exact FinQ.r1 [aI64 (-1)]
  ·refine .skip <| .seq <| .ru fine <| .ret ?_
   obtain rfl := oi hr
   exact FinQ.r1 [aI64 1]

theorem fiducialref01_short_ok (n : Nat) (a : List Int) (d : Int) (r : List Int × Int) (hr : fiducialref01_short n a d = some r) : FnOk Tryz.prog 216 [sU32 a, aU64 d] (.tup [sU32 r.1, aU64 r.2]) := by
 unfold fiducialref01_short at hr
 refine FnOk.bd fine Tryz.func216 [.tmp 4, .tmp 5] ?_
 unfold Tryz.f216
 simp only [Option.getD_some]
 refine .seq <| .r4 fine [0, 1] [] <| .seq ?_
 obtain ⟨hg1, hg2, hg3, hr⟩ := gd3 hr
 refine .r0 fine <| .mu 2 <| .e0 (v := .hs 0 0 (List.replicate (a.length : Int).toNat ((0 : Int) : Int)).length 1) (ws := [(0, .own ((List.replicate (a.length : Int).toNat ((0 : Int) : Int)).flatMap (iC .u32)))]) (tr (make_own (c := (iC .u32)) (z := (0 : Int)) (n := (a.length : Int)) (by_ := 4) rfl hg1 hg2 hg3)) <| .mu 1 <| .done <| .nh [0, 1, 6] [.own ((List.replicate (a.length : Int).toNat ((0 : Int) : Int)).flatMap (iC .u32))] <| .seq <| .r4 fine [0, 1, 6] [(7, aU64 0)] <| .seq <| .seq <| .r4 fine [0, 1, 6, 7] [(8, aI64 (wrapF .i64 ((a.length : Int) - 1)))] <| .block ?_
 replace hr := bd hr; obtain ⟨o18, hL19, hr⟩ := hr
 refine .loopO (σ := fun z0 => match z0 with | (q_4, rest_5, i_6) => ⟨mkS 42 0 [(0, sU32 a), (1, aU64 d), (6, .hs 0 0 q_4.length 1), (7, aU64 rest_5), (8, aI64 i_6)], [.own (q_4.flatMap (iC .u32))]⟩) (Q := fun x st' => match (generalizing := false) o18 with | (q_11, rest_12) => x = .exit 0 ∧ Wk 0 st' ⟨mkS 42 0 [(6, .hs 0 0 q_11.length 1), (7, aU64 rest_12)], [.own (q_11.flatMap (iC .u32))]⟩) hL19 ((Wk.gc [0, 1, 6, 7, 8] [(0, false)] rfl (pKo (iC .u32) (iC_pure _) (List.replicate (a.length : Int).toNat ((0 : Int) : Int)) trivial)).to (by kernel_rfl)) ?_ ?_
 ·clear hr
  rintro m ⟨q_4, rest_5, i_6⟩ hr
  show CQ _ _ _ _ _ ⟨_, _⟩
  refine .seq <| .seq <| .r4 fine [0, 1, 6, 7, 8] [(17, aB (decide (i_6 ≥ 0)))] ?_
  refine .cd hr (fun hb14 hr => ?_) (fun hb14 hr => ?_)
  ·refine .skip <| .seq <| .block <| .seq ?_
   obtain ⟨hg15, hr⟩ := gd hr
   refine .r0 fine <| .mu 4 <| .p0 (v := .pp (a.flatMap (iC .u32)) (i_6.toNat * 1)) (tr (ofP_guard hg15)) <| .p0 (v := aU32 (gt a i_6)) (tr (ofP_some (flat_get (iC_len .u32) (inR_lt hg15) (by decide : 0 < 1) (by omega : i_6.toNat * 1 = i_6.toNat * 1 + 0) (by kernel_rfl)))) <| .mu 3 <| .done <| .nh [0, 1, 6, 8, 9] [.own (q_4.flatMap (iC .u32))] <| .seq ?_
   obtain ⟨hg16, hg17, hr⟩ := gd2 hr
   refine .r0 fine <| .mu 4 <| .p0 (v := aU64 (wrapF .u64 ((wrapF .u64 ((wrapF .u64 (rest_5 * 1000000000)) + (wrapF .u64 (gt a i_6)))).tdiv d))) (op_quo (x := wrapF .u64 ((wrapF .u64 (rest_5 * 1000000000)) + (wrapF .u64 (gt a i_6)))) (y := d) (by kernel_rfl) (by kernel_rfl) hg16) <| .mu 1 <| .p0 (v := .hp 0 (0 + i_6.toNat * 1)) (tr (ofP_guard hg17)) <| .e0 (v := .unk) (ws := [(0, .own ((q_4.set i_6.toNat (wrapF .u32 (wrapF .u64 ((wrapF .u64 ((wrapF .u64 (rest_5 * 1000000000)) + (wrapF .u64 (gt a i_6)))).tdiv d)))).flatMap (iC .u32)))]) (tr (stO_t (and_t (flat_fits (n := 1) (iC_len .u32) (inR_lt hg17) (Nat.le_of_ble_eq_true rfl) (by omega : 0 + i_6.toNat * 1 = i_6.toNat * 1 + 0))) (congrArg Blk.own (flat_set (xs := [aU32 (wrapF .u32 (wrapF .u64 ((wrapF .u64 ((wrapF .u64 (rest_5 * 1000000000)) + (wrapF .u64 (gt a i_6)))).tdiv d)))]) (iC_len .u32) (inR_lt hg17) (Nat.le_of_ble_eq_true rfl) (by omega : 0 + i_6.toNat * 1 = i_6.toNat * 1 + 0) (by kernel_rfl))))) <| .done <| .nh [0, 1, 6, 8, 9] [.own ((q_4.set i_6.toNat (wrapF .u32 (wrapF .u64 ((wrapF .u64 ((wrapF .u64 (rest_5 * 1000000000)) + (wrapF .u64 (gt a i_6)))).tdiv d)))).flatMap (iC .u32))] <| .r0 fine <| .mu 2 <| .p0 (v := aU64 ((wrapF .u64 ((wrapF .u64 (rest_5 * 1000000000)) + (wrapF .u64 (gt a i_6)))).tmod d)) (op_rem (x := wrapF .u64 ((wrapF .u64 (rest_5 * 1000000000)) + (wrapF .u64 (gt a i_6)))) (y := d) (by kernel_rfl) (by kernel_rfl) hg16) <| .mu 1 <| .done <| .pop <| .ru fine ?_
   exact loopF_back (q_4.set i_6.toNat (wrapF .u32 (wrapF .u64 ((wrapF .u64 ((wrapF .u64 (rest_5 * 1000000000)) + (wrapF .u64 (gt a i_6)))).tdiv d))), (wrapF .u64 ((wrapF .u64 (rest_5 * 1000000000)) + (wrapF .u64 (gt a i_6)))).tmod d, wrapF .i64 (i_6 - 1)) hr ((Wk.relen 6 (b := 0) (es := 1) (len := q_4.length) (q_4.set i_6.toNat (wrapF .u32 (wrapF .u64 ((wrapF .u64 ((wrapF .u64 (rest_5 * 1000000000)) + (wrapF .u64 (gt a i_6)))).tdiv d)))).length (by kernel_rfl) (Eq.symm (List.length_set.trans rfl))).trans ((Wk.gc [0, 1, 6, 7, 8] [(0, false)] rfl (pKo (iC .u32) (iC_pure _) (q_4.set i_6.toNat (wrapF .u32 (wrapF .u64 ((wrapF .u64 ((wrapF .u64 (rest_5 * 1000000000)) + (wrapF .u64 (gt a i_6)))).tdiv d)))) trivial)).to (by kernel_rfl)))
  ·refine .leave rfl ?_
   obtain rfl := oi hr
   exact ⟨rfl, ((Wk.gc [6, 7] [(0, false)] rfl (pKo (iC .u32) (iC_pure _) q_4 trivial)).to (by kernel_rfl))⟩
 ·rcases o18 with ⟨q_11, rest_12⟩
  rintro x st' hq20
  clear hL19
  obtain ⟨rfl, hq20⟩ := hq20
  refine CQ_exit _ rfl <| .wk hq20 <| .seq ?_
  obtain ⟨v21, hc22, hr⟩ := bd hr
  refine .g1 fine (callOk_ref (args := [aB false, .hs 0 0 q_11.length 1]) (l := [0]) (SnL.cons (Sn.pure rfl) (SnL.cons (Sn.hs rfl (.inl rfl) (SnC.pure (ids_flat (iC_pure _) _)) (fun h => flat_nil0 h)) SnL.nil)) (fiducialref01_made_ok n false q_11 v21 hc22)) <| .mu 1 <| .ca cf0 <| .mu 4 <| .done <| .ret ?_
  obtain rfl := oi hr
  exact FinQ.ret (vs := [sU32 v21.Groups, aU64 rest_12]) (by kernel_rfl) (Sn.tup (SnL.cons (Sn.pure rfl) (SnL.cons (Sn.pure rfl) SnL.nil)))

theorem fiducialref01_size_ok (n : Nat) (a : List Int) (b : List Int) (r : Int) (hr : fiducialref01_size n a b = some r) : FnOk Tryz.prog 217 [sU32 a, sU32 b] (aI64 r) := by
 unfold fiducialref01_size at hr
 refine FnOk.bd fine Tryz.func217 [.tmp 4] ?_
 unfold Tryz.f217
 simp only [Option.getD_some]
 refine .seq <| .r4 fine [0, 1] [] <| .seq <| .seq <| .r4 fine [0, 1] [(10, aB (((a.length : Int) : Int) != (b.length : Int)))] ?_
 refine .cd hr (fun hb1 hr => ?_) (fun hb1 hr => ?_)
 ·refine .seq <| .seq <| .r3 fine 41 [(15, aB (decide ((a.length : Int) < (b.length : Int))))] ?_
  refine .cd hr (fun hb2 hr => ?_) (fun hb2 hr => ?_)
  ·refine .seq <| .ru fine <| .ret ?_
   obtain rfl := oi hr
   exact FinQ.r1 [aI64 (-1)]
  ·refine .skip <| .seq <| .ru fine <| .ret ?_
   obtain rfl := oi hr
   exact FinQ.r1 [aI64 1]
 ·refine .skip <| .seq <| .seq <| .r4 fine [0, 1] [(5, aI64 (wrapF .i64 ((a.length : Int) - 1)))] <| .block ?_
  replace hr := bd hr; obtain ⟨o15, hL16, hr⟩ := hr
  refine .loopO (σ := fun z0 => match z0 with | i_3 => ⟨mkS 41 0 [(0, sU32 a), (1, sU32 b), (5, aI64 i_3)], []⟩) (Q := fun x st' => match (generalizing := false) o15 with | .inl _ => x = .exit 0 ∧ Wk 0 st' ⟨mkS 41 0 [], []⟩ | .inr (r0) => x = .ret ∧ FinQ Tryz.prog [.tmp 4] (aI64 r0) .ret st') hL16 ((Wk.gc [0, 1, 5] [] rfl pK0).to (by kernel_rfl)) ?_ ?_
  ·clear hr
   rintro m i_3 hr
   show CQ _ _ _ _ _ ⟨_, _⟩
   refine .seq <| .seq <| .r4 fine [0, 1, 5] [(20, aB (decide (i_3 ≥ 0)))] ?_
   refine .cd hr (fun hb10 hr => ?_) (fun hb10 hr => ?_)
   ·refine .skip <| .seq <| .block <| .seq <| .seq ?_
    obtain ⟨hg11, hg12, hr⟩ := gd2 hr
    refine .regionT fine callOf_nil <| .mu 2 <| .pure (v := .pp (a.flatMap (iC .u32)) (i_3.toNat * 1)) (by kernel_rfl) (tr (ofP_guard hg11)) (by kernel_rfl) <| .pure (v := aU32 (gt a i_3)) (by kernel_rfl) (tr (ofP_some (flat_get (iC_len .u32) (inR_lt hg11) (by decide : 0 < 1) (by omega : i_3.toNat * 1 = i_3.toNat * 1 + 0) (by kernel_rfl)))) (by kernel_rfl) <| .mu 2 <| .pure (v := .pp (b.flatMap (iC .u32)) (i_3.toNat * 1)) (by kernel_rfl) (tr (ofP_guard hg12)) (by kernel_rfl) <| .pure (v := aU32 (gt b i_3)) (by kernel_rfl) (tr (ofP_some (flat_get (iC_len .u32) (inR_lt hg12) (by decide : 0 < 1) (by omega : i_3.toNat * 1 = i_3.toNat * 1 + 0) (by kernel_rfl)))) (by kernel_rfl) <| .mu 1 ?_
    refine .done ⟨by kernel_rfl, ?_⟩
    refine .nh [0, 1, 5, 31] [] ?_
    refine .cd hr (fun hb13 hr => ?_) (fun hb13 hr => ?_)
    ·refine .seq <| .ru fine <| .ret ?_
     obtain rfl := oi hr
     exact ⟨rfl, FinQ.ret (vs := [aI64 (-1)]) (by kernel_rfl) (Sn.pure rfl)⟩
    ·refine .skip <| .seq <| .regionT fine callOf_nil <| .mu 2 <| .pure (v := .pp (a.flatMap (iC .u32)) (i_3.toNat * 1)) (by kernel_rfl) (tr (ofP_guard hg11)) (by kernel_rfl) <| .pure (v := aU32 (gt a i_3)) (by kernel_rfl) (tr (ofP_some (flat_get (iC_len .u32) (inR_lt hg11) (by decide : 0 < 1) (by omega : i_3.toNat * 1 = i_3.toNat * 1 + 0) (by kernel_rfl)))) (by kernel_rfl) <| .mu 2 <| .pure (v := .pp (b.flatMap (iC .u32)) (i_3.toNat * 1)) (by kernel_rfl) (tr (ofP_guard hg12)) (by kernel_rfl) <| .pure (v := aU32 (gt b i_3)) (by kernel_rfl) (tr (ofP_some (flat_get (iC_len .u32) (inR_lt hg12) (by decide : 0 < 1) (by omega : i_3.toNat * 1 = i_3.toNat * 1 + 0) (by kernel_rfl)))) (by kernel_rfl) <| .mu 1 ?_
     refine .done ⟨by kernel_rfl, ?_⟩
     refine .nh [0, 1, 5, 40] [] ?_
     refine .cd hr (fun hb14 hr => ?_) (fun hb14 hr => ?_)
     ·refine .seq <| .ru fine <| .ret ?_
      obtain rfl := oi hr
      exact ⟨rfl, FinQ.ret (vs := [aI64 1]) (by kernel_rfl) (Sn.pure rfl)⟩
     ·refine .skip <| .pop <| .ru fine ?_
      exact loopF_back (wrapF .i64 (i_3 - 1)) hr ((Wk.gc [0, 1, 5] [] rfl pK0).to (by kernel_rfl))
   ·refine .leave rfl ?_
    obtain rfl := oi hr
    exact ⟨rfl, ((Wk.gc [] [] rfl pK0).to (by kernel_rfl))⟩
  ·rcases o15 with ⟨⟩ | r0
   ·rintro x st' hq17
    clear hL16
    obtain ⟨rfl, hq17⟩ := hq17
    refine CQ_exit _ rfl <| .wk hq17 <| .seq <| .ru fine <| .ret ?_
    obtain rfl := oi hr
    exact FinQ.r1 [aI64 0]
   ·rintro x st' hq17
    clear hL16
    obtain ⟨rfl, hq17⟩ := hq17
    obtain rfl := oi hr
    exact CQ_ret _ hq17

theorem fiducialref01_scaled_inj {a : List Int} {d : Int} {a_ : List Int} {d_ : Int} (h : ([slT (iC .u32) a, .at (.int .u64 d)] : List AV) = [slT (iC .u32) a_, .at (.int .u64 d_)]) : a = a_ ∧ d = d_ := by
 simp only [List.cons.injEq, AV.agg.injEq, AV.at.injEq, Value.int.injEq, Value.bool.injEq, AV.fn.injEq, AV.pp.injEq, true_and, and_true, slT_inj_int] at h
 simp_all
theorem fiducialref01_scaled_cg (n : Nat) {a : List Int} {d : Int} {a_ : List Int} {d_ : Int} (h : ([slT (iC .u32) a, .at (.int .u64 d)] : List AV) = [slT (iC .u32) a_, .at (.int .u64 d_)]) : fiducialref01_scaled n a d = fiducialref01_scaled n a_ d_ := by
 obtain ⟨rfl, rfl⟩ := fiducialref01_scaled_inj h
 rfl
theorem fiducialref01_scaled_ok (n : Nat) (a : List Int) (d : Int) (r : List Int) (hr : fiducialref01_scaled n a d = some r) : FnOk Tryz.prog 218 [sU32 a, aU64 d] (sU32 r) := by
 unfold fiducialref01_scaled at hr
 refine FnOk.bd fine Tryz.func218 [.tmp 4] ?_
 unfold Tryz.f218
 simp only [Option.getD_some]
 refine .seq <| .r4 fine [0, 1] [] <| .seq <| .r5 fine [0, 1] [(5, .hs 0 0 0 1)] [.own []] <| .seq <| .r4 fine [0, 1, 5] [(6, aU64 0)] <| .seq <| .seq <| .r4 fine [0, 1, 5, 6] [(7, aI64 0)] <| .block ?_
 replace hr := bd hr; obtain ⟨o15, hL16, hr⟩ := hr
 refine .loopO (σ := fun z0 => match z0 with | (out_1, carry_2, i_3) => ⟨mkS 40 0 [(0, sU32 a), (1, aU64 d), (5, .hs 0 0 out_1.length 1), (6, aU64 carry_2), (7, aI64 i_3)], [.own (out_1.flatMap (iC .u32))]⟩) (Q := fun x st' => match (generalizing := false) o15 with | (out_8, carry_9) => x = .exit 0 ∧ Wk 0 st' ⟨mkS 40 0 [(5, .hs 0 0 out_8.length 1), (6, aU64 carry_9)], [.own (out_8.flatMap (iC .u32))]⟩) hL16 ((Wk.gc [0, 1, 5, 6, 7] [(0, false)] rfl (pKc trivial)).to (by kernel_rfl)) ?_ ?_
 ·clear hr
  rintro m ⟨out_1, carry_2, i_3⟩ hr
  show CQ _ _ _ _ _ ⟨_, _⟩
  refine .seq <| .seq <| .r4 fine [0, 1, 5, 6, 7] [(13, aB (decide (i_3 < (a.length : Int))))] ?_
  refine .cd hr (fun hb11 hr => ?_) (fun hb11 hr => ?_)
  ·refine .skip <| .seq <| .block <| .seq ?_
   obtain ⟨hg12, hr⟩ := gd hr
   refine .r0 fine <| .mu 2 <| .p0 (v := .pp (a.flatMap (iC .u32)) (i_3.toNat * 1)) (tr (ofP_guard hg12)) <| .p0 (v := aU32 (gt a i_3)) (tr (ofP_some (flat_get (iC_len .u32) (inR_lt hg12) (by decide : 0 < 1) (by omega : i_3.toNat * 1 = i_3.toNat * 1 + 0) (by kernel_rfl)))) <| .mu 6 <| .done <| .nh [0, 1, 5, 7, 8] [.own (out_1.flatMap (iC .u32))] <| .seq ?_
   obtain ⟨hg13, hg14, hr⟩ := gd2 hr
   refine .r0 fine <| .mu 5 <| .e0 (v := .hs 2 0 (out_1 ++ [wrapF .u32 ((wrapF .u64 ((wrapF .u64 ((wrapF .u64 (gt a i_3)) * d)) + carry_2)).tmod 1000000000)]).length 1) (ws := [(0, .dead), (2, .own ((out_1 ++ [wrapF .u32 ((wrapF .u64 ((wrapF .u64 ((wrapF .u64 (gt a i_3)) * d)) + carry_2)).tmod 1000000000)]).flatMap (iC .u32)))]) (tr (app_own (new := [aU32 (wrapF .u32 ((wrapF .u64 ((wrapF .u64 ((wrapF .u64 (gt a i_3)) * d)) + carry_2)).tmod 1000000000))]) (l := out_1) (xs := [wrapF .u32 ((wrapF .u64 ((wrapF .u64 ((wrapF .u64 (gt a i_3)) * d)) + carry_2)).tmod 1000000000)]) (iC_len .u32) rfl rfl (by kernel_rfl) hg13 hg14)) <| .mu 1 <| .done <| .nh [0, 1, 5, 7, 8] [.dead, .own [aU32 (wrapF .u32 ((wrapF .u64 ((wrapF .u64 ((wrapF .u64 (gt a i_3)) * d)) + carry_2)).tmod 1000000000))], .own ((out_1 ++ [wrapF .u32 ((wrapF .u64 ((wrapF .u64 ((wrapF .u64 (gt a i_3)) * d)) + carry_2)).tmod 1000000000)]).flatMap (iC .u32))] <| .ru fine <| .pop <| .ru fine ?_
   exact loopF_back (out_1 ++ [wrapF .u32 ((wrapF .u64 ((wrapF .u64 ((wrapF .u64 (gt a i_3)) * d)) + carry_2)).tmod 1000000000)], wrapF .u64 ((wrapF .u64 ((wrapF .u64 ((wrapF .u64 (gt a i_3)) * d)) + carry_2)).tdiv 1000000000), wrapF .i64 (i_3 + 1)) hr ((Wk.gc [0, 1, 5, 6, 7] [(2, false)] rfl (pKo (iC .u32) (iC_pure _) (out_1 ++ [wrapF .u32 ((wrapF .u64 ((wrapF .u64 ((wrapF .u64 (gt a i_3)) * d)) + carry_2)).tmod 1000000000)]) trivial)).to (by kernel_rfl))
  ·refine .leave rfl ?_
   obtain rfl := oi hr
   exact ⟨rfl, ((Wk.gc [5, 6] [(0, false)] rfl (pKo (iC .u32) (iC_pure _) out_1 trivial)).to (by kernel_rfl))⟩
 ·rcases o15 with ⟨out_8, carry_9⟩
  rintro x st' hq17
  clear hL16
  obtain ⟨rfl, hq17⟩ := hq17
  refine CQ_exit _ rfl <| .wk hq17 <| .seq ?_
  obtain ⟨hg18, hg19, hr⟩ := gd2 hr
  obtain ⟨v20, hc21, hr⟩ := bd hr
  refine .gn fine (ca4 [.dead, .own [aU32 (wrapF .u32 carry_9)], .own ((out_8 ++ [wrapF .u32 carry_9]).flatMap (iC .u32))] (callOk_ref (args := [aB false, .hs 2 0 (out_8 ++ [wrapF .u32 carry_9]).length 1]) (l := [2]) (SnL.cons (Sn.pure rfl) (SnL.cons (Sn.hs rfl (.inl rfl) (SnC.pure (ids_flat (iC_pure _) _)) (fun h => flat_nil0 h)) SnL.nil)) (fiducialref01_made_ok n false (out_8 ++ [wrapF .u32 carry_9]) v20 hc21))) <| .mu 4 <| .e0 (v := .hs 2 0 (out_8 ++ [wrapF .u32 carry_9]).length 1) (ws := [(0, .dead), (2, .own ((out_8 ++ [wrapF .u32 carry_9]).flatMap (iC .u32)))]) (tr (app_own (new := [aU32 (wrapF .u32 carry_9)]) (l := out_8) (xs := [wrapF .u32 carry_9]) (iC_len .u32) rfl rfl (by kernel_rfl) hg18 hg19)) <| .ca cf0 <| .mu 2 <| .done <| .ret ?_
  obtain rfl := oi hr
  exact FinQ.r1 [sU32 v20.Groups]

theorem fiducialref01_shifted_ok (n : Nat) (a : List Int) (d : Int) (r : List Int) (hr : fiducialref01_shifted n a d = some r) : FnOk Tryz.prog 219 [sU32 a, aU32 d] (sU32 r) := by
 unfold fiducialref01_shifted at hr
 refine FnOk.bd fine Tryz.func219 [.tmp 4] ?_
 unfold Tryz.f219
 simp only [Option.getD_some]
 refine .seq <| .r4 fine [0, 1] [] <| .seq ?_
 obtain ⟨hg1, hg2, hr⟩ := gd2 hr
 obtain ⟨v3, hc4, hr⟩ := bd hr
 refine .gn fine (ca4 [.dead, .own (([d] ++ a).flatMap (iC .u32))] (callOk_ref (args := [aB false, .hs 1 0 ([d] ++ a).length 1]) (l := [1]) (SnL.cons (Sn.pure rfl) (SnL.cons (Sn.hs rfl (.inl rfl) (SnC.pure (ids_flat (iC_pure _) _)) (fun h => flat_nil0 h)) SnL.nil)) (fiducialref01_made_ok n false ([d] ++ a) v3 hc4))) <| .mu 3 <| .e0 (v := .hs 1 0 ([d] ++ a).length 1) (ws := [(0, .dead), (1, .own (([d] ++ a).flatMap (iC .u32)))]) (Eq.trans (b := appS (decide (((a.flatMap (iC .u32))).length = a.length * 1)) (a.flatMap (iC .u32)) a.length (fun z1 z2 => guardO (decide (0 + 1 * 1 ≤ ([d].flatMap (iC .u32)).length) && decide ((1 + z2) * 4 ≤ 140737488355328) && decide (1 + z2 ≤ 4611686018427387904)) (some (.eff (.hs 1 0 (1 + z2) 1) [(0, .dead), (1, .own ((([d].flatMap (iC .u32)).drop 0).take (1 * 1) ++ z1))])))) (by kernel_rfl) (appS_t (flat_lenB (iC_len _)) rfl (app_own (l := [d]) (xs := a) (iC_len _) rfl rfl rfl hg1 hg2))) <| .ca cf0 <| .mu 2 <| .done <| .ret ?_
 obtain rfl := oi hr
 exact FinQ.r1 [sU32 v3.Groups]

theorem fiducialref01_group_inj {l : List Int} {i : Int} {l_ : List Int} {i_ : Int} (h : ([slT (iC .u32) l, .at (.int .i64 i)] : List AV) = [slT (iC .u32) l_, .at (.int .i64 i_)]) : l = l_ ∧ i = i_ := by
 simp only [List.cons.injEq, AV.agg.injEq, AV.at.injEq, Value.int.injEq, Value.bool.injEq, AV.fn.injEq, AV.pp.injEq, true_and, and_true, slT_inj_int] at h
 simp_all
theorem fiducialref01_group_cg (n : Nat) {l : List Int} {i : Int} {l_ : List Int} {i_ : Int} (h : ([slT (iC .u32) l, .at (.int .i64 i)] : List AV) = [slT (iC .u32) l_, .at (.int .i64 i_)]) : fiducialref01_group n l i = fiducialref01_group n l_ i_ := by
 obtain ⟨rfl, rfl⟩ := fiducialref01_group_inj h
 rfl
theorem fiducialref01_group_ok (n : Nat) (l : List Int) (i : Int) (r : Int) (hr : fiducialref01_group n l i = some r) : FnOk Tryz.prog 220 [sU32 l, aI64 i] (aU64 r) := by
 unfold fiducialref01_group at hr
 refine FnOk.bd fine Tryz.func220 [.tmp 4] ?_
 unfold Tryz.f220
 simp only [Option.getD_some]
 refine .seq <| .r4 fine [0, 1] [] <| .seq <| .seq <| .r4 fine [0, 1] [(8, aB (decide (i < (l.length : Int))))] ?_
 refine .cd hr (fun hb1 hr => ?_) (fun hb1 hr => ?_)
 ·refine .seq ?_
  obtain ⟨hg2, hr⟩ := gd hr
  refine .r0 fine <| .mu 2 <| .p0 (v := .pp (l.flatMap (iC .u32)) (i.toNat * 1)) (tr (ofP_guard hg2)) <| .p0 (v := aU32 (gt l i)) (tr (ofP_some (flat_get (iC_len .u32) (inR_lt hg2) (by decide : 0 < 1) (by omega : i.toNat * 1 = i.toNat * 1 + 0) (by kernel_rfl)))) <| .mu 2 <| .done <| .ret ?_
  obtain rfl := oi hr
  exact FinQ.r1 [aU64 (wrapF .u64 (gt l i))]
 ·refine .skip <| .seq <| .ru fine <| .ret ?_
  obtain rfl := oi hr
  exact FinQ.r1 [aU64 0]

theorem fiducialref01_minus_ok (n : Nat) (a : List Int) (b : List Int) (r : List Int) (hr : fiducialref01_minus n a b = some r) : FnOk Tryz.prog 221 [sU32 a, sU32 b] (sU32 r) := by
 unfold fiducialref01_minus at hr
 refine FnOk.bd fine Tryz.func221 [.tmp 4] ?_
 unfold Tryz.f221
 simp only [Option.getD_some]
 refine .seq <| .r4 fine [0, 1] [] <| .seq <| .r5 fine [0, 1] [(5, .hs 0 0 0 1)] [.own []] <| .seq <| .r4 fine [0, 1, 5] [(6, aU64 0)] <| .seq <| .seq <| .r4 fine [0, 1, 5, 6] [(7, aI64 0)] <| .block ?_
 replace hr := bd hr; obtain ⟨out_11, hL21, hr⟩ := hr
 refine .loopO (σ := fun z0 => match z0 with | (out_1, borrow_2, i_3) => ⟨mkS 38 0 [(0, sU32 a), (1, sU32 b), (5, .hs 0 0 out_1.length 1), (6, aU64 borrow_2), (7, aI64 i_3)], [.own (out_1.flatMap (iC .u32))]⟩) (Q := fun x st' => x = .exit 0 ∧ Wk 0 st' ⟨mkS 38 0 [(5, .hs 0 0 out_11.length 1)], [.own (out_11.flatMap (iC .u32))]⟩) hL21 ((Wk.gc [0, 1, 5, 6, 7] [(0, false)] rfl (pKc trivial)).to (by kernel_rfl)) ?_ ?_
 ·clear hr
  rintro m ⟨out_1, borrow_2, i_3⟩ hr
  show CQ _ _ _ _ _ ⟨_, _⟩
  refine .seq <| .seq <| .r4 fine [0, 1, 5, 6, 7] [(13, aB (decide (i_3 < (a.length : Int))))] ?_
  refine .cd hr (fun hb13 hr => ?_) (fun hb13 hr => ?_)
  ·refine .skip <| .seq <| .block <| .seq ?_
   obtain ⟨v14, hc15, v16, hc17, hr⟩ := bd2 hr
   refine .gn fine (ca1 (ok0 (fiducialref01_group_ok n a i_3 v14 hc15)) (ca3 (ok0 (fiducialref01_group_ok n b i_3 v16 hc17)))) <| .mu 2 <| .ca cf0 <| .mu 3 <| .ca (cfA (fun h => by rw [sv hc17 hc15 (fiducialref01_group_cg n h)]) cf0) <| .mu 4 <| .done <| .nh [0, 1, 5, 7, 8] [.own (out_1.flatMap (iC .u32))] <| .seq ?_
   obtain ⟨hg18, hg19, hr⟩ := gd2 hr
   refine .r0 fine <| .mu 5 <| .e0 (v := .hs 2 0 (out_1 ++ [wrapF .u32 ((wrapF .u64 ((wrapF .u64 ((wrapF .u64 (1000000000 + v14)) - v16)) - borrow_2)).tmod 1000000000)]).length 1) (ws := [(0, .dead), (2, .own ((out_1 ++ [wrapF .u32 ((wrapF .u64 ((wrapF .u64 ((wrapF .u64 (1000000000 + v14)) - v16)) - borrow_2)).tmod 1000000000)]).flatMap (iC .u32)))]) (tr (app_own (new := [aU32 (wrapF .u32 ((wrapF .u64 ((wrapF .u64 ((wrapF .u64 (1000000000 + v14)) - v16)) - borrow_2)).tmod 1000000000))]) (l := out_1) (xs := [wrapF .u32 ((wrapF .u64 ((wrapF .u64 ((wrapF .u64 (1000000000 + v14)) - v16)) - borrow_2)).tmod 1000000000)]) (iC_len .u32) rfl rfl (by kernel_rfl) hg18 hg19)) <| .mu 1 <| .done <| .nh [0, 1, 5, 7, 8] [.dead, .own [aU32 (wrapF .u32 ((wrapF .u64 ((wrapF .u64 ((wrapF .u64 (1000000000 + v14)) - v16)) - borrow_2)).tmod 1000000000))], .own ((out_1 ++ [wrapF .u32 ((wrapF .u64 ((wrapF .u64 ((wrapF .u64 (1000000000 + v14)) - v16)) - borrow_2)).tmod 1000000000)]).flatMap (iC .u32))] <| .ru fine <| .pop <| .ru fine ?_
   exact loopF_back (out_1 ++ [wrapF .u32 ((wrapF .u64 ((wrapF .u64 ((wrapF .u64 (1000000000 + v14)) - v16)) - borrow_2)).tmod 1000000000)], wrapF .u64 (1 - (wrapF .u64 ((wrapF .u64 ((wrapF .u64 ((wrapF .u64 (1000000000 + v14)) - v16)) - borrow_2)).tdiv 1000000000))), wrapF .i64 (i_3 + 1)) hr ((Wk.gc [0, 1, 5, 6, 7] [(2, false)] rfl (pKo (iC .u32) (iC_pure _) (out_1 ++ [wrapF .u32 ((wrapF .u64 ((wrapF .u64 ((wrapF .u64 (1000000000 + v14)) - v16)) - borrow_2)).tmod 1000000000)]) trivial)).to (by kernel_rfl))
  ·refine .leave rfl ?_
   obtain rfl := oi hr
   exact ⟨rfl, ((Wk.gc [5] [(0, false)] rfl (pKo (iC .u32) (iC_pure _) out_1 trivial)).to (by kernel_rfl))⟩
 ·rintro x st' hq22
  clear hL21
  obtain ⟨rfl, hq22⟩ := hq22
  refine CQ_exit _ rfl <| .wk hq22 <| .seq ?_
  obtain ⟨v23, hc24, hr⟩ := bd hr
  refine .g1 fine (callOk_ref (args := [aB false, .hs 0 0 out_11.length 1]) (l := [0]) (SnL.cons (Sn.pure rfl) (SnL.cons (Sn.hs rfl (.inl rfl) (SnC.pure (ids_flat (iC_pure _) _)) (fun h => flat_nil0 h)) SnL.nil)) (fiducialref01_made_ok n false out_11 v23 hc24)) <| .mu 1 <| .ca cf0 <| .mu 2 <| .done <| .ret ?_
  obtain rfl := oi hr
  exact FinQ.r1 [sU32 v23.Groups]

theorem fiducialref01_parts_ok (n : Nat) (a : List Int) (b : List Int) (r : List Int × List Int) (hr : fiducialref01_parts n a b = some r) : FnOk Tryz.prog 189 [sU32 a, sU32 b] (.tup [sU32 r.1, sU32 r.2]) := by
 unfold fiducialref01_parts at hr
 refine FnOk.bd fine Tryz.func189 [.tmp 4, .tmp 5] ?_
 unfold Tryz.f189
 simp only [Option.getD_some]
 refine .seq <| .r4 fine [0, 1] [] <| .seq <| .r4 fine [0, 1] [(6, aI64 (b.length : Int))] <| .seq <| .seq <| .r4 fine [0, 1, 6] [(19, aB (((b.length : Int) : Int) == 1))] ?_
 refine .cd hr (fun hb1 hr => ?_) (fun hb1 hr => ?_)
 ·refine .seq ?_
  obtain ⟨hg2, hr⟩ := gd hr
  obtain ⟨v3, hc4, hr⟩ := bd hr
  refine .g1 fine (ok0 (fiducialref01_short_ok n a (wrapF .u64 (gt b 0)) v3 hc4)) <| .mu 2 <| .p0 (v := .pp (b.flatMap (iC .u32)) ((0 : Int).toNat * 1)) (tr (ofP_guard hg2)) <| .p0 (v := aU32 (gt b 0)) (tr (ofP_some (flat_get (iC_len .u32) (inR_lt hg2) (by decide : 0 < 1) (by omega : (0 : Int).toNat * 1 = (0 : Int).toNat * 1 + 0) (by kernel_rfl)))) <| .mu 1 <| .ca cf0 <| .mu 5 <| .done <| .nh [7, 8] [] <| .seq ?_
  obtain ⟨v5, hc6, hr⟩ := bd hr
  refine .gn fine (ca4 [.own [aU32 (wrapF .u32 v3.2)]] (callOk_ref (args := [aB false, .hs 0 0 1 1]) (l := [0]) (SnL.cons (Sn.pure rfl) (SnL.cons (Sn.hs rfl (.inl rfl) (SnC.cons (Sn.pure rfl) SnC.nil) (fun h => nomatch h)) SnL.nil)) (fiducialref01_made_ok n false [(wrapF .u32 v3.2)] v5 hc6))) <| .mu 4 <| .ca cf0 <| .mu 3 <| .done <| .ret ?_
  obtain rfl := oi hr
  exact FinQ.ret (vs := [sU32 v3.1, sU32 v5.Groups]) (by kernel_rfl) (Sn.tup (SnL.cons (Sn.pure rfl) (SnL.cons (Sn.pure rfl) SnL.nil)))
 ·refine .skip <| .seq <| .seq ?_
  obtain ⟨v7, hc8, hr⟩ := bd hr
  refine .g1 fine (ok0 (fiducialref01_size_ok n a b v7 hc8)) <| .mu 2 <| .ca cf0 <| .mu 1 <| .done <| .nh [0, 1, 6, 38] [] ?_
  refine .cd hr (fun hb9 hr => ?_) (fun hb9 hr => ?_)
  ·refine .seq <| .r5 fine [] [(4, .hs 0 0 0 1), (5, sU32 a)] [.own []] <| .ret ?_
   obtain rfl := oi hr
   exact FinQ.ret (vs := [.hs 0 0 0 1, sU32 a]) (by kernel_rfl) (Sn.tup (SnL.cons (Sn.hs rfl (.inl rfl) SnC.nil (fun _ => rfl)) (SnL.cons (Sn.pure rfl) SnL.nil)))
  ·refine .skip <| .seq ?_
   obtain ⟨hg10, hg11, hr⟩ := gd2 hr
   refine .r0 fine <| .mu 3 <| .p0 (v := .pp (b.flatMap (iC .u32)) ((wrapF .i64 ((b.length : Int) - 1)).toNat * 1)) (tr (ofP_guard hg10)) <| .p0 (v := aU32 (gt b (wrapF .i64 ((b.length : Int) - 1)))) (tr (ofP_some (flat_get (iC_len .u32) (inR_lt hg10) (by decide : 0 < 1) (by omega : (wrapF .i64 ((b.length : Int) - 1)).toNat * 1 = (wrapF .i64 ((b.length : Int) - 1)).toNat * 1 + 0) (by kernel_rfl)))) <| .mu 2 <| .p0 (v := aU64 (wrapF .u64 ((1000000000 : Int).tdiv (wrapF .u64 ((wrapF .u64 (gt b (wrapF .i64 ((b.length : Int) - 1)))) + 1))))) (op_quo (x := 1000000000) (y := wrapF .u64 ((wrapF .u64 (gt b (wrapF .i64 ((b.length : Int) - 1)))) + 1)) (by kernel_rfl) (by kernel_rfl) hg11) <| .mu 1 <| .done <| .nh [0, 1, 6, 9] [] <| .seq ?_
   obtain ⟨v12, hc13, v14, hc15, hr⟩ := bd2 hr
   refine .gn fine (ca1 (ok0 (fiducialref01_scaled_ok n a (wrapF .u64 ((1000000000 : Int).tdiv (wrapF .u64 ((wrapF .u64 (gt b (wrapF .i64 ((b.length : Int) - 1)))) + 1)))) v12 hc13)) (ca3 (ok0 (fiducialref01_scaled_ok n b (wrapF .u64 ((1000000000 : Int).tdiv (wrapF .u64 ((wrapF .u64 (gt b (wrapF .i64 ((b.length : Int) - 1)))) + 1)))) v14 hc15)))) <| .mu 2 <| .ca cf0 <| .mu 2 <| .ca (cfA (fun h => by rw [sv hc15 hc13 (fiducialref01_scaled_cg n h)]) cf0) <| .mu 2 <| .done <| .nh [0, 1, 6, 9] [] <| .seq ?_
   obtain ⟨hg16, hr⟩ := gd hr
   obtain ⟨v17, hc18, hr⟩ := bd hr
   refine .g1 fine (ok0 (fiducialref01_made_ok n false ((v12.drop (wrapF .i64 ((wrapF .i64 ((v12.length : Int) - (b.length : Int))) + 1)).toNat).take ((v12.length : Int).toNat - (wrapF .i64 ((wrapF .i64 ((v12.length : Int) - (b.length : Int))) + 1)).toNat)) v17 hc18)) <| .mu 6 <| .p0 (v := sU32 ((v12.drop (wrapF .i64 ((wrapF .i64 ((v12.length : Int) - (b.length : Int))) + 1)).toNat).take ((v12.length : Int).toNat - (wrapF .i64 ((wrapF .i64 ((v12.length : Int) - (b.length : Int))) + 1)).toNat))) (Eq.trans (b := slO (inS (wrapF .i64 ((wrapF .i64 ((v12.length : Int) - (b.length : Int))) + 1)) (v12.length : Int) v12.length) (wrapF .i64 ((wrapF .i64 ((v12.length : Int) - (b.length : Int))) + 1)).toNat (v12.length : Int).toNat (fun z1 z2 => .sl true (((v12.flatMap (iC .u32)).drop (z1 * 1)).take ((z2 - z1) * 1)) (z2 - z1))) (by kernel_rfl) (slO_t hg16 (sub_sl (iC_len _) (inS_le hg16)))) <| .ca cf0 <| .mu 2 <| .done <| .nh [0, 1, 6, 9, 10] [] <| .seq ?_
   obtain ⟨hg19, hg20, hg21, hr⟩ := gd3 hr
   refine .r0 fine <| .mu 5 <| .e0 (v := .hs 0 0 (List.replicate (wrapF .i64 ((wrapF .i64 ((v12.length : Int) - (b.length : Int))) + 1)).toNat ((0 : Int) : Int)).length 1) (ws := [(0, .own ((List.replicate (wrapF .i64 ((wrapF .i64 ((v12.length : Int) - (b.length : Int))) + 1)).toNat ((0 : Int) : Int)).flatMap (iC .u32)))]) (tr (make_own (c := (iC .u32)) (z := (0 : Int)) (n := wrapF .i64 ((wrapF .i64 ((v12.length : Int) - (b.length : Int))) + 1)) (by_ := 4) rfl hg19 hg20 hg21)) <| .mu 1 <| .done <| .nh [0, 1, 6, 9, 10, 11] [.own ((List.replicate (wrapF .i64 ((wrapF .i64 ((v12.length : Int) - (b.length : Int))) + 1)).toNat ((0 : Int) : Int)).flatMap (iC .u32))] <| .seq <| .seq <| .r4 fine [0, 1, 6, 9, 10, 11] [(12, aI64 (wrapF .i64 ((v12.length : Int) - (b.length : Int))))] <| .block ?_
   replace hr := bd hr; obtain ⟨o94, hL95, hr⟩ := hr
   refine .loopO (σ := fun z0 => match z0 with | (rest_22, q_23, i_24) => ⟨mkS 130 0 [(0, sU32 v12), (1, sU32 v14), (6, aI64 (b.length : Int)), (9, aU64 (wrapF .u64 ((1000000000 : Int).tdiv (wrapF .u64 ((wrapF .u64 (gt b (wrapF .i64 ((b.length : Int) - 1)))) + 1))))), (10, sU32 rest_22), (11, .hs 0 0 q_23.length 1), (12, aI64 i_24)], [.own (q_23.flatMap (iC .u32))]⟩) (Q := fun x st' => match (generalizing := false) o94 with | (rest_58, q_59) => x = .exit 0 ∧ Wk 0 st' ⟨mkS 130 0 [(9, aU64 (wrapF .u64 ((1000000000 : Int).tdiv (wrapF .u64 ((wrapF .u64 (gt b (wrapF .i64 ((b.length : Int) - 1)))) + 1))))), (10, sU32 rest_58), (11, .hs 0 0 q_59.length 1)], [.own (q_59.flatMap (iC .u32))]⟩) hL95 ((Wk.gc [0, 1, 6, 9, 10, 11, 12] [(0, false)] rfl (pKo (iC .u32) (iC_pure _) (List.replicate (wrapF .i64 ((wrapF .i64 ((v12.length : Int) - (b.length : Int))) + 1)).toNat ((0 : Int) : Int)) trivial)).to (by kernel_rfl)) ?_ ?_
   ·clear hr
    rintro m ⟨rest_22, q_23, i_24⟩ hr
    show CQ _ _ _ _ _ ⟨_, _⟩
    refine .seq <| .seq <| .r4 fine [0, 1, 6, 9, 10, 11, 12] [(75, aB (decide (i_24 ≥ 0)))] ?_
    refine .cd hr (fun hb61 hr => ?_) (fun hb61 hr => ?_)
    ·refine .skip <| .seq <| .block <| .seq ?_
     obtain ⟨hg62, hr⟩ := gd hr
     obtain ⟨v63, hc64, hr⟩ := bd hr
     refine .g1 fine (ok0 (fiducialref01_shifted_ok n rest_22 (gt v12 i_24) v63 hc64)) <| .mu 3 <| .p0 (v := .pp (v12.flatMap (iC .u32)) (i_24.toNat * 1)) (tr (ofP_guard hg62)) <| .p0 (v := aU32 (gt v12 i_24)) (tr (ofP_some (flat_get (iC_len .u32) (inR_lt hg62) (by decide : 0 < 1) (by omega : i_24.toNat * 1 = i_24.toNat * 1 + 0) (by kernel_rfl)))) <| .ca cf0 <| .mu 1 <| .done <| .nh [0, 1, 6, 9, 10, 11, 12] [.own (q_23.flatMap (iC .u32))] <| .seq ?_
     obtain ⟨v65, hc66, v67, hc68, hr⟩ := bd2 hr
     obtain ⟨hg69, hg70, hr⟩ := gd2 hr
     refine .tn fine (ca1 (ok0 (fiducialref01_group_ok n v63 (b.length : Int) v65 hc66)) (ca3 (ok0 (fiducialref01_group_ok n v63 (wrapF .i64 ((b.length : Int) - 1)) v67 hc68)))) <| .mu 2 <| .ca cf0 <| .mu 4 <| .ca (cfA (fun h => by rw [sv hc68 hc66 (fiducialref01_group_cg n h)]) cf0) <| .mu 4 <| .pure (v := .pp (v14.flatMap (iC .u32)) ((wrapF .i64 ((b.length : Int) - 1)).toNat * 1)) (by kernel_rfl) (tr (ofP_guard hg69)) (by kernel_rfl) <| .pure (v := aU32 (gt v14 (wrapF .i64 ((b.length : Int) - 1)))) (by kernel_rfl) (tr (ofP_some (flat_get (iC_len .u32) (inR_lt hg69) (by decide : 0 < 1) (by omega : (wrapF .i64 ((b.length : Int) - 1)).toNat * 1 = (wrapF .i64 ((b.length : Int) - 1)).toNat * 1 + 0) (by kernel_rfl)))) (by kernel_rfl) <| .mu 2 <| .pure (v := aU64 (wrapF .u64 ((wrapF .u64 ((wrapF .u64 (v65 * 1000000000)) + v67)).tdiv (wrapF .u64 ((wrapF .u64 (gt v14 (wrapF .i64 ((b.length : Int) - 1)))) + 1))))) (by kernel_rfl) (op_quo (x := wrapF .u64 ((wrapF .u64 (v65 * 1000000000)) + v67)) (y := wrapF .u64 ((wrapF .u64 (gt v14 (wrapF .i64 ((b.length : Int) - 1)))) + 1)) (by kernel_rfl) (by kernel_rfl) hg70) (by kernel_rfl) <| .mu 1 ?_
     refine .done ⟨by kernel_rfl, ?_⟩
     refine .nh [0, 1, 6, 9, 10, 11, 12, 13] [.own (q_23.flatMap (iC .u32))] <| .seq ?_
     obtain ⟨v71, hc72, v73, hc74, hr⟩ := bd2 hr
     refine .gn fine (ca1 (ok0 (fiducialref01_scaled_ok n v14 (wrapF .u64 ((wrapF .u64 ((wrapF .u64 (v65 * 1000000000)) + v67)).tdiv (wrapF .u64 ((wrapF .u64 (gt v14 (wrapF .i64 ((b.length : Int) - 1)))) + 1)))) v71 hc72)) (ca3 (ok0 (fiducialref01_minus_ok n v63 v71 v73 hc74)))) <| .mu 3 <| .ca cf0 <| .ca (cfF cf0) <| .mu 1 <| .done <| .nh [0, 1, 6, 9, 10, 11, 12, 13] [.own (q_23.flatMap (iC .u32))] <| .seq <| .block ?_
     replace hr := bd hr; obtain ⟨o90, hL91, hr⟩ := hr
     refine .loopO (σ := fun z0 => match z0 with | (rest_75, guess_76) => ⟨mkS 130 0 [(0, sU32 v12), (1, sU32 v14), (6, aI64 (b.length : Int)), (9, aU64 (wrapF .u64 ((1000000000 : Int).tdiv (wrapF .u64 ((wrapF .u64 (gt b (wrapF .i64 ((b.length : Int) - 1)))) + 1))))), (10, sU32 rest_75), (11, .hs 0 0 q_23.length 1), (12, aI64 i_24), (13, aU64 guess_76)], [.own (q_23.flatMap (iC .u32))]⟩) (Q := fun x st' => match (generalizing := false) o90 with | (rest_82, guess_83) => x = .exit 2 ∧ Wk 0 st' ⟨mkS 130 0 [(0, sU32 v12), (1, sU32 v14), (6, aI64 (b.length : Int)), (9, aU64 (wrapF .u64 ((1000000000 : Int).tdiv (wrapF .u64 ((wrapF .u64 (gt b (wrapF .i64 ((b.length : Int) - 1)))) + 1))))), (10, sU32 rest_82), (11, .hs 0 0 q_23.length 1), (12, aI64 i_24), (13, aU64 guess_83)], [.own (q_23.flatMap (iC .u32))]⟩) hL91 ((Wk.gc [0, 1, 6, 9, 10, 11, 12, 13] [(0, false)] rfl (pKo (iC .u32) (iC_pure _) q_23 trivial)).to (by kernel_rfl)) ?_ ?_
     ·clear hr
      rintro m ⟨rest_75, guess_76⟩ hr
      show CQ _ _ _ _ _ ⟨_, _⟩
      refine .seq <| .seq ?_
      obtain ⟨v85, hc86, hr⟩ := bd hr
      refine .g1 fine (ok0 (fiducialref01_size_ok n rest_75 v14 v85 hc86)) <| .mu 2 <| .ca cf0 <| .mu 1 <| .done <| .nh [0, 1, 6, 9, 10, 11, 12, 13, 109] [.own (q_23.flatMap (iC .u32))] ?_
      refine .cd hr (fun hb87 hr => ?_) (fun hb87 hr => ?_)
      ·refine .skip <| .block <| .seq ?_
       obtain ⟨v88, hc89, hr⟩ := bd hr
       refine .g1 fine (ok0 (fiducialref01_minus_ok n rest_75 v14 v88 hc89)) <| .mu 2 <| .ca cf0 <| .mu 1 <| .done <| .nh [0, 1, 6, 9, 10, 11, 12, 13] [.own (q_23.flatMap (iC .u32))] <| .ru fine <| .pop ?_
       exact loopF_back (v88, wrapF .u64 (guess_76 + 1)) hr ((Wk.gc [0, 1, 6, 9, 10, 11, 12, 13] [(0, false)] rfl (pKo (iC .u32) (iC_pure _) q_23 trivial)).to (by kernel_rfl))
      ·refine .leave rfl ?_
       obtain rfl := oi hr
       exact ⟨rfl, ((Wk.gc [0, 1, 6, 9, 10, 11, 12, 13] [(0, false)] rfl (pKo (iC .u32) (iC_pure _) q_23 trivial)).to (by kernel_rfl))⟩
     ·rcases o90 with ⟨rest_82, guess_83⟩
      rintro x st' hq92
      clear hL91
      obtain ⟨rfl, hq92⟩ := hq92
      refine CQ_exit _ rfl <| .wk hq92 ?_
      obtain ⟨hg93, hr⟩ := gd hr
      refine .r0 fine <| .mu 4 <| .p0 (v := .hp 0 (0 + i_24.toNat * 1)) (tr (ofP_guard hg93)) <| .e0 (v := .unk) (ws := [(0, .own ((q_23.set i_24.toNat (wrapF .u32 guess_83)).flatMap (iC .u32)))]) (tr (stO_t (and_t (flat_fits (n := 1) (iC_len .u32) (inR_lt hg93) (Nat.le_of_ble_eq_true rfl) (by omega : 0 + i_24.toNat * 1 = i_24.toNat * 1 + 0))) (congrArg Blk.own (flat_set (xs := [aU32 (wrapF .u32 guess_83)]) (iC_len .u32) (inR_lt hg93) (Nat.le_of_ble_eq_true rfl) (by omega : 0 + i_24.toNat * 1 = i_24.toNat * 1 + 0) (by kernel_rfl))))) <| .done <| .pop <| .ru fine ?_
      exact loopF_back (rest_82, q_23.set i_24.toNat (wrapF .u32 guess_83), wrapF .i64 (i_24 - 1)) hr ((Wk.relen 11 (b := 0) (es := 1) (len := q_23.length) (q_23.set i_24.toNat (wrapF .u32 guess_83)).length (by kernel_rfl) (Eq.symm (List.length_set.trans rfl))).trans ((Wk.gc [0, 1, 6, 9, 10, 11, 12] [(0, false)] rfl (pKo (iC .u32) (iC_pure _) (q_23.set i_24.toNat (wrapF .u32 guess_83)) trivial)).to (by kernel_rfl)))
    ·refine .leave rfl ?_
     obtain rfl := oi hr
     exact ⟨rfl, ((Wk.gc [9, 10, 11] [(0, false)] rfl (pKo (iC .u32) (iC_pure _) q_23 trivial)).to (by kernel_rfl))⟩
   ·rcases o94 with ⟨rest_58, q_59⟩
    rintro x st' hq96
    clear hL95
    obtain ⟨rfl, hq96⟩ := hq96
    refine CQ_exit _ rfl <| .wk hq96 <| .seq ?_
    obtain ⟨v97, hc98, hr⟩ := bd hr
    refine .g1 fine (ok0 (fiducialref01_short_ok n rest_58 (wrapF .u64 ((1000000000 : Int).tdiv (wrapF .u64 ((wrapF .u64 (gt b (wrapF .i64 ((b.length : Int) - 1)))) + 1)))) v97 hc98)) <| .mu 2 <| .ca cf0 <| .mu 5 <| .done <| .nh [11, 14] [.own (q_59.flatMap (iC .u32))] <| .seq ?_
    obtain ⟨v99, hc100, hr⟩ := bd hr
    refine .g1 fine (callOk_ref (args := [aB false, .hs 0 0 q_59.length 1]) (l := [0]) (SnL.cons (Sn.pure rfl) (SnL.cons (Sn.hs rfl (.inl rfl) (SnC.pure (ids_flat (iC_pure _) _)) (fun h => flat_nil0 h)) SnL.nil)) (fiducialref01_made_ok n false q_59 v99 hc100)) <| .mu 1 <| .ca cf0 <| .mu 4 <| .done <| .ret ?_
    obtain rfl := oi hr
    exact FinQ.ret (vs := [sU32 v99.Groups, sU32 v97.1]) (by kernel_rfl) (Sn.tup (SnL.cons (Sn.pure rfl) (SnL.cons (Sn.pure rfl) SnL.nil)))

theorem fiducialref01_pair_inj {a : List Int} {a_ : List Int} (h : ([slT (iC .u32) a] : List AV) = [slT (iC .u32) a_]) : a = a_ := by
 simp only [List.cons.injEq, AV.agg.injEq, AV.at.injEq, Value.int.injEq, Value.bool.injEq, AV.fn.injEq, AV.pp.injEq, true_and, and_true, slT_inj_int] at h
 simp_all
theorem fiducialref01_pair_cg (n : Nat) {a : List Int} {a_ : List Int} (h : ([slT (iC .u32) a] : List AV) = [slT (iC .u32) a_]) : fiducialref01_pair n a = fiducialref01_pair n a_ := by
 obtain rfl := fiducialref01_pair_inj h
 rfl
theorem fiducialref01_pair_ok (n : Nat) (a : List Int) (r : Int) (hr : fiducialref01_pair n a = some r) : FnOk Tryz.prog 191 [sU32 a] (aU64 r) := by
 unfold fiducialref01_pair at hr
 refine FnOk.bd fine Tryz.func191 [.tmp 2] ?_
 unfold Tryz.f191
 simp only [Option.getD_some]
 refine .seq <| .r4 fine [0] [] <| .seq ?_
 obtain ⟨v1, hc2, v3, hc4, hr⟩ := bd2 hr
 refine .gn fine (ca1 (ok0 (fiducialref01_group_ok n a 1 v1 hc2)) (ca3 (ok0 (fiducialref01_group_ok n a 0 v3 hc4)))) <| .mu 1 <| .ca cf0 <| .mu 2 <| .ca (cfA (fun h => by rw [sv hc4 hc2 (fiducialref01_group_cg n h)]) cf0) <| .mu 2 <| .done <| .ret ?_
 obtain rfl := oi hr
 exact FinQ.r1 [aU64 (wrapF .u64 ((wrapF .u64 (v1 * 1000000000)) + v3))]

theorem fiducialref01_Gcd_ok (n : Nat) (x' : api_Int) (y : api_Int) (r : api_Int) (hr : fiducialref01_Gcd n x' y = some r) : FnOk Tryz.prog 139 [.agg (api_Int.c x'), .agg (api_Int.c y)] (.agg (api_Int.c r)) := by
 unfold fiducialref01_Gcd at hr
 refine FnOk.bd fine Tryz.func139 [.cell 4 72] ?_
 unfold Tryz.f139
 simp only [Option.getD_some]
 refine .seq <| .r2 fine 61 [(2, .hp 0 0), (3, .hp 1 0), (4, .hp 2 0)] [.own (api_Int.c x'), .own (api_Int.c y), .own [aB false, nS]] <| .seq ?_
 obtain ⟨v1, hc2, v3, hc4, hr⟩ := bd2 hr
 refine .tn fine (ca1 (ok0 (fiducialref01_Value_ok n x' v1 hc2)) (ca3 (ok0 (fiducialref01_Value_ok n y v3 hc4)))) <| .mu 1 <| .ca cf0 <| .mu 2 <| .ca (cfA (fun h => by rw [sv hc4 hc2 (fiducialref01_Value_cg n h)]) cf0) <| .mu 3 ?_
 refine .done ⟨by kernel_rfl, ?_⟩
 refine .nh [4, 5, 6] [.own (api_Int.c x'), .own (api_Int.c y), .own [aB false, nS]] <| .seq <| .block ?_
 replace hr := bd hr; obtain ⟨o24, hL25, hr⟩ := hr
 refine .loopO (σ := fun z0 => match z0 with | (a_5, b_6) => ⟨mkS 61 0 [(4, .hp 0 0), (5, sU32 a_5), (6, sU32 b_6)], [.own [aB false, nS]]⟩) (Q := fun x st' => match (generalizing := false) o24 with | (a_14, b_15) => x = .exit 0 ∧ Wk 0 st' ⟨mkS 61 0 [(4, .hp 0 0), (5, sU32 a_14), (6, sU32 b_15)], [.own [aB false, nS]]⟩) hL25 ((Wk.gc [4, 5, 6] [(2, true)] rfl trivial).to (by kernel_rfl)) ?_ ?_
 ·clear hr
  rintro m ⟨a_5, b_6⟩ hr
  show CQ _ _ _ _ _ ⟨_, _⟩
  refine .seq <| .seq ?_
  rcases Bool.eq_false_or_eq_true (decide ((b_6.length : Int) > 0)) with hb17 | hb17
  ·replace hr := cd_t hb17 hr
   rcases Bool.eq_false_or_eq_true (decide ((a_5.length : Int) > 2)) with hb18 | hb18
   ·replace hr := cd_t hb18 hr
    refine .r0 fine <| .mu 2 <| .p0 (v := aB true) (eB hb17) <| .mu 3 <| .pure (v := aB true) (by kernel_rfl) (eB hb18) <| .mu 6 <| .done <| .nh [4, 5, 6, 29] [.own [aB false, nS]] <| .cT (by kernel_rfl) <| .skip <| .block <| .seq ?_
    obtain ⟨v19, hc20, hr⟩ := bd hr
    refine .g1 fine (ok0 (fiducialref01_parts_ok n a_5 b_6 v19 hc20)) <| .mu 2 <| .ca cf0 <| .mu 5 <| .done <| .nh [4, 6, 8] [.own [aB false, nS]] <| .ru fine <| .pop ?_
    exact loopF_back (b_6, v19.2) hr ((Wk.gc [4, 5, 6] [(0, true)] rfl trivial).to (by kernel_rfl))
   ·replace hr := cd_f hb18 hr
    refine .r0 fine <| .mu 2 <| .p0 (v := aB true) (eB hb17) <| .mu 3 <| .pure (v := aB false) (by kernel_rfl) (eB hb18) <| .mu 6 <| .done <| .nh [4, 5, 6, 29] [.own [aB false, nS]] ?_
    refine .cd hr (fun hb21 hr => ?_) (fun hb21 hr => ?_)
    ·refine .skip <| .block <| .seq ?_
     obtain ⟨v22, hc23, hr⟩ := bd hr
     refine .g1 fine (ok0 (fiducialref01_parts_ok n a_5 b_6 v22 hc23)) <| .mu 2 <| .ca cf0 <| .mu 5 <| .done <| .nh [4, 6, 8] [.own [aB false, nS]] <| .ru fine <| .pop ?_
     exact loopF_back (b_6, v22.2) hr ((Wk.gc [4, 5, 6] [(0, true)] rfl trivial).to (by kernel_rfl))
    ·refine .leave rfl ?_
     obtain rfl := oi hr
     exact ⟨rfl, ((Wk.gc [4, 5, 6] [(0, true)] rfl trivial).to (by kernel_rfl))⟩
  ·replace hr := cd_f hb17 hr
   refine .r0 fine <| .mu 2 <| .p0 (v := aB false) (eB hb17) <| .mu 10 <| .done <| .nh [4, 5, 6, 29] [.own [aB false, nS]] <| .cF (by kernel_rfl) <| .leave rfl ?_
   obtain rfl := oi hr
   exact ⟨rfl, ((Wk.gc [4, 5, 6] [(0, true)] rfl trivial).to (by kernel_rfl))⟩
 ·rcases o24 with ⟨a_14, b_15⟩
  rintro x st' hq26
  clear hL25
  obtain ⟨rfl, hq26⟩ := hq26
  refine CQ_exit _ rfl <| .wk hq26 <| .seq <| .seq <| .r4 fine [4, 5, 6] [(40, aB (((b_15.length : Int) : Int) == 0))] ?_
  refine .cd hr (fun hb27 hr => ?_) (fun hb27 hr => ?_)
  ·refine .seq ?_
   obtain ⟨v28, hc29, hr⟩ := bd hr
   refine .g1 fine (ok0 (fiducialref01_made_ok n false a_14 v28 hc29)) <| .mu 1 <| .ca cf0 <| .mu 1 <| .done <| .nh [4] [.own (api_Int.c v28)] <| .ret ?_
   obtain rfl := oi hr
   exact FinQ.r1 [.agg (api_Int.c v28)]
  ·refine .skip <| .seq ?_
   obtain ⟨v30, hc31, v32, hc33, hr⟩ := bd2 hr
   refine .gn fine (ca1 (ok0 (fiducialref01_pair_ok n a_14 v30 hc31)) (ca3 (ok0 (fiducialref01_pair_ok n b_15 v32 hc33)))) <| .mu 1 <| .ca cf0 <| .mu 1 <| .ca (cfA (fun h => by rw [sv hc33 hc31 (fiducialref01_pair_cg n h)]) cf0) <| .mu 2 <| .done <| .nh [4, 9, 10] [.own [aB false, nS]] <| .seq <| .block ?_
   replace hr := bd hr; obtain ⟨u_38, hL43, hr⟩ := hr
   refine .loopO (σ := fun z0 => match z0 with | (u_34, v_35) => ⟨mkS 61 0 [(4, .hp 0 0), (9, aU64 u_34), (10, aU64 v_35)], [.own [aB false, nS]]⟩) (Q := fun x st' => x = .exit 2 ∧ Wk 0 st' ⟨mkS 61 0 [(4, .hp 0 0), (9, aU64 u_38)], [.own [aB false, nS]]⟩) hL43 ((Wk.gc [4, 9, 10] [(0, true)] rfl trivial).to (by kernel_rfl)) ?_ ?_
   ·clear hr
    rintro m ⟨u_34, v_35⟩ hr
    show CQ _ _ _ _ _ ⟨_, _⟩
    refine .seq <| .seq <| .r4 fine [4, 9, 10] [(48, aB (decide (v_35 > 0)))] ?_
    refine .cd hr (fun hb40 hr => ?_) (fun hb40 hr => ?_)
    ·refine .skip <| .block ?_
     obtain ⟨hg41, hr⟩ := gd hr
     refine .regionT fine callOf_nil <| .mu 3 <| .pure (v := aU64 (u_34.tmod v_35)) (by kernel_rfl) (op_rem (x := u_34) (y := v_35) (by kernel_rfl) (by kernel_rfl) hg41) (by kernel_rfl) <| .mu 2 ?_
     refine .done ⟨by kernel_rfl, ?_⟩
     refine .pop ?_
     exact loopF_back (v_35, u_34.tmod v_35) hr ((Wk.gc [4, 9, 10] [(0, true)] rfl trivial).to (by kernel_rfl))
    ·refine .leave rfl ?_
     obtain rfl := oi hr
     exact ⟨rfl, ((Wk.gc [4, 9] [(0, true)] rfl trivial).to (by kernel_rfl))⟩
   ·rintro x st' hq44
    clear hL43
    obtain ⟨rfl, hq44⟩ := hq44
    refine CQ_exit _ rfl <| .wk hq44 <| .seq ?_
    obtain ⟨v45, hc46, hr⟩ := bd hr
    refine .gn fine (ca4 [.own [aB false, nS], .own [aU32 (wrapF .u32 (u_38.tmod 1000000000)), aU32 (wrapF .u32 (wrapF .u64 (u_38.tdiv 1000000000)))]] (callOk_ref (args := [aB false, .hs 1 0 2 1]) (l := [1]) (SnL.cons (Sn.pure rfl) (SnL.cons (Sn.hs rfl (.inl rfl) (SnC.cons (Sn.pure rfl) (SnC.cons (Sn.pure rfl) SnC.nil)) (fun h => nomatch h)) SnL.nil)) (fiducialref01_made_ok n false [(wrapF .u32 (u_38.tmod 1000000000)), (wrapF .u32 (wrapF .u64 (u_38.tdiv 1000000000)))] v45 hc46))) <| .mu 7 <| .ca cf0 <| .mu 1 <| .done <| .nh [4] [.own (api_Int.c v45), .fix [aU32 (wrapF .u32 (u_38.tmod 1000000000)), aU32 (wrapF .u32 (wrapF .u64 (u_38.tdiv 1000000000)))]] <| .ret ?_
    obtain rfl := oi hr
    exact FinQ.r1 [.agg (api_Int.c v45)]

theorem fiducialref01_Neg_ok (n : Nat) (x' : api_Int) (r : api_Int) (hr : fiducialref01_Neg n x' = some r) : FnOk Tryz.prog 215 [.agg (api_Int.c x')] (.agg (api_Int.c r)) := by
 unfold fiducialref01_Neg at hr
 refine FnOk.bd fine Tryz.func215 [.cell 2 72] ?_
 unfold Tryz.f215
 simp only [Option.getD_some]
 refine .seq <| .r2 fine 11 [(1, .hp 0 0), (2, .hp 1 0)] [.own (api_Int.c x'), .own [aB false, nS]] <| .seq ?_
 obtain ⟨v1, hc2, hr⟩ := bd hr
 refine .g1 fine (ok0 (fiducialref01_Value_ok n x' v1 hc2)) <| .mu 1 <| .ca cf0 <| .mu 1 <| .done <| .nh [1, 2] [.own (api_Int.c v1), .own [aB false, nS]] <| .seq ?_
 obtain ⟨v3, hc4, hr⟩ := bd hr
 refine .g1 fine (ok0 (fiducialref01_made_ok n (!v1.Negative) v1.Groups v3 hc4)) <| .mu 5 <| .ca cf0 <| .mu 1 <| .done <| .nh [2] [.own (api_Int.c v1), .own (api_Int.c v3)] <| .ret ?_
 obtain rfl := oi hr
 exact FinQ.r1 [.agg (api_Int.c v3)]

theorem fiducialref01_plus_ok (n : Nat) (a : List Int) (b : List Int) (r : List Int) (hr : fiducialref01_plus n a b = some r) : FnOk Tryz.prog 228 [sU32 a, sU32 b] (sU32 r) := by
 unfold fiducialref01_plus at hr
 refine FnOk.bd fine Tryz.func228 [.tmp 4] ?_
 unfold Tryz.f228
 simp only [Option.getD_some]
 refine .seq <| .r4 fine [0, 1] [] <| .seq <| .r5 fine [0, 1] [(5, .hs 0 0 0 1)] [.own []] <| .seq <| .r4 fine [0, 1, 5] [(6, aU64 0)] <| .seq <| .seq <| .r4 fine [0, 1, 5, 6] [(7, aI64 0)] <| .block ?_
 replace hr := bd hr; obtain ⟨o35, hL36, hr⟩ := hr
 refine .loopO (σ := fun z0 => match z0 with | (out_1, carry_2, i_3) => ⟨mkS 46 0 [(0, sU32 a), (1, sU32 b), (5, .hs 0 0 out_1.length 1), (6, aU64 carry_2), (7, aI64 i_3)], [.own (out_1.flatMap (iC .u32))]⟩) (Q := fun x st' => match (generalizing := false) o35 with | (out_18, carry_19) => x = .exit 0 ∧ Wk 0 st' ⟨mkS 46 0 [(5, .hs 0 0 out_18.length 1), (6, aU64 carry_19)], [.own (out_18.flatMap (iC .u32))]⟩) hL36 ((Wk.gc [0, 1, 5, 6, 7] [(0, false)] rfl (pKc trivial)).to (by kernel_rfl)) ?_ ?_
 ·clear hr
  rintro m ⟨out_1, carry_2, i_3⟩ hr
  show CQ _ _ _ _ _ ⟨_, _⟩
  refine .seq <| .seq ?_
  rcases Bool.eq_false_or_eq_true (decide (i_3 < (a.length : Int))) with hb21 | hb21
  ·replace hr := cd_t hb21 hr
   refine .r0 fine <| .mu 3 <| .p0 (v := aB true) (eB hb21) <| .mu 6 <| .done <| .nh [0, 1, 5, 6, 7, 19] [.own (out_1.flatMap (iC .u32))] <| .cT (by kernel_rfl) <| .skip <| .seq <| .block <| .seq ?_
   obtain ⟨v22, hc23, v24, hc25, hr⟩ := bd2 hr
   refine .gn fine (ca1 (ok0 (fiducialref01_group_ok n a i_3 v22 hc23)) (ca3 (ok0 (fiducialref01_group_ok n b i_3 v24 hc25)))) <| .mu 2 <| .ca cf0 <| .mu 2 <| .ca (cfA (fun h => by rw [sv hc25 hc23 (fiducialref01_group_cg n h)]) cf0) <| .mu 4 <| .done <| .nh [0, 1, 5, 7, 8] [.own (out_1.flatMap (iC .u32))] <| .seq ?_
   obtain ⟨hg26, hg27, hr⟩ := gd2 hr
   refine .r0 fine <| .mu 5 <| .e0 (v := .hs 2 0 (out_1 ++ [wrapF .u32 ((wrapF .u64 ((wrapF .u64 (v22 + v24)) + carry_2)).tmod 1000000000)]).length 1) (ws := [(0, .dead), (2, .own ((out_1 ++ [wrapF .u32 ((wrapF .u64 ((wrapF .u64 (v22 + v24)) + carry_2)).tmod 1000000000)]).flatMap (iC .u32)))]) (tr (app_own (new := [aU32 (wrapF .u32 ((wrapF .u64 ((wrapF .u64 (v22 + v24)) + carry_2)).tmod 1000000000))]) (l := out_1) (xs := [wrapF .u32 ((wrapF .u64 ((wrapF .u64 (v22 + v24)) + carry_2)).tmod 1000000000)]) (iC_len .u32) rfl rfl (by kernel_rfl) hg26 hg27)) <| .mu 1 <| .done <| .nh [0, 1, 5, 7, 8] [.dead, .own [aU32 (wrapF .u32 ((wrapF .u64 ((wrapF .u64 (v22 + v24)) + carry_2)).tmod 1000000000))], .own ((out_1 ++ [wrapF .u32 ((wrapF .u64 ((wrapF .u64 (v22 + v24)) + carry_2)).tmod 1000000000)]).flatMap (iC .u32))] <| .ru fine <| .pop <| .ru fine ?_
   exact loopF_back (out_1 ++ [wrapF .u32 ((wrapF .u64 ((wrapF .u64 (v22 + v24)) + carry_2)).tmod 1000000000)], wrapF .u64 ((wrapF .u64 ((wrapF .u64 (v22 + v24)) + carry_2)).tdiv 1000000000), wrapF .i64 (i_3 + 1)) hr ((Wk.gc [0, 1, 5, 6, 7] [(2, false)] rfl (pKo (iC .u32) (iC_pure _) (out_1 ++ [wrapF .u32 ((wrapF .u64 ((wrapF .u64 (v22 + v24)) + carry_2)).tmod 1000000000)]) trivial)).to (by kernel_rfl))
  ·replace hr := cd_f hb21 hr
   refine .r0 fine <| .mu 3 <| .p0 (v := aB false) (eB hb21) <| .mu 6 <| .done <| .nh [0, 1, 5, 6, 7, 19] [.own (out_1.flatMap (iC .u32))] ?_
   refine .cd hr (fun hb28 hr => ?_) (fun hb28 hr => ?_)
   ·refine .skip <| .seq <| .block <| .seq ?_
    obtain ⟨v29, hc30, v31, hc32, hr⟩ := bd2 hr
    refine .gn fine (ca1 (ok0 (fiducialref01_group_ok n a i_3 v29 hc30)) (ca3 (ok0 (fiducialref01_group_ok n b i_3 v31 hc32)))) <| .mu 2 <| .ca cf0 <| .mu 2 <| .ca (cfA (fun h => by rw [sv hc32 hc30 (fiducialref01_group_cg n h)]) cf0) <| .mu 4 <| .done <| .nh [0, 1, 5, 7, 8] [.own (out_1.flatMap (iC .u32))] <| .seq ?_
    obtain ⟨hg33, hg34, hr⟩ := gd2 hr
    refine .r0 fine <| .mu 5 <| .e0 (v := .hs 2 0 (out_1 ++ [wrapF .u32 ((wrapF .u64 ((wrapF .u64 (v29 + v31)) + carry_2)).tmod 1000000000)]).length 1) (ws := [(0, .dead), (2, .own ((out_1 ++ [wrapF .u32 ((wrapF .u64 ((wrapF .u64 (v29 + v31)) + carry_2)).tmod 1000000000)]).flatMap (iC .u32)))]) (tr (app_own (new := [aU32 (wrapF .u32 ((wrapF .u64 ((wrapF .u64 (v29 + v31)) + carry_2)).tmod 1000000000))]) (l := out_1) (xs := [wrapF .u32 ((wrapF .u64 ((wrapF .u64 (v29 + v31)) + carry_2)).tmod 1000000000)]) (iC_len .u32) rfl rfl (by kernel_rfl) hg33 hg34)) <| .mu 1 <| .done <| .nh [0, 1, 5, 7, 8] [.dead, .own [aU32 (wrapF .u32 ((wrapF .u64 ((wrapF .u64 (v29 + v31)) + carry_2)).tmod 1000000000))], .own ((out_1 ++ [wrapF .u32 ((wrapF .u64 ((wrapF .u64 (v29 + v31)) + carry_2)).tmod 1000000000)]).flatMap (iC .u32))] <| .ru fine <| .pop <| .ru fine ?_
    exact loopF_back (out_1 ++ [wrapF .u32 ((wrapF .u64 ((wrapF .u64 (v29 + v31)) + carry_2)).tmod 1000000000)], wrapF .u64 ((wrapF .u64 ((wrapF .u64 (v29 + v31)) + carry_2)).tdiv 1000000000), wrapF .i64 (i_3 + 1)) hr ((Wk.gc [0, 1, 5, 6, 7] [(2, false)] rfl (pKo (iC .u32) (iC_pure _) (out_1 ++ [wrapF .u32 ((wrapF .u64 ((wrapF .u64 (v29 + v31)) + carry_2)).tmod 1000000000)]) trivial)).to (by kernel_rfl))
   ·refine .leave rfl ?_
    obtain rfl := oi hr
    exact ⟨rfl, ((Wk.gc [5, 6] [(0, false)] rfl (pKo (iC .u32) (iC_pure _) out_1 trivial)).to (by kernel_rfl))⟩
 ·rcases o35 with ⟨out_18, carry_19⟩
  rintro x st' hq37
  clear hL36
  obtain ⟨rfl, hq37⟩ := hq37
  refine CQ_exit _ rfl <| .wk hq37 <| .seq ?_
  obtain ⟨hg38, hg39, hr⟩ := gd2 hr
  obtain ⟨v40, hc41, hr⟩ := bd hr
  refine .gn fine (ca4 [.dead, .own [aU32 (wrapF .u32 carry_19)], .own ((out_18 ++ [wrapF .u32 carry_19]).flatMap (iC .u32))] (callOk_ref (args := [aB false, .hs 2 0 (out_18 ++ [wrapF .u32 carry_19]).length 1]) (l := [2]) (SnL.cons (Sn.pure rfl) (SnL.cons (Sn.hs rfl (.inl rfl) (SnC.pure (ids_flat (iC_pure _) _)) (fun h => flat_nil0 h)) SnL.nil)) (fiducialref01_made_ok n false (out_18 ++ [wrapF .u32 carry_19]) v40 hc41))) <| .mu 4 <| .e0 (v := .hs 2 0 (out_18 ++ [wrapF .u32 carry_19]).length 1) (ws := [(0, .dead), (2, .own ((out_18 ++ [wrapF .u32 carry_19]).flatMap (iC .u32)))]) (tr (app_own (new := [aU32 (wrapF .u32 carry_19)]) (l := out_18) (xs := [wrapF .u32 carry_19]) (iC_len .u32) rfl rfl (by kernel_rfl) hg38 hg39)) <| .ca cf0 <| .mu 2 <| .done <| .ret ?_
  obtain rfl := oi hr
  exact FinQ.r1 [sU32 v40.Groups]

theorem fiducialref01_Add_ok (n : Nat) (x' : api_Int) (y : api_Int) (r : api_Int) (hr : fiducialref01_Add n x' y = some r) : FnOk Tryz.prog 214 [.agg (api_Int.c x'), .agg (api_Int.c y)] (.agg (api_Int.c r)) := by
 unfold fiducialref01_Add at hr
 refine FnOk.bd fine Tryz.func214 [.cell 4 72] ?_
 unfold Tryz.f214
 simp only [Option.getD_some]
 refine .seq <| .r2 fine 44 [(2, .hp 0 0), (3, .hp 1 0), (4, .hp 2 0)] [.own (api_Int.c x'), .own (api_Int.c y), .own [aB false, nS]] <| .seq ?_
 obtain ⟨v1, hc2, v3, hc4, hr⟩ := bd2 hr
 refine .tn fine (ca1 (ok0 (fiducialref01_Value_ok n x' v1 hc2)) (ca3 (ok0 (fiducialref01_Value_ok n y v3 hc4)))) <| .mu 1 <| .ca cf0 <| .mu 1 <| .ca (cfA (fun h => by rw [sv hc4 hc2 (fiducialref01_Value_cg n h)]) cf0) <| .mu 2 ?_
 refine .done ⟨by kernel_rfl, ?_⟩
 refine .nh [2, 3, 4] [.own (api_Int.c v1), .own (api_Int.c v3), .own [aB false, nS]] <| .seq <| .seq <| .r4 fine [2, 3, 4] [(13, aB (v1.Negative == v3.Negative))] ?_
 refine .cd hr (fun hb5 hr => ?_) (fun hb5 hr => ?_)
 ·refine .seq ?_
  obtain ⟨v6, hc7, v8, hc9, hr⟩ := bd2 hr
  refine .tn fine (ca1 (ok0 (fiducialref01_plus_ok n v1.Groups v3.Groups v6 hc7)) (ca3 (ok0 (fiducialref01_made_ok n v1.Negative v6 v8 hc9)))) <| .mu 6 <| .ca cf0 <| .ca (cfF cf0) <| .mu 1 ?_
  refine .done ⟨by kernel_rfl, ?_⟩
  refine .nh [4] [.own (api_Int.c v1), .own (api_Int.c v3), .own (api_Int.c v8)] <| .ret ?_
  obtain rfl := oi hr
  exact FinQ.r1 [.agg (api_Int.c v8)]
 ·refine .skip <| .seq <| .seq ?_
  obtain ⟨v10, hc11, hr⟩ := bd hr
  refine .g1 fine (ok0 (fiducialref01_size_ok n v1.Groups v3.Groups v10 hc11)) <| .mu 4 <| .ca cf0 <| .mu 1 <| .done <| .nh [2, 3, 4, 27] [.own (api_Int.c v1), .own (api_Int.c v3), .own [aB false, nS]] ?_
  refine .cd hr (fun hb12 hr => ?_) (fun hb12 hr => ?_)
  ·refine .seq ?_
   obtain ⟨v13, hc14, v15, hc16, hr⟩ := bd2 hr
   refine .tn fine (ca1 (ok0 (fiducialref01_minus_ok n v1.Groups v3.Groups v13 hc14)) (ca3 (ok0 (fiducialref01_made_ok n v1.Negative v13 v15 hc16)))) <| .mu 6 <| .ca cf0 <| .ca (cfF cf0) <| .mu 1 ?_
   refine .done ⟨by kernel_rfl, ?_⟩
   refine .nh [4] [.own (api_Int.c v1), .own (api_Int.c v3), .own (api_Int.c v15)] <| .ret ?_
   obtain rfl := oi hr
   exact FinQ.r1 [.agg (api_Int.c v15)]
  ·refine .skip <| .seq ?_
   obtain ⟨v17, hc18, v19, hc20, hr⟩ := bd2 hr
   refine .tn fine (ca1 (ok0 (fiducialref01_minus_ok n v3.Groups v1.Groups v17 hc18)) (ca3 (ok0 (fiducialref01_made_ok n v3.Negative v17 v19 hc20)))) <| .mu 6 <| .ca cf0 <| .ca (cfF cf0) <| .mu 1 ?_
   refine .done ⟨by kernel_rfl, ?_⟩
   refine .nh [4] [.own (api_Int.c v1), .own (api_Int.c v3), .own (api_Int.c v19)] <| .ret ?_
   obtain rfl := oi hr
   exact FinQ.r1 [.agg (api_Int.c v19)]

theorem fiducialref01_Sub_ok (n : Nat) (x' : api_Int) (y : api_Int) (r : api_Int) (hr : fiducialref01_Sub n x' y = some r) : FnOk Tryz.prog 188 [.agg (api_Int.c x'), .agg (api_Int.c y)] (.agg (api_Int.c r)) := by
 unfold fiducialref01_Sub at hr
 refine FnOk.bd fine Tryz.func188 [.cell 4 72] ?_
 unfold Tryz.f188
 simp only [Option.getD_some]
 refine .seq <| .r2 fine 9 [(2, .hp 0 0), (3, .hp 1 0), (4, .hp 2 0)] [.own (api_Int.c x'), .own (api_Int.c y), .own [aB false, nS]] <| .seq ?_
 obtain ⟨v1, hc2, v3, hc4, hr⟩ := bd2 hr
 refine .tn fine (ca1 (ok0 (fiducialref01_Neg_ok n y v1 hc2)) (ca3 (ok0 (fiducialref01_Add_ok n x' v1 v3 hc4)))) <| .mu 2 <| .ca cf0 <| .ca (cfF cf0) <| .mu 1 ?_
 refine .done ⟨by kernel_rfl, ?_⟩
 refine .nh [4] [.own (api_Int.c x'), .own (api_Int.c y), .own (api_Int.c v3)] <| .ret ?_
 obtain rfl := oi hr
 exact FinQ.r1 [.agg (api_Int.c v3)]

theorem fiducialref01_Compare_ok (n : Nat) (x' : api_Int) (y : api_Int) (r : Int) (hr : fiducialref01_Compare n x' y = some r) : FnOk Tryz.prog 138 [.agg (api_Int.c x'), .agg (api_Int.c y)] (aI64 r) := by
 unfold fiducialref01_Compare at hr
 refine FnOk.bd fine Tryz.func138 [.tmp 4] ?_
 unfold Tryz.f138
 simp only [Option.getD_some]
 refine .seq <| .r2 fine 9 [(2, .hp 0 0), (3, .hp 1 0)] [.own (api_Int.c x'), .own (api_Int.c y)] <| .seq ?_
 obtain ⟨v1, hc2, v3, hc4, hr⟩ := bd2 hr
 refine .gn fine (ca1 (ok0 (fiducialref01_Sub_ok n x' y v1 hc2)) (ca3 (ok0 (fiducialref01_Sign_ok n v1 v3 hc4)))) <| .mu 2 <| .ca cf0 <| .ca (cfF cf0) <| .mu 1 <| .done <| .ret ?_
 obtain rfl := oi hr
 exact FinQ.r1 [aI64 v3]

theorem fiducialref02_Valid_inj {x' : api_Rat} {x'_ : api_Rat} (h : ([.agg [.at (.bool x'.Num.Negative), slT (iC .u32) x'.Num.Groups, .at (.bool x'.Den.Negative), slT (iC .u32) x'.Den.Groups]] : List AV) = [.agg [.at (.bool x'_.Num.Negative), slT (iC .u32) x'_.Num.Groups, .at (.bool x'_.Den.Negative), slT (iC .u32) x'_.Den.Groups]]) : x' = x'_ := by
 obtain ⟨⟨_, _⟩, ⟨_, _⟩⟩ := x'
 obtain ⟨⟨_, _⟩, ⟨_, _⟩⟩ := x'_
 simp only [List.cons.injEq, AV.agg.injEq, AV.at.injEq, Value.int.injEq, Value.bool.injEq, AV.fn.injEq, AV.pp.injEq, true_and, and_true, slT_inj_int] at h
 simp_all
theorem fiducialref02_Valid_cg (n : Nat) {x' : api_Rat} {x'_ : api_Rat} (h : ([.agg [.at (.bool x'.Num.Negative), slT (iC .u32) x'.Num.Groups, .at (.bool x'.Den.Negative), slT (iC .u32) x'.Den.Groups]] : List AV) = [.agg [.at (.bool x'_.Num.Negative), slT (iC .u32) x'_.Num.Groups, .at (.bool x'_.Den.Negative), slT (iC .u32) x'_.Den.Groups]]) : fiducialref02_Valid n x' = fiducialref02_Valid n x'_ := by
 obtain rfl := fiducialref02_Valid_inj h
 rfl
theorem fiducialref02_Valid_ok (n : Nat) (x' : api_Rat) (r : Bool) (hr : fiducialref02_Valid n x' = some r) : FnOk Tryz.prog 98 [.agg (api_Rat.c x')] (aB r) := by
 unfold fiducialref02_Valid at hr
 refine FnOk.bd fine Tryz.func98 [.tmp 2] ?_
 unfold Tryz.f98
 simp only [Option.getD_some]
 refine .seq <| .r2 fine 27 [(1, .hp 0 0)] [.own (api_Rat.c x')] <| .seq <| .seq ?_
 obtain ⟨v1, hc2, hr⟩ := bd hr
 rcases Bool.eq_false_or_eq_true (!v1) with hb3 | hb3
 ·replace hr := cd_t hb3 hr
  refine .g1 fine (ok0 (fiducialref01_Valid_ok n x'.Num v1 hc2)) <| .mu 2 <| .ca cf0 <| .p0 (v := aB true) (eB hb3) <| .mu 12 <| .done <| .nh [1, 18] [.own (api_Rat.c x')] <| .cT (by kernel_rfl) <| .seq <| .ru fine <| .ret ?_
  obtain rfl := oi hr
  exact FinQ.r1 [aB false]
 ·replace hr := cd_f hb3 hr
  obtain ⟨v4, hc5, hr⟩ := bd hr
  rcases Bool.eq_false_or_eq_true (!v4) with hb6 | hb6
  ·replace hr := cd_t hb6 hr
   refine .gn fine (ca1 (ok0 (fiducialref01_Valid_ok n x'.Num v1 hc2)) (ca3 (ok0 (fiducialref01_Valid_ok n x'.Den v4 hc5)))) <| .mu 2 <| .ca cf0 <| .p0 (v := aB false) (eB hb3) <| .mu 3 <| .ca (cfA (fun h => by rw [sv hc5 hc2 (fiducialref01_Valid_cg n h)]) cf0) <| .pure (v := aB true) (by kernel_rfl) (eB hb6) <| .mu 7 <| .done <| .nh [1, 18] [.own (api_Rat.c x')] <| .cT (by kernel_rfl) <| .seq <| .ru fine <| .ret ?_
   obtain rfl := oi hr
   exact FinQ.r1 [aB false]
  ·replace hr := cd_f hb6 hr
   obtain ⟨v7, hc8, hr⟩ := bd hr
   refine .gn fine (ca1 (ok0 (fiducialref01_Valid_ok n x'.Num v1 hc2)) (ca1 (ok0 (fiducialref01_Valid_ok n x'.Den v4 hc5)) (ca3 (ok0 (fiducialref01_Sign_ok n x'.Den v7 hc8))))) <| .mu 2 <| .ca cf0 <| .p0 (v := aB false) (eB hb3) <| .mu 3 <| .ca (cfA (fun h => by rw [sv hc5 hc2 (fiducialref01_Valid_cg n h)]) cf0) <| .pure (v := aB false) (by kernel_rfl) (eB hb6) <| .mu 4 <| .ca (cfF (cfF cf0)) <| .mu 2 <| .done <| .nh [1, 18] [.own (api_Rat.c x')] ?_
   refine .cd hr (fun hb9 hr => ?_) (fun hb9 hr => ?_)
   ·refine .seq <| .ru fine <| .ret ?_
    obtain rfl := oi hr
    exact FinQ.r1 [aB false]
   ·refine .skip <| .seq ?_
    obtain ⟨v10, hc11, v12, hc13, v14, hc15, hr⟩ := bd3 hr
    refine .gn fine (ca1 (ok0 (fiducialref01_Gcd_ok n x'.Num x'.Den v10 hc11)) (ca1 (ok0 (fiducialref02_whole_ok n 1 v12 hc13)) (ca3 (ok0 (fiducialref01_Compare_ok n v10 v12 v14 hc15))))) <| .mu 4 <| .ca cf0 <| .ca (cfF cf0) <| .ca (cfF (cfF cf0)) <| .mu 2 <| .done <| .ret ?_
    obtain rfl := oi hr
    exact FinQ.r1 [aB ((v14 : Int) == 0)]

theorem fiducialref02_Value_ok (n : Nat) (x' : api_Rat) (r : api_Rat) (hr : fiducialref02_Value n x' = some r) : FnOk Tryz.prog 192 [.agg (api_Rat.c x')] (.agg (api_Rat.c r)) := by
 unfold fiducialref02_Value at hr
 refine FnOk.bd fine Tryz.func192 [.cell 2 74] ?_
 unfold Tryz.f192
 simp only [Option.getD_some]
 refine .seq <| .r2 fine 7 [(1, .hp 0 0), (2, .hp 1 0)] [.own (api_Rat.c x'), .own [aB false, nS, aB false, nS]] <| .seq <| .seq ?_
 obtain ⟨v1, hc2, hr⟩ := bd hr
 refine .g1 fine (ok0 (fiducialref02_Valid_ok n x' v1 hc2)) <| .mu 1 <| .ca cf0 <| .done <| .nh [1, 2, 4] [.own (api_Rat.c x'), .own [aB false, nS, aB false, nS]] ?_
 refine .cd hr (fun hb3 hr => ?_) (fun hb3 hr => ?_)
 ·refine .seq <| .r5 fine [2] [] [.own (api_Rat.c x'), .own (api_Rat.c x')] <| .ret ?_
  obtain rfl := oi hr
  exact FinQ.r1 [.agg (api_Rat.c x')]
 ·refine .skip <| .seq ?_
  obtain ⟨v4, hc5, hr⟩ := bd hr
  refine .g1 fine (ok0 (fiducialref02_Whole_ok n 0 v4 hc5)) <| .ca cf0 <| .mu 1 <| .done <| .nh [2] [.own (api_Rat.c x'), .own (api_Rat.c v4)] <| .ret ?_
  obtain rfl := oi hr
  exact FinQ.r1 [.agg (api_Rat.c v4)]

theorem fiducialref02_Neg_ok (n : Nat) (x' : api_Rat) (r : api_Rat) (hr : fiducialref02_Neg n x' = some r) : FnOk Tryz.prog 194 [.agg (api_Rat.c x')] (.agg (api_Rat.c r)) := by
 unfold fiducialref02_Neg at hr
 refine FnOk.bd fine Tryz.func194 [.cell 2 74] ?_
 unfold Tryz.f194
 simp only [Option.getD_some]
 refine .seq <| .r2 fine 12 [(1, .hp 0 0), (2, .hp 1 0)] [.own (api_Rat.c x'), .own [aB false, nS, aB false, nS]] <| .seq ?_
 obtain ⟨v1, hc2, hr⟩ := bd hr
 refine .g1 fine (ok0 (fiducialref02_Value_ok n x' v1 hc2)) <| .mu 1 <| .ca cf0 <| .mu 2 <| .done <| .nh [2, 3] [.own (api_Rat.c x'), .own [aB false, nS, aB false, nS], .own (api_Rat.c v1)] <| .seq ?_
 obtain ⟨v3, hc4, hr⟩ := bd hr
 refine .t1 fine (ok0 (fiducialref01_Neg_ok n v1.Num v3 hc4)) <| .mu 2 <| .ca cf0 <| .mu 4 ?_
 refine .done ⟨by kernel_rfl, ?_⟩
 refine .nh [2] [.own (api_Rat.c x'), .own [aB v3.Negative, sU32 v3.Groups, aB v1.Den.Negative, sU32 v1.Den.Groups], .own (api_Rat.c v1)] <| .ret ?_
 obtain rfl := oi hr
 exact FinQ.r1 [.agg [aB v3.Negative, sU32 v3.Groups, aB v1.Den.Negative, sU32 v1.Den.Groups]]

theorem fiducialref01_Mul_inj {x' : api_Int} {y : api_Int} {x'_ : api_Int} {y_ : api_Int} (h : ([.agg [.at (.bool x'.Negative), slT (iC .u32) x'.Groups], .agg [.at (.bool y.Negative), slT (iC .u32) y.Groups]] : List AV) = [.agg [.at (.bool x'_.Negative), slT (iC .u32) x'_.Groups], .agg [.at (.bool y_.Negative), slT (iC .u32) y_.Groups]]) : x' = x'_ ∧ y = y_ := by
 obtain ⟨_, _⟩ := x'
 obtain ⟨_, _⟩ := x'_
 obtain ⟨_, _⟩ := y
 obtain ⟨_, _⟩ := y_
 simp only [List.cons.injEq, AV.agg.injEq, AV.at.injEq, Value.int.injEq, Value.bool.injEq, AV.fn.injEq, AV.pp.injEq, true_and, and_true, slT_inj_int] at h
 simp_all
theorem fiducialref01_Mul_cg (n : Nat) {x' : api_Int} {y : api_Int} {x'_ : api_Int} {y_ : api_Int} (h : ([.agg [.at (.bool x'.Negative), slT (iC .u32) x'.Groups], .agg [.at (.bool y.Negative), slT (iC .u32) y.Groups]] : List AV) = [.agg [.at (.bool x'_.Negative), slT (iC .u32) x'_.Groups], .agg [.at (.bool y_.Negative), slT (iC .u32) y_.Groups]]) : fiducialref01_Mul n x' y = fiducialref01_Mul n x'_ y_ := by
 obtain ⟨rfl, rfl⟩ := fiducialref01_Mul_inj h
 rfl
theorem fiducialref01_Mul_ok (n : Nat) (x' : api_Int) (y : api_Int) (r : api_Int) (hr : fiducialref01_Mul n x' y = some r) : FnOk Tryz.prog 223 [.agg (api_Int.c x'), .agg (api_Int.c y)] (.agg (api_Int.c r)) := by
 unfold fiducialref01_Mul at hr
 refine FnOk.bd fine Tryz.func223 [.cell 4 72] ?_
 unfold Tryz.f223
 simp only [Option.getD_some]
 refine .seq <| .r2 fine 85 [(2, .hp 0 0), (3, .hp 1 0), (4, .hp 2 0)] [.own (api_Int.c x'), .own (api_Int.c y), .own [aB false, nS]] <| .seq ?_
 obtain ⟨v1, hc2, v3, hc4, hr⟩ := bd2 hr
 refine .tn fine (ca1 (ok0 (fiducialref01_Value_ok n x' v1 hc2)) (ca3 (ok0 (fiducialref01_Value_ok n y v3 hc4)))) <| .mu 1 <| .ca cf0 <| .mu 1 <| .ca (cfA (fun h => by rw [sv hc4 hc2 (fiducialref01_Value_cg n h)]) cf0) <| .mu 2 ?_
 refine .done ⟨by kernel_rfl, ?_⟩
 refine .nh [2, 3, 4] [.own (api_Int.c v1), .own (api_Int.c v3), .own [aB false, nS]] <| .seq ?_
 obtain ⟨hg5, hg6, hg7, hr⟩ := gd3 hr
 refine .r0 fine <| .mu 7 <| .e0 (v := .hs 3 0 (List.replicate (wrapF .i64 ((v1.Groups.length : Int) + (v3.Groups.length : Int))).toNat ((0 : Int) : Int)).length 1) (ws := [(3, .own ((List.replicate (wrapF .i64 ((v1.Groups.length : Int) + (v3.Groups.length : Int))).toNat ((0 : Int) : Int)).flatMap (iC .u32)))]) (tr (make_own (c := (iC .u32)) (z := (0 : Int)) (n := wrapF .i64 ((v1.Groups.length : Int) + (v3.Groups.length : Int))) (by_ := 4) rfl hg5 hg6 hg7)) <| .mu 1 <| .done <| .nh [2, 3, 4, 5] [.own (api_Int.c v1), .own (api_Int.c v3), .own [aB false, nS], .own ((List.replicate (wrapF .i64 ((v1.Groups.length : Int) + (v3.Groups.length : Int))).toNat ((0 : Int) : Int)).flatMap (iC .u32))] <| .seq <| .seq <| .r4 fine [2, 3, 4, 5] [(6, aI64 0)] <| .block ?_
 replace hr := bd hr; obtain ⟨out_29, hL51, hr⟩ := hr
 refine .loopO (σ := fun z0 => match z0 with | (out_8, i_9) => ⟨mkS 85 0 [(2, .hp 0 0), (3, .hp 1 0), (4, .hp 2 0), (5, .hs 3 0 out_8.length 1), (6, aI64 i_9)], [.own (api_Int.c v1), .own (api_Int.c v3), .own [aB false, nS], .own (out_8.flatMap (iC .u32))]⟩) (Q := fun x st' => x = .exit 0 ∧ Wk 0 st' ⟨mkS 85 0 [(2, .hp 0 0), (3, .hp 1 0), (4, .hp 2 0), (5, .hs 3 0 out_29.length 1)], [.own (api_Int.c v1), .own (api_Int.c v3), .own [aB false, nS], .own (out_29.flatMap (iC .u32))]⟩) hL51 ((Wk.gc [2, 3, 4, 5, 6] [(0, true), (1, true), (2, true), (3, false)] rfl (pKt (pKt (pKt (pKo (iC .u32) (iC_pure _) (List.replicate (wrapF .i64 ((v1.Groups.length : Int) + (v3.Groups.length : Int))).toNat ((0 : Int) : Int)) trivial))))).to (by kernel_rfl)) ?_ ?_
 ·clear hr
  rintro m ⟨out_8, i_9⟩ hr
  show CQ _ _ _ _ _ ⟨_, _⟩
  refine .seq <| .seq <| .r4 fine [2, 3, 4, 5, 6] [(26, aB (decide (i_9 < (v1.Groups.length : Int))))] ?_
  refine .cd hr (fun hb31 hr => ?_) (fun hb31 hr => ?_)
  ·refine .skip <| .seq <| .block <| .seq <| .r4 fine [2, 3, 4, 5, 6] [(7, aU64 0)] <| .seq <| .seq <| .r4 fine [2, 3, 4, 5, 6, 7] [(8, aI64 0)] <| .block ?_
   replace hr := bd hr; obtain ⟨o46, hL47, hr⟩ := hr
   refine .loopO (σ := fun z0 => match z0 with | (out_32, carry_33, j_34) => ⟨mkS 85 0 [(2, .hp 0 0), (3, .hp 1 0), (4, .hp 2 0), (5, .hs 3 0 out_32.length 1), (6, aI64 i_9), (7, aU64 carry_33), (8, aI64 j_34)], [.own (api_Int.c v1), .own (api_Int.c v3), .own [aB false, nS], .own (out_32.flatMap (iC .u32))]⟩) (Q := fun x st' => match (generalizing := false) o46 with | (out_39, carry_40) => x = .exit 2 ∧ Wk 0 st' ⟨mkS 85 0 [(2, .hp 0 0), (3, .hp 1 0), (4, .hp 2 0), (5, .hs 3 0 out_39.length 1), (6, aI64 i_9), (7, aU64 carry_40)], [.own (api_Int.c v1), .own (api_Int.c v3), .own [aB false, nS], .own (out_39.flatMap (iC .u32))]⟩) hL47 ((Wk.gc [2, 3, 4, 5, 6, 7, 8] [(0, true), (1, true), (2, true), (3, false)] rfl (pKt (pKt (pKt (pKo (iC .u32) (iC_pure _) out_8 trivial))))).to (by kernel_rfl)) ?_ ?_
   ·clear hr
    rintro m ⟨out_32, carry_33, j_34⟩ hr
    show CQ _ _ _ _ _ ⟨_, _⟩
    refine .seq <| .seq <| .r4 fine [2, 3, 4, 5, 6, 7, 8] [(33, aB (decide (j_34 < (v3.Groups.length : Int))))] ?_
    refine .cd hr (fun hb42 hr => ?_) (fun hb42 hr => ?_)
    ·refine .skip <| .seq <| .block <| .seq ?_
     obtain ⟨hg43, hg44, hg45, hr⟩ := gd3 hr
     refine .regionT fine callOf_nil <| .mu 4 <| .pure (v := .hp 3 (0 + (wrapF .i64 (i_9 + j_34)).toNat * 1)) (by kernel_rfl) (tr (ofP_guard hg43)) (by kernel_rfl) <| .pure (v := aU32 (gt out_32 (wrapF .i64 (i_9 + j_34)))) (by kernel_rfl) (tr (ofP_some (flat_get (iC_len .u32) (inR_lt hg43) (by decide : 0 < 1) (by omega : 0 + (wrapF .i64 (i_9 + j_34)).toNat * 1 = (wrapF .i64 (i_9 + j_34)).toNat * 1 + 0) (by kernel_rfl)))) (by kernel_rfl) <| .mu 4 <| .pure (v := .pp (v1.Groups.flatMap (iC .u32)) (i_9.toNat * 1)) (by kernel_rfl) (tr (ofP_guard hg44)) (by kernel_rfl) <| .pure (v := aU32 (gt v1.Groups i_9)) (by kernel_rfl) (tr (ofP_some (flat_get (iC_len .u32) (inR_lt hg44) (by decide : 0 < 1) (by omega : i_9.toNat * 1 = i_9.toNat * 1 + 0) (by kernel_rfl)))) (by kernel_rfl) <| .mu 4 <| .pure (v := .pp (v3.Groups.flatMap (iC .u32)) (j_34.toNat * 1)) (by kernel_rfl) (tr (ofP_guard hg45)) (by kernel_rfl) <| .pure (v := aU32 (gt v3.Groups j_34)) (by kernel_rfl) (tr (ofP_some (flat_get (iC_len .u32) (inR_lt hg45) (by decide : 0 < 1) (by omega : j_34.toNat * 1 = j_34.toNat * 1 + 0) (by kernel_rfl)))) (by kernel_rfl) <| .mu 6 ?_
     refine .done ⟨by kernel_rfl, ?_⟩
     refine .nh [2, 3, 4, 5, 6, 8, 9] [.own (api_Int.c v1), .own (api_Int.c v3), .own [aB false, nS], .own (out_32.flatMap (iC .u32))] <| .seq <| .r0 fine <| .mu 7 <| .p0 (v := .hp 3 (0 + (wrapF .i64 (i_9 + j_34)).toNat * 1)) (tr (ofP_guard hg43)) <| .e0 (v := .unk) (ws := [(3, .own ((out_32.set (wrapF .i64 (i_9 + j_34)).toNat (wrapF .u32 ((wrapF .u64 ((wrapF .u64 ((wrapF .u64 (gt out_32 (wrapF .i64 (i_9 + j_34)))) + (wrapF .u64 ((wrapF .u64 (gt v1.Groups i_9)) * (wrapF .u64 (gt v3.Groups j_34)))))) + carry_33)).tmod 1000000000))).flatMap (iC .u32)))]) (tr (stO_t (and_t (flat_fits (n := 1) (iC_len .u32) (inR_lt hg43) (Nat.le_of_ble_eq_true rfl) (by omega : 0 + (wrapF .i64 (i_9 + j_34)).toNat * 1 = (wrapF .i64 (i_9 + j_34)).toNat * 1 + 0))) (congrArg Blk.own (flat_set (xs := [aU32 (wrapF .u32 ((wrapF .u64 ((wrapF .u64 ((wrapF .u64 (gt out_32 (wrapF .i64 (i_9 + j_34)))) + (wrapF .u64 ((wrapF .u64 (gt v1.Groups i_9)) * (wrapF .u64 (gt v3.Groups j_34)))))) + carry_33)).tmod 1000000000))]) (iC_len .u32) (inR_lt hg43) (Nat.le_of_ble_eq_true rfl) (by omega : 0 + (wrapF .i64 (i_9 + j_34)).toNat * 1 = (wrapF .i64 (i_9 + j_34)).toNat * 1 + 0) (by kernel_rfl))))) <| .done <| .nh [2, 3, 4, 5, 6, 8, 9] [.own (api_Int.c v1), .own (api_Int.c v3), .own [aB false, nS], .own ((out_32.set (wrapF .i64 (i_9 + j_34)).toNat (wrapF .u32 ((wrapF .u64 ((wrapF .u64 ((wrapF .u64 (gt out_32 (wrapF .i64 (i_9 + j_34)))) + (wrapF .u64 ((wrapF .u64 (gt v1.Groups i_9)) * (wrapF .u64 (gt v3.Groups j_34)))))) + carry_33)).tmod 1000000000))).flatMap (iC .u32))] <| .ru fine <| .pop <| .ru fine ?_
     exact loopF_back (out_32.set (wrapF .i64 (i_9 + j_34)).toNat (wrapF .u32 ((wrapF .u64 ((wrapF .u64 ((wrapF .u64 (gt out_32 (wrapF .i64 (i_9 + j_34)))) + (wrapF .u64 ((wrapF .u64 (gt v1.Groups i_9)) * (wrapF .u64 (gt v3.Groups j_34)))))) + carry_33)).tmod 1000000000)), wrapF .u64 ((wrapF .u64 ((wrapF .u64 ((wrapF .u64 (gt out_32 (wrapF .i64 (i_9 + j_34)))) + (wrapF .u64 ((wrapF .u64 (gt v1.Groups i_9)) * (wrapF .u64 (gt v3.Groups j_34)))))) + carry_33)).tdiv 1000000000), wrapF .i64 (j_34 + 1)) hr ((Wk.relen 5 (b := 3) (es := 1) (len := out_32.length) (out_32.set (wrapF .i64 (i_9 + j_34)).toNat (wrapF .u32 ((wrapF .u64 ((wrapF .u64 ((wrapF .u64 (gt out_32 (wrapF .i64 (i_9 + j_34)))) + (wrapF .u64 ((wrapF .u64 (gt v1.Groups i_9)) * (wrapF .u64 (gt v3.Groups j_34)))))) + carry_33)).tmod 1000000000))).length (by kernel_rfl) (Eq.symm (List.length_set.trans rfl))).trans ((Wk.gc [2, 3, 4, 5, 6, 7, 8] [(0, true), (1, true), (2, true), (3, false)] rfl (pKt (pKt (pKt (pKo (iC .u32) (iC_pure _) (out_32.set (wrapF .i64 (i_9 + j_34)).toNat (wrapF .u32 ((wrapF .u64 ((wrapF .u64 ((wrapF .u64 (gt out_32 (wrapF .i64 (i_9 + j_34)))) + (wrapF .u64 ((wrapF .u64 (gt v1.Groups i_9)) * (wrapF .u64 (gt v3.Groups j_34)))))) + carry_33)).tmod 1000000000))) trivial))))).to (by kernel_rfl)))
    ·refine .leave rfl ?_
     obtain rfl := oi hr
     exact ⟨rfl, ((Wk.gc [2, 3, 4, 5, 6, 7] [(0, true), (1, true), (2, true), (3, false)] rfl (pKt (pKt (pKt (pKo (iC .u32) (iC_pure _) out_32 trivial))))).to (by kernel_rfl))⟩
   ·rcases o46 with ⟨out_39, carry_40⟩
    rintro x st' hq48
    clear hL47
    obtain ⟨rfl, hq48⟩ := hq48
    refine CQ_exit _ rfl <| .wk hq48 ?_
    obtain ⟨hg49, hr⟩ := gd hr
    refine .r0 fine <| .mu 8 <| .p0 (v := .hp 3 (0 + (wrapF .i64 (i_9 + (v3.Groups.length : Int))).toNat * 1)) (tr (ofP_guard hg49)) <| .e0 (v := .unk) (ws := [(3, .own ((out_39.set (wrapF .i64 (i_9 + (v3.Groups.length : Int))).toNat (wrapF .u32 carry_40)).flatMap (iC .u32)))]) (tr (stO_t (and_t (flat_fits (n := 1) (iC_len .u32) (inR_lt hg49) (Nat.le_of_ble_eq_true rfl) (by omega : 0 + (wrapF .i64 (i_9 + (v3.Groups.length : Int))).toNat * 1 = (wrapF .i64 (i_9 + (v3.Groups.length : Int))).toNat * 1 + 0))) (congrArg Blk.own (flat_set (xs := [aU32 (wrapF .u32 carry_40)]) (iC_len .u32) (inR_lt hg49) (Nat.le_of_ble_eq_true rfl) (by omega : 0 + (wrapF .i64 (i_9 + (v3.Groups.length : Int))).toNat * 1 = (wrapF .i64 (i_9 + (v3.Groups.length : Int))).toNat * 1 + 0) (by kernel_rfl))))) <| .done <| .pop <| .ru fine ?_
    exact loopF_back (out_39.set (wrapF .i64 (i_9 + (v3.Groups.length : Int))).toNat (wrapF .u32 carry_40), wrapF .i64 (i_9 + 1)) hr ((Wk.relen 5 (b := 3) (es := 1) (len := out_39.length) (out_39.set (wrapF .i64 (i_9 + (v3.Groups.length : Int))).toNat (wrapF .u32 carry_40)).length (by kernel_rfl) (Eq.symm (List.length_set.trans rfl))).trans ((Wk.gc [2, 3, 4, 5, 6] [(0, true), (1, true), (2, true), (3, false)] rfl (pKt (pKt (pKt (pKo (iC .u32) (iC_pure _) (out_39.set (wrapF .i64 (i_9 + (v3.Groups.length : Int))).toNat (wrapF .u32 carry_40)) trivial))))).to (by kernel_rfl)))
  ·refine .leave rfl ?_
   obtain rfl := oi hr
   exact ⟨rfl, ((Wk.gc [2, 3, 4, 5] [(0, true), (1, true), (2, true), (3, false)] rfl (pKt (pKt (pKt (pKo (iC .u32) (iC_pure _) out_8 trivial))))).to (by kernel_rfl))⟩
 ·rintro x st' hq52
  clear hL51
  obtain ⟨rfl, hq52⟩ := hq52
  refine CQ_exit _ rfl <| .wk hq52 <| .seq ?_
  obtain ⟨v53, hc54, hr⟩ := bd hr
  refine .g1 fine (callOk_ref (args := [aB (v1.Negative != v3.Negative), .hs 3 0 out_29.length 1]) (l := [3]) (SnL.cons (Sn.pure rfl) (SnL.cons (Sn.hs rfl (.inl rfl) (SnC.pure (ids_flat (iC_pure _) _)) (fun h => flat_nil0 h)) SnL.nil)) (fiducialref01_made_ok n (v1.Negative != v3.Negative) out_29 v53 hc54)) <| .mu 6 <| .ca cf0 <| .mu 1 <| .done <| .nh [4] [.own (api_Int.c v1), .own (api_Int.c v3), .own (api_Int.c v53), .fix (out_29.flatMap (iC .u32))] <| .ret ?_
  obtain rfl := oi hr
  exact FinQ.r1 [.agg (api_Int.c v53)]

theorem fiducialref01_Divide_ok (n : Nat) (x' : api_Int) (y : api_Int) (r : api_Int × api_Int × Int) (hr : fiducialref01_Divide n x' y = some r) : FnOk Tryz.prog 229 [.agg (api_Int.c x'), .agg (api_Int.c y)] (.tup [.agg (api_Int.c r.1), .agg (api_Int.c r.2.1), aI64 r.2.2]) := by
 unfold fiducialref01_Divide at hr
 refine FnOk.bd fine Tryz.func229 [.cell 4 72, .cell 5 72, .tmp 6] ?_
 unfold Tryz.f229
 simp only [Option.getD_some]
 refine .seq <| .r2 fine 54 [(2, .hp 0 0), (3, .hp 1 0), (4, .hp 2 0), (5, .hp 3 0)] [.own (api_Int.c x'), .own (api_Int.c y), .own [aB false, nS], .own [aB false, nS]] <| .seq ?_
 obtain ⟨v1, hc2, v3, hc4, hr⟩ := bd2 hr
 refine .tn fine (ca1 (ok0 (fiducialref01_Value_ok n x' v1 hc2)) (ca3 (ok0 (fiducialref01_Value_ok n y v3 hc4)))) <| .mu 1 <| .ca cf0 <| .mu 1 <| .ca (cfA (fun h => by rw [sv hc4 hc2 (fiducialref01_Value_cg n h)]) cf0) <| .mu 2 ?_
 refine .done ⟨by kernel_rfl, ?_⟩
 refine .nh [2, 3, 4, 5] [.own (api_Int.c v1), .own (api_Int.c v3), .own [aB false, nS], .own [aB false, nS]] <| .seq <| .seq <| .r4 fine [2, 3, 4, 5] [(17, aB (((v3.Groups.length : Int) : Int) == 0))] ?_
 refine .cd hr (fun hb5 hr => ?_) (fun hb5 hr => ?_)
 ·refine .seq <| .r4 fine [4, 5] [(6, aI64 14)] <| .ret ?_
  obtain rfl := oi hr
  exact FinQ.ret (vs := [.agg [aB false, nS], .agg [aB false, nS], aI64 14]) (by kernel_rfl) (Sn.tup (SnL.cons (Sn.agg (SnL.cons (Sn.pure rfl) (SnL.cons Sn.nilsl SnL.nil))) (SnL.cons (Sn.agg (SnL.cons (Sn.pure rfl) (SnL.cons Sn.nilsl SnL.nil))) (SnL.cons (Sn.pure rfl) SnL.nil))))
 ·refine .skip <| .seq ?_
  obtain ⟨v6, hc7, hr⟩ := bd hr
  refine .g1 fine (ok0 (fiducialref01_parts_ok n v1.Groups v3.Groups v6 hc7)) <| .mu 4 <| .ca cf0 <| .mu 5 <| .done <| .nh [2, 3, 4, 5, 7, 8] [.own (api_Int.c v1), .own (api_Int.c v3), .own [aB false, nS], .own [aB false, nS]] <| .seq ?_
  obtain ⟨v8, hc9, hr⟩ := bd hr
  refine .g1 fine (ok0 (fiducialref01_made_ok n (v1.Negative != v3.Negative) v6.1 v8 hc9)) <| .mu 6 <| .ca cf0 <| .mu 2 <| .done <| .nh [2, 3, 4, 5, 8, 9] [.own (api_Int.c v1), .own (api_Int.c v3), .own [aB false, nS], .own [aB false, nS], .own (api_Int.c v8)] <| .seq <| .seq ?_
  rcases Bool.eq_false_or_eq_true (v1.Negative != v3.Negative) with hb10 | hb10
  ·replace hr := cd_t hb10 hr
   refine .r0 fine <| .mu 4 <| .p0 (v := aB true) (eB hb10) <| .mu 5 <| .done <| .nh [2, 3, 4, 5, 9, 44] [.own (api_Int.c v1), .own (api_Int.c v3), .own [aB false, nS], .own [aB false, nS], .own (api_Int.c v8)] ?_
   refine .cd hr (fun hb11 hr => ?_) (fun hb11 hr => ?_)
   ·obtain ⟨v12, hc13, v14, hc15, hr⟩ := bd2 hr
    refine .tn fine (ca1 (ok0 (fiducialref01_Of_ok n 1 v12 hc13)) (ca3 (ok0 (fiducialref01_Sub_ok n v8 v12 v14 hc15)))) <| .mu 1 <| .ca cf0 <| .ca (cfF cf0) <| .mu 1 ?_
    refine .done ⟨by kernel_rfl, ?_⟩
    refine .nh [2, 3, 4, 5, 9] [.own (api_Int.c v1), .own (api_Int.c v3), .own [aB false, nS], .own [aB false, nS], .own (api_Int.c v14)] <| .seq ?_
    obtain ⟨v16, hc17, v18, hc19, hr⟩ := bd2 hr
    refine .tn fine (ca1 (ok0 (fiducialref01_Mul_ok n v14 v3 v16 hc17)) (ca3 (ok0 (fiducialref01_Sub_ok n v1 v16 v18 hc19)))) <| .mu 4 <| .ca cf0 <| .ca (cfF cf0) <| .mu 3 ?_
    refine .done ⟨by kernel_rfl, ?_⟩
    refine .nh [4, 5, 6] [.own (api_Int.c v1), .own (api_Int.c v3), .own (api_Int.c v14), .own (api_Int.c v18), .own (api_Int.c v14)] <| .ret ?_
    obtain rfl := oi hr
    exact FinQ.ret (vs := [.agg (api_Int.c v14), .agg (api_Int.c v18), aI64 0]) (by kernel_rfl) (Sn.tup (SnL.cons (Sn.pure rfl) (SnL.cons (Sn.pure rfl) (SnL.cons (Sn.pure rfl) SnL.nil))))
   ·refine .skip <| .seq ?_
    obtain ⟨v20, hc21, v22, hc23, hr⟩ := bd2 hr
    refine .tn fine (ca1 (ok0 (fiducialref01_Mul_ok n v8 v3 v20 hc21)) (ca3 (ok0 (fiducialref01_Sub_ok n v1 v20 v22 hc23)))) <| .mu 4 <| .ca cf0 <| .ca (cfF cf0) <| .mu 3 ?_
    refine .done ⟨by kernel_rfl, ?_⟩
    refine .nh [4, 5, 6] [.own (api_Int.c v1), .own (api_Int.c v3), .own (api_Int.c v8), .own (api_Int.c v22), .own (api_Int.c v8)] <| .ret ?_
    obtain rfl := oi hr
    exact FinQ.ret (vs := [.agg (api_Int.c v8), .agg (api_Int.c v22), aI64 0]) (by kernel_rfl) (Sn.tup (SnL.cons (Sn.pure rfl) (SnL.cons (Sn.pure rfl) (SnL.cons (Sn.pure rfl) SnL.nil))))
  ·replace hr := cd_f hb10 hr
   refine .r0 fine <| .mu 4 <| .p0 (v := aB false) (eB hb10) <| .mu 5 <| .done <| .nh [2, 3, 4, 5, 9, 44] [.own (api_Int.c v1), .own (api_Int.c v3), .own [aB false, nS], .own [aB false, nS], .own (api_Int.c v8)] <| .cF (by kernel_rfl) <| .skip <| .seq ?_
   obtain ⟨v24, hc25, v26, hc27, hr⟩ := bd2 hr
   refine .tn fine (ca1 (ok0 (fiducialref01_Mul_ok n v8 v3 v24 hc25)) (ca3 (ok0 (fiducialref01_Sub_ok n v1 v24 v26 hc27)))) <| .mu 4 <| .ca cf0 <| .ca (cfF cf0) <| .mu 3 ?_
   refine .done ⟨by kernel_rfl, ?_⟩
   refine .nh [4, 5, 6] [.own (api_Int.c v1), .own (api_Int.c v3), .own (api_Int.c v8), .own (api_Int.c v26), .own (api_Int.c v8)] <| .ret ?_
   obtain rfl := oi hr
   exact FinQ.ret (vs := [.agg (api_Int.c v8), .agg (api_Int.c v26), aI64 0]) (by kernel_rfl) (Sn.tup (SnL.cons (Sn.pure rfl) (SnL.cons (Sn.pure rfl) (SnL.cons (Sn.pure rfl) SnL.nil))))

theorem fiducialref02_reduced_ok (n : Nat) (num : api_Int) (den : api_Int) (r : api_Rat) (hr : fiducialref02_reduced n num den = some r) : FnOk Tryz.prog 222 [.agg (api_Int.c num), .agg (api_Int.c den)] (.agg (api_Rat.c r)) := by
 unfold fiducialref02_reduced at hr
 refine FnOk.bd fine Tryz.func222 [.cell 4 74] ?_
 unfold Tryz.f222
 simp only [Option.getD_some]
 refine .seq <| .r2 fine 37 [(2, .hp 0 0), (3, .hp 1 0), (4, .hp 2 0)] [.own (api_Int.c num), .own (api_Int.c den), .own [aB false, nS, aB false, nS]] <| .seq ?_
 obtain ⟨v1, hc2, hr⟩ := bd hr
 refine .g1 fine (ok0 (fiducialref01_Gcd_ok n num den v1 hc2)) <| .mu 2 <| .ca cf0 <| .mu 2 <| .done <| .nh [2, 3, 4, 5] [.own (api_Int.c num), .own (api_Int.c den), .own [aB false, nS, aB false, nS], .own (api_Int.c v1)] <| .seq <| .seq ?_
 obtain ⟨v3, hc4, hr⟩ := bd hr
 refine .g1 fine (ok0 (fiducialref01_Sign_ok n den v3 hc4)) <| .mu 1 <| .ca cf0 <| .mu 1 <| .done <| .nh [2, 3, 4, 5, 17] [.own (api_Int.c num), .own (api_Int.c den), .own [aB false, nS, aB false, nS], .own (api_Int.c v1)] ?_
 refine .cd hr (fun hb5 hr => ?_) (fun hb5 hr => ?_)
 ·obtain ⟨v6, hc7, hr⟩ := bd hr
  refine .g1 fine (ok0 (fiducialref01_Neg_ok n v1 v6 hc7)) <| .mu 1 <| .ca cf0 <| .mu 1 <| .done <| .nh [2, 3, 4, 5] [.own (api_Int.c num), .own (api_Int.c den), .own [aB false, nS, aB false, nS], .own (api_Int.c v6)] <| .seq ?_
  obtain ⟨v8, hc9, hr⟩ := bd hr
  refine .g1 fine (ok0 (fiducialref01_Divide_ok n num v6 v8 hc9)) <| .mu 2 <| .ca cf0 <| .mu 9 <| .done <| .nh [3, 4, 5, 6] [.own (api_Int.c num), .own (api_Int.c den), .own [aB false, nS, aB false, nS], .own (api_Int.c v6), .own (api_Int.c v8.1), .own (api_Int.c v8.2.1)] <| .seq ?_
  obtain ⟨v10, hc11, hr⟩ := bd hr
  refine .g1 fine (ok0 (fiducialref01_Divide_ok n den v6 v10 hc11)) <| .mu 2 <| .ca cf0 <| .mu 9 <| .done <| .nh [4, 6, 9] [.own (api_Int.c num), .own (api_Int.c den), .own [aB false, nS, aB false, nS], .own (api_Int.c v6), .own (api_Int.c v8.1), .own (api_Int.c v8.2.1), .own (api_Int.c v10.1), .own (api_Int.c v10.2.1)] <| .seq <| .r5 fine [4] [] [.own (api_Int.c num), .own (api_Int.c den), .own [aB v8.1.Negative, sU32 v8.1.Groups, aB v10.1.Negative, sU32 v10.1.Groups], .own (api_Int.c v6), .own (api_Int.c v8.1), .own (api_Int.c v8.2.1), .own (api_Int.c v10.1), .own (api_Int.c v10.2.1)] <| .ret ?_
  obtain rfl := oi hr
  exact FinQ.r1 [.agg [aB v8.1.Negative, sU32 v8.1.Groups, aB v10.1.Negative, sU32 v10.1.Groups]]
 ·refine .skip <| .seq ?_
  obtain ⟨v12, hc13, hr⟩ := bd hr
  refine .g1 fine (ok0 (fiducialref01_Divide_ok n num v1 v12 hc13)) <| .mu 2 <| .ca cf0 <| .mu 9 <| .done <| .nh [3, 4, 5, 6] [.own (api_Int.c num), .own (api_Int.c den), .own [aB false, nS, aB false, nS], .own (api_Int.c v1), .own (api_Int.c v12.1), .own (api_Int.c v12.2.1)] <| .seq ?_
  obtain ⟨v14, hc15, hr⟩ := bd hr
  refine .g1 fine (ok0 (fiducialref01_Divide_ok n den v1 v14 hc15)) <| .mu 2 <| .ca cf0 <| .mu 9 <| .done <| .nh [4, 6, 9] [.own (api_Int.c num), .own (api_Int.c den), .own [aB false, nS, aB false, nS], .own (api_Int.c v1), .own (api_Int.c v12.1), .own (api_Int.c v12.2.1), .own (api_Int.c v14.1), .own (api_Int.c v14.2.1)] <| .seq <| .r5 fine [4] [] [.own (api_Int.c num), .own (api_Int.c den), .own [aB v12.1.Negative, sU32 v12.1.Groups, aB v14.1.Negative, sU32 v14.1.Groups], .own (api_Int.c v1), .own (api_Int.c v12.1), .own (api_Int.c v12.2.1), .own (api_Int.c v14.1), .own (api_Int.c v14.2.1)] <| .ret ?_
  obtain rfl := oi hr
  exact FinQ.r1 [.agg [aB v12.1.Negative, sU32 v12.1.Groups, aB v14.1.Negative, sU32 v14.1.Groups]]

theorem fiducialref02_Add_ok (n : Nat) (x' : api_Rat) (y : api_Rat) (r : api_Rat) (hr : fiducialref02_Add n x' y = some r) : FnOk Tryz.prog 193 [.agg (api_Rat.c x'), .agg (api_Rat.c y)] (.agg (api_Rat.c r)) := by
 unfold fiducialref02_Add at hr
 refine FnOk.bd fine Tryz.func193 [.cell 4 74] ?_
 unfold Tryz.f193
 simp only [Option.getD_some]
 refine .seq <| .r2 fine 28 [(2, .hp 0 0), (3, .hp 1 0), (4, .hp 2 0)] [.own (api_Rat.c x'), .own (api_Rat.c y), .own [aB false, nS, aB false, nS]] <| .seq ?_
 obtain ⟨v1, hc2, hr⟩ := bd hr
 refine .g1 fine (ok0 (fiducialref02_Value_ok n x' v1 hc2)) <| .mu 1 <| .ca cf0 <| .mu 2 <| .done <| .nh [3, 4, 5] [.own (api_Rat.c x'), .own (api_Rat.c y), .own [aB false, nS, aB false, nS], .own (api_Rat.c v1)] <| .seq ?_
 obtain ⟨v3, hc4, hr⟩ := bd hr
 refine .g1 fine (ok0 (fiducialref02_Value_ok n y v3 hc4)) <| .mu 1 <| .ca cf0 <| .mu 2 <| .done <| .nh [4, 5, 6] [.own (api_Rat.c x'), .own (api_Rat.c y), .own [aB false, nS, aB false, nS], .own (api_Rat.c v1), .own (api_Rat.c v3)] <| .seq ?_
 obtain ⟨v5, hc6, v7, hc8, v9, hc10, hr⟩ := bd3 hr
 obtain ⟨v11, hc12, v13, hc14, hr⟩ := bd2 hr
 refine .tn fine (ca1 (ok0 (fiducialref01_Mul_ok n v1.Num v3.Den v5 hc6)) (ca1 (ok0 (fiducialref01_Mul_ok n v3.Num v1.Den v7 hc8)) (ca1 (ok0 (fiducialref01_Add_ok n v5 v7 v9 hc10)) (ca1 (ok0 (fiducialref01_Mul_ok n v1.Den v3.Den v11 hc12)) (ca3 (ok0 (fiducialref02_reduced_ok n v9 v11 v13 hc14))))))) <| .mu 4 <| .ca cf0 <| .mu 4 <| .ca (cfA (fun h => by rw [sv hc8 hc6 (fiducialref01_Mul_cg n h)]) cf0) <| .ca (cfF (cfF cf0)) <| .mu 4 <| .ca (cfA (fun h => by rw [sv hc12 hc6 (fiducialref01_Mul_cg n h)]) (cfA (fun h => by rw [sv hc12 hc8 (fiducialref01_Mul_cg n h)]) (cfF cf0))) <| .ca (cfF (cfF (cfF (cfF cf0)))) <| .mu 1 ?_
 refine .done ⟨by kernel_rfl, ?_⟩
 refine .nh [4] [.own (api_Rat.c x'), .own (api_Rat.c y), .own (api_Rat.c v13), .own (api_Rat.c v1), .own (api_Rat.c v3)] <| .ret ?_
 obtain rfl := oi hr
 exact FinQ.r1 [.agg (api_Rat.c v13)]

theorem fiducialref02_Sub_ok (n : Nat) (x' : api_Rat) (y : api_Rat) (r : api_Rat) (hr : fiducialref02_Sub n x' y = some r) : FnOk Tryz.prog 141 [.agg (api_Rat.c x'), .agg (api_Rat.c y)] (.agg (api_Rat.c r)) := by
 unfold fiducialref02_Sub at hr
 refine FnOk.bd fine Tryz.func141 [.cell 4 74] ?_
 unfold Tryz.f141
 simp only [Option.getD_some]
 refine .seq <| .r2 fine 9 [(2, .hp 0 0), (3, .hp 1 0), (4, .hp 2 0)] [.own (api_Rat.c x'), .own (api_Rat.c y), .own [aB false, nS, aB false, nS]] <| .seq ?_
 obtain ⟨v1, hc2, v3, hc4, hr⟩ := bd2 hr
 refine .tn fine (ca1 (ok0 (fiducialref02_Neg_ok n y v1 hc2)) (ca3 (ok0 (fiducialref02_Add_ok n x' v1 v3 hc4)))) <| .mu 2 <| .ca cf0 <| .ca (cfF cf0) <| .mu 1 ?_
 refine .done ⟨by kernel_rfl, ?_⟩
 refine .nh [4] [.own (api_Rat.c x'), .own (api_Rat.c y), .own (api_Rat.c v3)] <| .ret ?_
 obtain rfl := oi hr
 exact FinQ.r1 [.agg (api_Rat.c v3)]

theorem fiducialref02_Sign_ok (n : Nat) (x' : api_Rat) (r : Int) (hr : fiducialref02_Sign n x' = some r) : FnOk Tryz.prog 140 [.agg (api_Rat.c x')] (aI64 r) := by
 unfold fiducialref02_Sign at hr
 refine FnOk.bd fine Tryz.func140 [.tmp 2] ?_
 unfold Tryz.f140
 simp only [Option.getD_some]
 refine .seq <| .r2 fine 7 [(1, .hp 0 0)] [.own (api_Rat.c x')] <| .seq ?_
 obtain ⟨v1, hc2, v3, hc4, hr⟩ := bd2 hr
 refine .gn fine (ca1 (ok0 (fiducialref02_Value_ok n x' v1 hc2)) (ca3 (ok0 (fiducialref01_Sign_ok n v1.Num v3 hc4)))) <| .mu 1 <| .ca cf0 <| .mu 1 <| .ca (cfF cf0) <| .mu 1 <| .done <| .ret ?_
 obtain rfl := oi hr
 exact FinQ.r1 [aI64 v3]

theorem fiducialref02_Compare_ok (n : Nat) (x' : api_Rat) (y : api_Rat) (r : Int) (hr : fiducialref02_Compare n x' y = some r) : FnOk Tryz.prog 99 [.agg (api_Rat.c x'), .agg (api_Rat.c y)] (aI64 r) := by
 unfold fiducialref02_Compare at hr
 refine FnOk.bd fine Tryz.func99 [.tmp 4] ?_
 unfold Tryz.f99
 simp only [Option.getD_some]
 refine .seq <| .r2 fine 9 [(2, .hp 0 0), (3, .hp 1 0)] [.own (api_Rat.c x'), .own (api_Rat.c y)] <| .seq ?_
 obtain ⟨v1, hc2, v3, hc4, hr⟩ := bd2 hr
 refine .gn fine (ca1 (ok0 (fiducialref02_Sub_ok n x' y v1 hc2)) (ca3 (ok0 (fiducialref02_Sign_ok n v1 v3 hc4)))) <| .mu 2 <| .ca cf0 <| .ca (cfF cf0) <| .mu 1 <| .done <| .ret ?_
 obtain rfl := oi hr
 exact FinQ.r1 [aI64 v3]

theorem fiducialref02_Same_ok (n : Nat) (x' : api_Rat) (y : api_Rat) (r : Bool) (hr : fiducialref02_Same n x' y = some r) : FnOk Tryz.prog 53 [.agg (api_Rat.c x'), .agg (api_Rat.c y)] (aB r) := by
 unfold fiducialref02_Same at hr
 refine FnOk.bd fine Tryz.func53 [.tmp 4] ?_
 unfold Tryz.f53
 simp only [Option.getD_some]
 refine .seq <| .r2 fine 17 [(2, .hp 0 0), (3, .hp 1 0)] [.own (api_Rat.c x'), .own (api_Rat.c y)] <| .seq ?_
 obtain ⟨v1, hc2, hr⟩ := bd hr
 rcases Bool.eq_false_or_eq_true v1 with hb3 | hb3
 ·subst hb3
  replace hr := cd_t rfl hr
  obtain ⟨v4, hc5, hr⟩ := bd hr
  rcases Bool.eq_false_or_eq_true v4 with hb6 | hb6
  ·subst hb6
   replace hr := cd_t rfl hr
   obtain ⟨v7, hc8, hr⟩ := bd hr
   refine .gn fine (ca1 (ok0 (fiducialref02_Valid_ok n x' true hc2)) (ca1 (ok0 (fiducialref02_Valid_ok n y true hc5)) (ca3 (ok0 (fiducialref02_Compare_ok n x' y v7 hc8))))) <| .mu 1 <| .ca cf0 <| .mu 2 <| .ca (cfA (fun h => by rw [sv hc5 hc2 (fiducialref02_Valid_cg n h)]) cf0) <| .mu 4 <| .ca (cfF (cfF cf0)) <| .mu 3 <| .done <| .ret ?_
   obtain rfl := oi hr
   exact FinQ.r1 [aB ((v7 : Int) == 0)]
  ·subst hb6
   replace hr := cd_f rfl hr
   refine .gn fine (ca1 (ok0 (fiducialref02_Valid_ok n x' true hc2)) (ca3 (ok0 (fiducialref02_Valid_ok n y false hc5)))) <| .mu 1 <| .ca cf0 <| .mu 2 <| .ca (cfA (fun h => by rw [sv hc5 hc2 (fiducialref02_Valid_cg n h)]) cf0) <| .mu 8 <| .done <| .ret ?_
   obtain rfl := oi hr
   exact FinQ.r1 [aB false]
 ·subst hb3
  replace hr := cd_f rfl hr
  refine .g1 fine (ok0 (fiducialref02_Valid_ok n x' false hc2)) <| .mu 1 <| .ca cf0 <| .mu 11 <| .done <| .ret ?_
  obtain rfl := oi hr
  exact FinQ.r1 [aB false]

theorem fiduciallaw46_known_ok (n : Nat) (r : Bool) (hr : fiduciallaw46_known n = some r) : FnOk Tryz.prog 13 [] (aB r) := by
 unfold fiduciallaw46_known at hr
 refine FnOk.bd fine Tryz.func13 [.tmp 0] ?_
 unfold Tryz.f13
 simp only [Option.getD_some]
 refine .seq <| .r3 fine 65 [] <| .seq ?_
 obtain ⟨v1, hc2, v3, hc4, v5, hc6, hr⟩ := bd3 hr
 refine .gn fine (ca2 [.own [aI64 0, aI64 1, aI64 1, aI64 2]] (callOk_ref (args := [.hs 0 0 4 1]) (l := [0]) (SnL.cons (Sn.hs rfl (.inl rfl) (SnC.cons (Sn.pure rfl) (SnC.cons (Sn.pure rfl) (SnC.cons (Sn.pure rfl) (SnC.cons (Sn.pure rfl) SnC.nil)))) (fun h => nomatch h)) SnL.nil) (fiduciallaw46_line_ok n [(0 : Int), (1 : Int), (1 : Int), (2 : Int)] v1 hc2)) (ca2 [.fix [aI64 0, aI64 1, aI64 1, aI64 2], .own [aI64 1, aI64 1, aI64 (-1), aI64 (-1)]] (callOk_ref (args := [.hs 1 0 4 1]) (l := [1]) (SnL.cons (Sn.hs rfl (.inl rfl) (SnC.cons (Sn.pure rfl) (SnC.cons (Sn.pure rfl) (SnC.cons (Sn.pure rfl) (SnC.cons (Sn.pure rfl) SnC.nil)))) (fun h => nomatch h)) SnL.nil) (fiduciallaw46_line_ok n [(1 : Int), (1 : Int), ((-1) : Int), ((-1) : Int)] v3 hc4)) (ca4 [.fix [aI64 0, aI64 1, aI64 1, aI64 2], .fix [aI64 1, aI64 1, aI64 (-1), aI64 (-1)]] (ok0 (depth_Consistent_ok n v1 v3 0 v5 hc6))))) <| .mu 1 <| .ca cf0 <| .mu 1 <| .ca (cfH 0 2 1 cf0) <| .ca (cfF (cfF cf0)) <| .mu 6 <| .done <| .nh [1, 2] [.fix [aI64 0, aI64 1, aI64 1, aI64 2], .fix [aI64 1, aI64 1, aI64 (-1), aI64 (-1)], .own (api_Field.c v5.1)] <| .seq ?_
 obtain ⟨v7, hc8, v9, hc10, hr⟩ := bd2 hr
 refine .gn fine (ca2 [.fix [aI64 0, aI64 1, aI64 1, aI64 2], .fix [aI64 1, aI64 1, aI64 (-1), aI64 (-1)], .own (api_Field.c v5.1), .own [aI64 0, aI64 1, aI64 1, aI64 2]] (callOk_ref (args := [.hs 3 0 4 1]) (l := [3]) (SnL.cons (Sn.hs rfl (.inl rfl) (SnC.cons (Sn.pure rfl) (SnC.cons (Sn.pure rfl) (SnC.cons (Sn.pure rfl) (SnC.cons (Sn.pure rfl) SnC.nil)))) (fun h => nomatch h)) SnL.nil) (fiduciallaw46_line_ok n [(0 : Int), (1 : Int), (1 : Int), (2 : Int)] v7 hc8)) (ca4 [.fix [aI64 0, aI64 1, aI64 1, aI64 2], .fix [aI64 1, aI64 1, aI64 (-1), aI64 (-1)], .own (api_Field.c v5.1), .fix [aI64 0, aI64 1, aI64 1, aI64 2]] (ok0 (depth_Turn_ok n v7 v9 hc10)))) <| .mu 1 <| .ca cf0 <| .ca (cfF cf0) <| .mu 6 <| .done <| .nh [1, 2, 3, 4] [.fix [aI64 0, aI64 1, aI64 1, aI64 2], .fix [aI64 1, aI64 1, aI64 (-1), aI64 (-1)], .own (api_Field.c v5.1), .fix [aI64 0, aI64 1, aI64 1, aI64 2], .own (api_Field.c v9.1)] <| .seq ?_
 obtain ⟨v11, hc12, v13, hc14, hr⟩ := bd2 hr
 refine .gn fine (ca2 [.fix [aI64 0, aI64 1, aI64 1, aI64 2], .fix [aI64 1, aI64 1, aI64 (-1), aI64 (-1)], .own (api_Field.c v5.1), .fix [aI64 0, aI64 1, aI64 1, aI64 2], .own (api_Field.c v9.1), .own [aI64 2, aI64 0]] (callOk_ref (args := [.hs 5 0 2 1]) (l := [5]) (SnL.cons (Sn.hs rfl (.inl rfl) (SnC.cons (Sn.pure rfl) (SnC.cons (Sn.pure rfl) SnC.nil)) (fun h => nomatch h)) SnL.nil) (fiduciallaw46_line_ok n [(2 : Int), (0 : Int)] v11 hc12)) (ca4 [.fix [aI64 0, aI64 1, aI64 1, aI64 2], .fix [aI64 1, aI64 1, aI64 (-1), aI64 (-1)], .own (api_Field.c v5.1), .fix [aI64 0, aI64 1, aI64 1, aI64 2], .own (api_Field.c v9.1), .fix [aI64 2, aI64 0]] (ok0 (depth_Depths_ok n v11 640 100 v13 hc14)))) <| .mu 1 <| .ca cf0 <| .ca (cfF cf0) <| .mu 6 <| .done <| .nh [1, 2, 3, 4, 5, 6] [.fix [aI64 0, aI64 1, aI64 1, aI64 2], .fix [aI64 1, aI64 1, aI64 (-1), aI64 (-1)], .own (api_Field.c v5.1), .fix [aI64 0, aI64 1, aI64 1, aI64 2], .own (api_Field.c v9.1), .fix [aI64 2, aI64 0], .own (api_Field.c v13.1)] <| .seq ?_
 obtain ⟨v15, hc16, hr⟩ := bd hr
 refine .g1 fine (ok0 (depth_Interval_ok n 640 100 2 v15 hc16)) <| .ca cf0 <| .mu 6 <| .done <| .nh [1, 2, 3, 4, 5, 6, 7, 8] [.fix [aI64 0, aI64 1, aI64 1, aI64 2], .fix [aI64 1, aI64 1, aI64 (-1), aI64 (-1)], .own (api_Field.c v5.1), .fix [aI64 0, aI64 1, aI64 1, aI64 2], .own (api_Field.c v9.1), .fix [aI64 2, aI64 0], .own (api_Field.c v13.1), .own (api_Range.c v15.1)] <| .seq ?_
 rcases Bool.eq_false_or_eq_true (((wrapF .i64 ((wrapF .i64 ((wrapF .i64 (v5.2 + v9.2)) + v13.2)) + v15.2)) : Int) == 0) with hb17 | hb17
 ·replace hr := cd_t hb17 hr
  obtain ⟨v18, hc19, v20, hc21, hr⟩ := bd2 hr
  rcases Bool.eq_false_or_eq_true v20 with hb22 | hb22
  ·subst hb22
   replace hr := cd_t rfl hr
   obtain ⟨v23, hc24, v25, hc26, hr⟩ := bd2 hr
   rcases Bool.eq_false_or_eq_true v25 with hb27 | hb27
   ·subst hb27
    replace hr := cd_t rfl hr
    obtain ⟨v28, hc29, v30, hc31, hr⟩ := bd2 hr
    rcases Bool.eq_false_or_eq_true v30 with hb32 | hb32
    ·subst hb32
     replace hr := cd_t rfl hr
     obtain ⟨v33, hc34, v35, hc36, hr⟩ := bd2 hr
     refine .tn fine (ca2 [.fix [aI64 0, aI64 1, aI64 1, aI64 2], .fix [aI64 1, aI64 1, aI64 (-1), aI64 (-1)], .own (api_Field.c v5.1), .fix [aI64 0, aI64 1, aI64 1, aI64 2], .own (api_Field.c v9.1), .fix [aI64 2, aI64 0], .own (api_Field.c v13.1), .own (api_Range.c v15.1), .own [aI64 (-1), aI64 1, aI64 1, aI64 (-1)]] (callOk_ref (args := [.hs 8 0 4 1]) (l := [8]) (SnL.cons (Sn.hs rfl (.inl rfl) (SnC.cons (Sn.pure rfl) (SnC.cons (Sn.pure rfl) (SnC.cons (Sn.pure rfl) (SnC.cons (Sn.pure rfl) SnC.nil)))) (fun h => nomatch h)) SnL.nil) (fiduciallaw46_line_ok n [((-1) : Int), (1 : Int), (1 : Int), ((-1) : Int)] v18 hc19)) (ca2 [.fix [aI64 0, aI64 1, aI64 1, aI64 2], .fix [aI64 1, aI64 1, aI64 (-1), aI64 (-1)], .own (api_Field.c v5.1), .fix [aI64 0, aI64 1, aI64 1, aI64 2], .own (api_Field.c v9.1), .fix [aI64 2, aI64 0], .own (api_Field.c v13.1), .own (api_Range.c v15.1), .fix [aI64 (-1), aI64 1, aI64 1, aI64 (-1)]] (ok0 (fiduciallaw46_Same_ok n v5.1 v18 true hc21)) (ca2 [.fix [aI64 0, aI64 1, aI64 1, aI64 2], .fix [aI64 1, aI64 1, aI64 (-1), aI64 (-1)], .own (api_Field.c v5.1), .fix [aI64 0, aI64 1, aI64 1, aI64 2], .own (api_Field.c v9.1), .fix [aI64 2, aI64 0], .own (api_Field.c v13.1), .own (api_Range.c v15.1), .fix [aI64 (-1), aI64 1, aI64 1, aI64 (-1)], .own [aI64 1, aI64 2, aI64 (-1), aI64 (-1)]] (callOk_ref (args := [.hs 9 0 4 1]) (l := [9]) (SnL.cons (Sn.hs rfl (.inl rfl) (SnC.cons (Sn.pure rfl) (SnC.cons (Sn.pure rfl) (SnC.cons (Sn.pure rfl) (SnC.cons (Sn.pure rfl) SnC.nil)))) (fun h => nomatch h)) SnL.nil) (fiduciallaw46_line_ok n [(1 : Int), (2 : Int), ((-1) : Int), ((-1) : Int)] v23 hc24)) (ca2 [.fix [aI64 0, aI64 1, aI64 1, aI64 2], .fix [aI64 1, aI64 1, aI64 (-1), aI64 (-1)], .own (api_Field.c v5.1), .fix [aI64 0, aI64 1, aI64 1, aI64 2], .own (api_Field.c v9.1), .fix [aI64 2, aI64 0], .own (api_Field.c v13.1), .own (api_Range.c v15.1), .fix [aI64 (-1), aI64 1, aI64 1, aI64 (-1)], .fix [aI64 1, aI64 2, aI64 (-1), aI64 (-1)]] (ok0 (fiduciallaw46_Same_ok n v9.1 v23 true hc26)) (ca2 [.fix [aI64 0, aI64 1, aI64 1, aI64 2], .fix [aI64 1, aI64 1, aI64 (-1), aI64 (-1)], .own (api_Field.c v5.1), .fix [aI64 0, aI64 1, aI64 1, aI64 2], .own (api_Field.c v9.1), .fix [aI64 2, aI64 0], .own (api_Field.c v13.1), .own (api_Range.c v15.1), .fix [aI64 (-1), aI64 1, aI64 1, aI64 (-1)], .fix [aI64 1, aI64 2, aI64 (-1), aI64 (-1)], .own [aI64 500, aI64 (-1)]] (callOk_ref (args := [.hs 10 0 2 1]) (l := [10]) (SnL.cons (Sn.hs rfl (.inl rfl) (SnC.cons (Sn.pure rfl) (SnC.cons (Sn.pure rfl) SnC.nil)) (fun h => nomatch h)) SnL.nil) (fiduciallaw46_line_ok n [(500 : Int), ((-1) : Int)] v28 hc29)) (ca2 [.fix [aI64 0, aI64 1, aI64 1, aI64 2], .fix [aI64 1, aI64 1, aI64 (-1), aI64 (-1)], .own (api_Field.c v5.1), .fix [aI64 0, aI64 1, aI64 1, aI64 2], .own (api_Field.c v9.1), .fix [aI64 2, aI64 0], .own (api_Field.c v13.1), .own (api_Range.c v15.1), .fix [aI64 (-1), aI64 1, aI64 1, aI64 (-1)], .fix [aI64 1, aI64 2, aI64 (-1), aI64 (-1)], .fix [aI64 500, aI64 (-1)]] (ok0 (fiduciallaw46_Same_ok n v13.1 v28 true hc31)) (ca2 [.fix [aI64 0, aI64 1, aI64 1, aI64 2], .fix [aI64 1, aI64 1, aI64 (-1), aI64 (-1)], .own (api_Field.c v5.1), .fix [aI64 0, aI64 1, aI64 1, aI64 2], .own (api_Field.c v9.1), .fix [aI64 2, aI64 0], .own (api_Field.c v13.1), .own (api_Range.c v15.1), .fix [aI64 (-1), aI64 1, aI64 1, aI64 (-1)], .fix [aI64 1, aI64 2, aI64 (-1), aI64 (-1)], .fix [aI64 500, aI64 (-1)]] (ok0 (fiducialref02_Whole_ok n 400 v33 hc34)) (ca4 [.fix [aI64 0, aI64 1, aI64 1, aI64 2], .fix [aI64 1, aI64 1, aI64 (-1), aI64 (-1)], .own (api_Field.c v5.1), .fix [aI64 0, aI64 1, aI64 1, aI64 2], .own (api_Field.c v9.1), .fix [aI64 2, aI64 0], .own (api_Field.c v13.1), .own (api_Range.c v15.1), .fix [aI64 (-1), aI64 1, aI64 1, aI64 (-1)], .fix [aI64 1, aI64 2, aI64 (-1), aI64 (-1)], .fix [aI64 500, aI64 (-1)]] (ok0 (fiducialref02_Same_ok n v15.1.Low v33 v35 hc36)))))))))) <| .mu 7 <| .pure (v := aB true) (by kernel_rfl) (eB hb17) (by kernel_rfl) ?_
     refine .mu 3 <| .ca cf0 <| .ca (cfF cf0) <| .mu 4 <| .ca (cfH 8 2 1 (cfF cf0)) <| .ca (cfF (cfH 9 2 4 (cfF cf0))) <| .mu 4 <| .ca (cfH 8 2 1 (cfF (cfH 9 2 1 (cfF cf0)))) <| .ca (cfF (cfH 9 2 4 (cfF (cfH 10 2 4 (cfF cf0))))) <| .mu 4 <| .ca (cfF (cfF (cfF (cfF (cfF (cfF cf0)))))) <| .ca (cfF (cfF (cfF (cfF (cfF (cfF (cfF cf0))))))) <| .mu 2 ?_
     refine .done ⟨by kernel_rfl, ?_⟩
     refine .ret ?_
     obtain rfl := oi hr
     exact FinQ.r1 [aB v35]
    ·subst hb32
     replace hr := cd_f rfl hr
     refine .tn fine (ca2 [.fix [aI64 0, aI64 1, aI64 1, aI64 2], .fix [aI64 1, aI64 1, aI64 (-1), aI64 (-1)], .own (api_Field.c v5.1), .fix [aI64 0, aI64 1, aI64 1, aI64 2], .own (api_Field.c v9.1), .fix [aI64 2, aI64 0], .own (api_Field.c v13.1), .own (api_Range.c v15.1), .own [aI64 (-1), aI64 1, aI64 1, aI64 (-1)]] (callOk_ref (args := [.hs 8 0 4 1]) (l := [8]) (SnL.cons (Sn.hs rfl (.inl rfl) (SnC.cons (Sn.pure rfl) (SnC.cons (Sn.pure rfl) (SnC.cons (Sn.pure rfl) (SnC.cons (Sn.pure rfl) SnC.nil)))) (fun h => nomatch h)) SnL.nil) (fiduciallaw46_line_ok n [((-1) : Int), (1 : Int), (1 : Int), ((-1) : Int)] v18 hc19)) (ca2 [.fix [aI64 0, aI64 1, aI64 1, aI64 2], .fix [aI64 1, aI64 1, aI64 (-1), aI64 (-1)], .own (api_Field.c v5.1), .fix [aI64 0, aI64 1, aI64 1, aI64 2], .own (api_Field.c v9.1), .fix [aI64 2, aI64 0], .own (api_Field.c v13.1), .own (api_Range.c v15.1), .fix [aI64 (-1), aI64 1, aI64 1, aI64 (-1)]] (ok0 (fiduciallaw46_Same_ok n v5.1 v18 true hc21)) (ca2 [.fix [aI64 0, aI64 1, aI64 1, aI64 2], .fix [aI64 1, aI64 1, aI64 (-1), aI64 (-1)], .own (api_Field.c v5.1), .fix [aI64 0, aI64 1, aI64 1, aI64 2], .own (api_Field.c v9.1), .fix [aI64 2, aI64 0], .own (api_Field.c v13.1), .own (api_Range.c v15.1), .fix [aI64 (-1), aI64 1, aI64 1, aI64 (-1)], .own [aI64 1, aI64 2, aI64 (-1), aI64 (-1)]] (callOk_ref (args := [.hs 9 0 4 1]) (l := [9]) (SnL.cons (Sn.hs rfl (.inl rfl) (SnC.cons (Sn.pure rfl) (SnC.cons (Sn.pure rfl) (SnC.cons (Sn.pure rfl) (SnC.cons (Sn.pure rfl) SnC.nil)))) (fun h => nomatch h)) SnL.nil) (fiduciallaw46_line_ok n [(1 : Int), (2 : Int), ((-1) : Int), ((-1) : Int)] v23 hc24)) (ca2 [.fix [aI64 0, aI64 1, aI64 1, aI64 2], .fix [aI64 1, aI64 1, aI64 (-1), aI64 (-1)], .own (api_Field.c v5.1), .fix [aI64 0, aI64 1, aI64 1, aI64 2], .own (api_Field.c v9.1), .fix [aI64 2, aI64 0], .own (api_Field.c v13.1), .own (api_Range.c v15.1), .fix [aI64 (-1), aI64 1, aI64 1, aI64 (-1)], .fix [aI64 1, aI64 2, aI64 (-1), aI64 (-1)]] (ok0 (fiduciallaw46_Same_ok n v9.1 v23 true hc26)) (ca2 [.fix [aI64 0, aI64 1, aI64 1, aI64 2], .fix [aI64 1, aI64 1, aI64 (-1), aI64 (-1)], .own (api_Field.c v5.1), .fix [aI64 0, aI64 1, aI64 1, aI64 2], .own (api_Field.c v9.1), .fix [aI64 2, aI64 0], .own (api_Field.c v13.1), .own (api_Range.c v15.1), .fix [aI64 (-1), aI64 1, aI64 1, aI64 (-1)], .fix [aI64 1, aI64 2, aI64 (-1), aI64 (-1)], .own [aI64 500, aI64 (-1)]] (callOk_ref (args := [.hs 10 0 2 1]) (l := [10]) (SnL.cons (Sn.hs rfl (.inl rfl) (SnC.cons (Sn.pure rfl) (SnC.cons (Sn.pure rfl) SnC.nil)) (fun h => nomatch h)) SnL.nil) (fiduciallaw46_line_ok n [(500 : Int), ((-1) : Int)] v28 hc29)) (ca4 [.fix [aI64 0, aI64 1, aI64 1, aI64 2], .fix [aI64 1, aI64 1, aI64 (-1), aI64 (-1)], .own (api_Field.c v5.1), .fix [aI64 0, aI64 1, aI64 1, aI64 2], .own (api_Field.c v9.1), .fix [aI64 2, aI64 0], .own (api_Field.c v13.1), .own (api_Range.c v15.1), .fix [aI64 (-1), aI64 1, aI64 1, aI64 (-1)], .fix [aI64 1, aI64 2, aI64 (-1), aI64 (-1)], .fix [aI64 500, aI64 (-1)]] (ok0 (fiduciallaw46_Same_ok n v13.1 v28 false hc31)))))))) <| .mu 7 <| .pure (v := aB true) (by kernel_rfl) (eB hb17) (by kernel_rfl) <| .mu 3 <| .ca cf0 <| .ca (cfF cf0) <| .mu 4 <| .ca (cfH 8 2 1 (cfF cf0)) <| .ca (cfF (cfH 9 2 4 (cfF cf0))) <| .mu 4 <| .ca (cfH 8 2 1 (cfF (cfH 9 2 1 (cfF cf0)))) <| .ca (cfF (cfH 9 2 4 (cfF (cfH 10 2 4 (cfF cf0))))) <| .mu 8 ?_
     refine .done ⟨by kernel_rfl, ?_⟩
     refine .ret ?_
     obtain rfl := oi hr
     exact FinQ.r1 [aB false]
   ·subst hb27
    replace hr := cd_f rfl hr
    refine .tn fine (ca2 [.fix [aI64 0, aI64 1, aI64 1, aI64 2], .fix [aI64 1, aI64 1, aI64 (-1), aI64 (-1)], .own (api_Field.c v5.1), .fix [aI64 0, aI64 1, aI64 1, aI64 2], .own (api_Field.c v9.1), .fix [aI64 2, aI64 0], .own (api_Field.c v13.1), .own (api_Range.c v15.1), .own [aI64 (-1), aI64 1, aI64 1, aI64 (-1)]] (callOk_ref (args := [.hs 8 0 4 1]) (l := [8]) (SnL.cons (Sn.hs rfl (.inl rfl) (SnC.cons (Sn.pure rfl) (SnC.cons (Sn.pure rfl) (SnC.cons (Sn.pure rfl) (SnC.cons (Sn.pure rfl) SnC.nil)))) (fun h => nomatch h)) SnL.nil) (fiduciallaw46_line_ok n [((-1) : Int), (1 : Int), (1 : Int), ((-1) : Int)] v18 hc19)) (ca2 [.fix [aI64 0, aI64 1, aI64 1, aI64 2], .fix [aI64 1, aI64 1, aI64 (-1), aI64 (-1)], .own (api_Field.c v5.1), .fix [aI64 0, aI64 1, aI64 1, aI64 2], .own (api_Field.c v9.1), .fix [aI64 2, aI64 0], .own (api_Field.c v13.1), .own (api_Range.c v15.1), .fix [aI64 (-1), aI64 1, aI64 1, aI64 (-1)]] (ok0 (fiduciallaw46_Same_ok n v5.1 v18 true hc21)) (ca2 [.fix [aI64 0, aI64 1, aI64 1, aI64 2], .fix [aI64 1, aI64 1, aI64 (-1), aI64 (-1)], .own (api_Field.c v5.1), .fix [aI64 0, aI64 1, aI64 1, aI64 2], .own (api_Field.c v9.1), .fix [aI64 2, aI64 0], .own (api_Field.c v13.1), .own (api_Range.c v15.1), .fix [aI64 (-1), aI64 1, aI64 1, aI64 (-1)], .own [aI64 1, aI64 2, aI64 (-1), aI64 (-1)]] (callOk_ref (args := [.hs 9 0 4 1]) (l := [9]) (SnL.cons (Sn.hs rfl (.inl rfl) (SnC.cons (Sn.pure rfl) (SnC.cons (Sn.pure rfl) (SnC.cons (Sn.pure rfl) (SnC.cons (Sn.pure rfl) SnC.nil)))) (fun h => nomatch h)) SnL.nil) (fiduciallaw46_line_ok n [(1 : Int), (2 : Int), ((-1) : Int), ((-1) : Int)] v23 hc24)) (ca4 [.fix [aI64 0, aI64 1, aI64 1, aI64 2], .fix [aI64 1, aI64 1, aI64 (-1), aI64 (-1)], .own (api_Field.c v5.1), .fix [aI64 0, aI64 1, aI64 1, aI64 2], .own (api_Field.c v9.1), .fix [aI64 2, aI64 0], .own (api_Field.c v13.1), .own (api_Range.c v15.1), .fix [aI64 (-1), aI64 1, aI64 1, aI64 (-1)], .fix [aI64 1, aI64 2, aI64 (-1), aI64 (-1)]] (ok0 (fiduciallaw46_Same_ok n v9.1 v23 false hc26)))))) <| .mu 7 <| .pure (v := aB true) (by kernel_rfl) (eB hb17) (by kernel_rfl) <| .mu 3 <| .ca cf0 <| .ca (cfF cf0) <| .mu 4 <| .ca (cfH 8 2 1 (cfF cf0)) <| .ca (cfF (cfH 9 2 4 (cfF cf0))) <| .mu 14 ?_
    refine .done ⟨by kernel_rfl, ?_⟩
    refine .ret ?_
    obtain rfl := oi hr
    exact FinQ.r1 [aB false]
  ·subst hb22
   replace hr := cd_f rfl hr
   refine .tn fine (ca2 [.fix [aI64 0, aI64 1, aI64 1, aI64 2], .fix [aI64 1, aI64 1, aI64 (-1), aI64 (-1)], .own (api_Field.c v5.1), .fix [aI64 0, aI64 1, aI64 1, aI64 2], .own (api_Field.c v9.1), .fix [aI64 2, aI64 0], .own (api_Field.c v13.1), .own (api_Range.c v15.1), .own [aI64 (-1), aI64 1, aI64 1, aI64 (-1)]] (callOk_ref (args := [.hs 8 0 4 1]) (l := [8]) (SnL.cons (Sn.hs rfl (.inl rfl) (SnC.cons (Sn.pure rfl) (SnC.cons (Sn.pure rfl) (SnC.cons (Sn.pure rfl) (SnC.cons (Sn.pure rfl) SnC.nil)))) (fun h => nomatch h)) SnL.nil) (fiduciallaw46_line_ok n [((-1) : Int), (1 : Int), (1 : Int), ((-1) : Int)] v18 hc19)) (ca4 [.fix [aI64 0, aI64 1, aI64 1, aI64 2], .fix [aI64 1, aI64 1, aI64 (-1), aI64 (-1)], .own (api_Field.c v5.1), .fix [aI64 0, aI64 1, aI64 1, aI64 2], .own (api_Field.c v9.1), .fix [aI64 2, aI64 0], .own (api_Field.c v13.1), .own (api_Range.c v15.1), .fix [aI64 (-1), aI64 1, aI64 1, aI64 (-1)]] (ok0 (fiduciallaw46_Same_ok n v5.1 v18 false hc21)))) <| .mu 7 <| .pure (v := aB true) (by kernel_rfl) (eB hb17) (by kernel_rfl) <| .mu 3 <| .ca cf0 <| .ca (cfF cf0) <| .mu 20 ?_
   refine .done ⟨by kernel_rfl, ?_⟩
   refine .ret ?_
   obtain rfl := oi hr
   exact FinQ.r1 [aB false]
 ·replace hr := cd_f hb17 hr
  refine .regionT fine callOf_nil <| .mu 7 <| .pure (v := aB false) (by kernel_rfl) (eB hb17) (by kernel_rfl) <| .mu 25 ?_
  refine .done ⟨by kernel_rfl, ?_⟩
  refine .ret ?_
  obtain rfl := oi hr
  exact FinQ.r1 [aB false]

theorem fiduciallaw46_Valid_1_ok (n : Nat) (v : Int) (r : Bool) (hr : fiduciallaw46_Valid_1 n v = some r) : FnOk Tryz.prog 58 [aI64 v] (aB r) := by
 unfold fiduciallaw46_Valid_1 at hr
 refine FnOk.bd fine Tryz.func58 [.tmp 2] ?_
 unfold Tryz.f58
 simp only [Option.getD_some]
 refine .seq <| .r4 fine [0] [] <| .seq ?_
 rcases Bool.eq_false_or_eq_true (decide (v < (-1))) with hb1 | hb1
 ·replace hr := cd_t hb1 hr
  refine .r0 fine <| .mu 1 <| .p0 (v := aB true) (eB hb1) <| .mu 5 <| .done <| .ret ?_
  obtain rfl := oi hr
  exact FinQ.r1 [aB true]
 ·replace hr := cd_f hb1 hr
  refine .r0 fine <| .mu 1 <| .p0 (v := aB false) (eB hb1) <| .mu 5 <| .done <| .ret ?_
  obtain rfl := oi hr
  exact FinQ.r1 [aB (decide (v > 1048576))]

theorem slices_IndexFunc_int_int_of_fiduciallaw46_Valid_1_ok (n : Nat) (s : List Int) (r : Int) (hr : slices_IndexFunc_int_int_of_fiduciallaw46_Valid_1 n s = some r) : FnOk Tryz.prog 103 [sI64 s, .fn 58 [] []] (aI64 r) := by
 unfold slices_IndexFunc_int_int_of_fiduciallaw46_Valid_1 at hr
 refine FnOk.bd fine Tryz.func103 [.tmp 4] ?_
 unfold Tryz.f103
 simp only [Option.getD_some]
 refine .seq <| .r4 fine [0, 1] [] <| .seq <| .seq <| .r4 fine [0, 1] [(7, aI64 (s.length : Int)), (8, aI64 0)] <| .block ?_
 replace hr := bd hr; obtain ⟨o13, hL14, hr⟩ := hr
 refine .loopO (σ := fun z0 => match z0 with | x_1 => ⟨mkS 19 0 [(0, sI64 s), (1, .fn 58 [] []), (7, aI64 (s.length : Int)), (8, aI64 x_1)], []⟩) (Q := fun x st' => match (generalizing := false) o13 with | .inl _ => x = .exit 0 ∧ Wk 0 st' ⟨mkS 19 0 [], []⟩ | .inr (r0) => x = .ret ∧ FinQ Tryz.prog [.tmp 4] (aI64 r0) .ret st') hL14 ((Wk.gc [0, 1, 7, 8] [] rfl pK0).to (by kernel_rfl)) ?_ ?_
 ·clear hr
  rintro m x_1 hr
  show CQ _ _ _ _ _ ⟨_, _⟩
  refine .seq <| .r4 fine [0, 1, 7, 8] [(9, aB (decide (x_1 < (s.length : Int))))] <| .seq ?_
  refine .cd hr (fun hb8 hr => ?_) (fun hb8 hr => ?_)
  ·refine .skip <| .seq <| .block <| .seq <| .r4 fine [0, 1, 7, 8] [(5, aI64 x_1)] <| .seq ?_
   obtain ⟨hg9, hr⟩ := gd hr
   obtain ⟨v10, hc11, hr⟩ := bd hr
   refine .g1 fine (ok0 (fiduciallaw46_Valid_1_ok n (gt s x_1) v10 hc11)) <| .mu 3 <| .p0 (v := .pp (s.flatMap (iC .i64)) (x_1.toNat * 1)) (tr (ofP_guard hg9)) <| .p0 (v := aI64 (gt s x_1)) (tr (ofP_some (flat_get (iC_len .i64) (inR_lt hg9) (by decide : 0 < 1) (by omega : x_1.toNat * 1 = x_1.toNat * 1 + 0) (by kernel_rfl)))) <| .ca cf0 <| .done <| .nh [0, 1, 5, 7, 8, 16] [] ?_
   refine .cd hr (fun hb12 hr => ?_) (fun hb12 hr => ?_)
   ·refine .seq <| .ru fine <| .ret ?_
    obtain rfl := oi hr
    exact ⟨rfl, FinQ.ret (vs := [aI64 x_1]) (by kernel_rfl) (Sn.pure rfl)⟩
   ·refine .skip <| .pop <| .ru fine ?_
    exact loopF_back (wrapF .i64 (x_1 + 1)) hr ((Wk.gc [0, 1, 7, 8] [] rfl pK0).to (by kernel_rfl))
  ·refine .leave rfl ?_
   obtain rfl := oi hr
   exact ⟨rfl, ((Wk.gc [] [] rfl pK0).to (by kernel_rfl))⟩
 ·rcases o13 with ⟨⟩ | r0
  ·rintro x st' hq15
   clear hL14
   obtain ⟨rfl, hq15⟩ := hq15
   refine CQ_exit _ rfl <| .wk hq15 <| .seq <| .ru fine <| .ret ?_
   obtain rfl := oi hr
   exact FinQ.r1 [aI64 (-1)]
  ·rintro x st' hq15
   clear hL14
   obtain ⟨rfl, hq15⟩ := hq15
   obtain rfl := oi hr
   exact CQ_ret _ hq15

theorem slices_ContainsFunc_int_int_of_fiduciallaw46_Valid_1_ok (n : Nat) (s : List Int) (r : Bool) (hr : slices_ContainsFunc_int_int_of_fiduciallaw46_Valid_1 n s = some r) : FnOk Tryz.prog 57 [sI64 s, .fn 58 [] []] (aB r) := by
 unfold slices_ContainsFunc_int_int_of_fiduciallaw46_Valid_1 at hr
 refine FnOk.bd fine Tryz.func57 [.tmp 4] ?_
 unfold Tryz.f57
 simp only [Option.getD_some]
 refine .seq <| .r4 fine [0, 1] [] <| .seq ?_
 obtain ⟨v1, hc2, hr⟩ := bd hr
 refine .g1 fine (ok0 (slices_IndexFunc_int_int_of_fiduciallaw46_Valid_1_ok n s v1 hc2)) <| .mu 2 <| .ca cf0 <| .mu 2 <| .done <| .ret ?_
 obtain rfl := oi hr
 exact FinQ.r1 [aB (decide (v1 ≥ 0))]

theorem fiduciallaw46_Valid_inj {f : api_Field} {f_ : api_Field} (h : ([.agg [.at (.int .i64 f.Width), .at (.int .i64 f.Height), slT (iC .i64) f.V]] : List AV) = [.agg [.at (.int .i64 f_.Width), .at (.int .i64 f_.Height), slT (iC .i64) f_.V]]) : f = f_ := by
 obtain ⟨_, _, _⟩ := f
 obtain ⟨_, _, _⟩ := f_
 simp only [List.cons.injEq, AV.agg.injEq, AV.at.injEq, Value.int.injEq, Value.bool.injEq, AV.fn.injEq, AV.pp.injEq, true_and, and_true, slT_inj_int] at h
 simp_all
theorem fiduciallaw46_Valid_cg (n : Nat) {f : api_Field} {f_ : api_Field} (h : ([.agg [.at (.int .i64 f.Width), .at (.int .i64 f.Height), slT (iC .i64) f.V]] : List AV) = [.agg [.at (.int .i64 f_.Width), .at (.int .i64 f_.Height), slT (iC .i64) f_.V]]) : fiduciallaw46_Valid n f = fiduciallaw46_Valid n f_ := by
 obtain rfl := fiduciallaw46_Valid_inj h
 rfl
theorem fiduciallaw46_Valid_ok (n : Nat) (f : api_Field) (r : Bool) (hr : fiduciallaw46_Valid n f = some r) : FnOk Tryz.prog 16 [.agg (api_Field.c f)] (aB r) := by
 unfold fiduciallaw46_Valid at hr
 refine FnOk.bd fine Tryz.func16 [.tmp 2] ?_
 unfold Tryz.f16
 simp only [Option.getD_some]
 refine .seq <| .r2 fine 34 [(1, .hp 0 0)] [.own (api_Field.c f)] <| .seq ?_
 rcases Bool.eq_false_or_eq_true (decide ((mn f.Width f.Height) ≥ 1)) with hb1 | hb1
 ·replace hr := cd_t hb1 hr
  rcases Bool.eq_false_or_eq_true (decide ((mx f.Width f.Height) ≤ 64)) with hb2 | hb2
  ·replace hr := cd_t hb2 hr
   rcases Bool.eq_false_or_eq_true (((f.V.length : Int) : Int) == (wrapF .i64 (f.Width * f.Height))) with hb3 | hb3
   ·replace hr := cd_t hb3 hr
    obtain ⟨v4, hc5, hr⟩ := bd hr
    refine .g1 fine (ok0 (slices_ContainsFunc_int_int_of_fiduciallaw46_Valid_1_ok n f.V v4 hc5)) <| .mu 5 <| .p0 (v := aB true) (eB hb1) <| .mu 6 <| .pure (v := aB true) (by kernel_rfl) (eB hb2) <| .mu 10 <| .pure (v := aB true) (by kernel_rfl) (eB hb3) <| .mu 4 <| .ca cf0 <| .mu 3 <| .done <| .ret ?_
    obtain rfl := oi hr
    exact FinQ.r1 [aB (!v4)]
   ·replace hr := cd_f hb3 hr
    refine .r0 fine <| .mu 5 <| .p0 (v := aB true) (eB hb1) <| .mu 6 <| .pure (v := aB true) (by kernel_rfl) (eB hb2) <| .mu 10 <| .pure (v := aB false) (by kernel_rfl) (eB hb3) <| .mu 8 <| .done <| .ret ?_
    obtain rfl := oi hr
    exact FinQ.r1 [aB false]
  ·replace hr := cd_f hb2 hr
   refine .r0 fine <| .mu 5 <| .p0 (v := aB true) (eB hb1) <| .mu 6 <| .pure (v := aB false) (by kernel_rfl) (eB hb2) <| .mu 19 <| .done <| .ret ?_
   obtain rfl := oi hr
   exact FinQ.r1 [aB false]
 ·replace hr := cd_f hb1 hr
  refine .r0 fine <| .mu 5 <| .p0 (v := aB false) (eB hb1) <| .mu 26 <| .done <| .ret ?_
  obtain rfl := oi hr
  exact FinQ.r1 [aB false]

theorem fiduciallaw46_few_inj {f : api_Field} {f_ : api_Field} (h : ([.agg [.at (.int .i64 f.Width), .at (.int .i64 f.Height), slT (iC .i64) f.V]] : List AV) = [.agg [.at (.int .i64 f_.Width), .at (.int .i64 f_.Height), slT (iC .i64) f_.V]]) : f = f_ := by
 obtain ⟨_, _, _⟩ := f
 obtain ⟨_, _, _⟩ := f_
 simp only [List.cons.injEq, AV.agg.injEq, AV.at.injEq, Value.int.injEq, Value.bool.injEq, AV.fn.injEq, AV.pp.injEq, true_and, and_true, slT_inj_int] at h
 simp_all
theorem fiduciallaw46_few_cg (n : Nat) {f : api_Field} {f_ : api_Field} (h : ([.agg [.at (.int .i64 f.Width), .at (.int .i64 f.Height), slT (iC .i64) f.V]] : List AV) = [.agg [.at (.int .i64 f_.Width), .at (.int .i64 f_.Height), slT (iC .i64) f_.V]]) : fiduciallaw46_few n f = fiduciallaw46_few n f_ := by
 obtain rfl := fiduciallaw46_few_inj h
 rfl
theorem fiduciallaw46_few_ok (n : Nat) (f : api_Field) (r : Bool) (hr : fiduciallaw46_few n f = some r) : FnOk Tryz.prog 14 [.agg (api_Field.c f)] (aB r) := by
 unfold fiduciallaw46_few at hr
 refine FnOk.bd fine Tryz.func14 [.tmp 2] ?_
 unfold Tryz.f14
 simp only [Option.getD_some]
 refine .seq <| .r2 fine 22 [(1, .hp 0 0)] [.own (api_Field.c f)] <| .seq ?_
 rcases Bool.eq_false_or_eq_true (decide ((f.V.length : Int) ≤ 80)) with hb1 | hb1
 ·replace hr := cd_t hb1 hr
  obtain ⟨v2, hc3, hr⟩ := bd hr
  rcases Bool.eq_false_or_eq_true (!v2) with hb4 | hb4
  ·replace hr := cd_t hb4 hr
   refine .g1 fine (ok0 (fiduciallaw46_Valid_ok n f v2 hc3)) <| .mu 3 <| .p0 (v := aB true) (eB hb1) <| .mu 2 <| .ca cf0 <| .pure (v := aB true) (by kernel_rfl) (eB hb4) <| .mu 12 <| .done <| .ret ?_
   obtain rfl := oi hr
   exact FinQ.r1 [aB true]
  ·replace hr := cd_f hb4 hr
   rcases Bool.eq_false_or_eq_true (decide (f.Width ≤ 8)) with hb5 | hb5
   ·replace hr := cd_t hb5 hr
    refine .g1 fine (ok0 (fiduciallaw46_Valid_ok n f v2 hc3)) <| .mu 3 <| .p0 (v := aB true) (eB hb1) <| .mu 2 <| .ca cf0 <| .pure (v := aB false) (by kernel_rfl) (eB hb4) <| .mu 3 <| .pure (v := aB true) (by kernel_rfl) (eB hb5) <| .mu 8 <| .done <| .ret ?_
    obtain rfl := oi hr
    exact FinQ.r1 [aB (decide (f.Height ≤ 8))]
   ·replace hr := cd_f hb5 hr
    refine .g1 fine (ok0 (fiduciallaw46_Valid_ok n f v2 hc3)) <| .mu 3 <| .p0 (v := aB true) (eB hb1) <| .mu 2 <| .ca cf0 <| .pure (v := aB false) (by kernel_rfl) (eB hb4) <| .mu 3 <| .pure (v := aB false) (by kernel_rfl) (eB hb5) <| .mu 8 <| .done <| .ret ?_
    obtain rfl := oi hr
    exact FinQ.r1 [aB false]
 ·replace hr := cd_f hb1 hr
  refine .r0 fine <| .mu 3 <| .p0 (v := aB false) (eB hb1) <| .mu 16 <| .done <| .ret ?_
  obtain rfl := oi hr
  exact FinQ.r1 [aB false]

theorem fiduciallaw46_two_ok (n : Nat) (a : api_Field) (b : api_Field) (r : Int) (hr : fiduciallaw46_two n a b = some r) : FnOk Tryz.prog 25 [.agg (api_Field.c a), .agg (api_Field.c b)] (aI64 r) := by
 unfold fiduciallaw46_two at hr
 refine FnOk.bd fine Tryz.func25 [.tmp 4] ?_
 unfold Tryz.f25
 simp only [Option.getD_some]
 refine .seq <| .r2 fine 25 [(2, .hp 0 0), (3, .hp 1 0)] [.own (api_Field.c a), .own (api_Field.c b)] <| .seq <| .seq ?_
 obtain ⟨v1, hc2, hr⟩ := bd hr
 rcases Bool.eq_false_or_eq_true (!v1) with hb3 | hb3
 ·replace hr := cd_t hb3 hr
  refine .g1 fine (ok0 (fiduciallaw46_Valid_ok n a v1 hc2)) <| .mu 1 <| .ca cf0 <| .p0 (v := aB true) (eB hb3) <| .mu 5 <| .done <| .nh [2, 3, 12] [.own (api_Field.c a), .own (api_Field.c b)] <| .cT (by kernel_rfl) <| .seq <| .ru fine <| .ret ?_
  obtain rfl := oi hr
  exact FinQ.r1 [aI64 1]
 ·replace hr := cd_f hb3 hr
  obtain ⟨v4, hc5, hr⟩ := bd hr
  refine .gn fine (ca1 (ok0 (fiduciallaw46_Valid_ok n a v1 hc2)) (ca3 (ok0 (fiduciallaw46_Valid_ok n b v4 hc5)))) <| .mu 1 <| .ca cf0 <| .p0 (v := aB false) (eB hb3) <| .mu 2 <| .ca (cfA (fun h => by rw [sv hc5 hc2 (fiduciallaw46_Valid_cg n h)]) cf0) <| .mu 2 <| .done <| .nh [2, 3, 12] [.own (api_Field.c a), .own (api_Field.c b)] ?_
  refine .cd hr (fun hb7 hr => ?_) (fun hb7 hr => ?_)
  ·refine .seq <| .ru fine <| .ret ?_
   obtain rfl := oi hr
   exact FinQ.r1 [aI64 1]
  ·refine .skip <| .seq <| .seq ?_
   rcases Bool.eq_false_or_eq_true ((a.Width : Int) != b.Width) with hb8 | hb8
   ·replace hr := cd_t hb8 hr
    refine .r0 fine <| .mu 4 <| .p0 (v := aB true) (eB hb8) <| .mu 7 <| .done <| .nh [24] [.own (api_Field.c a), .own (api_Field.c b)] <| .cT (by kernel_rfl) <| .seq <| .ru fine <| .ret ?_
    obtain rfl := oi hr
    exact FinQ.r1 [aI64 4]
   ·replace hr := cd_f hb8 hr
    refine .r0 fine <| .mu 4 <| .p0 (v := aB false) (eB hb8) <| .mu 7 <| .done <| .nh [24] [.own (api_Field.c a), .own (api_Field.c b)] ?_
    refine .cd hr (fun hb9 hr => ?_) (fun hb9 hr => ?_)
    ·refine .seq <| .ru fine <| .ret ?_
     obtain rfl := oi hr
     exact FinQ.r1 [aI64 4]
    ·refine .skip <| .seq <| .ru fine <| .ret ?_
     obtain rfl := oi hr
     exact FinQ.r1 [aI64 0]

theorem fiduciallaw46_At_ok (n : Nat) (f : api_Field) (x' : Int) (y : Int) (r : Int) (hr : fiduciallaw46_At n f x' y = some r) : FnOk Tryz.prog 63 [.agg (api_Field.c f), aI64 x', aI64 y] (aI64 r) := by
 unfold fiduciallaw46_At at hr
 refine FnOk.bd fine Tryz.func63 [.tmp 6] ?_
 unfold Tryz.f63
 simp only [Option.getD_some]
 refine .seq <| .r5 fine [1, 2] [(3, .hp 0 0)] [.own (api_Field.c f)] <| .seq ?_
 obtain ⟨hg1, hr⟩ := gd hr
 refine .r0 fine <| .mu 8 <| .p0 (v := .pp (f.V.flatMap (iC .i64)) ((wrapF .i64 ((wrapF .i64 (y * f.Width)) + x')).toNat * 1)) (tr (ofP_guard hg1)) <| .p0 (v := aI64 (gt f.V (wrapF .i64 ((wrapF .i64 (y * f.Width)) + x')))) (tr (ofP_some (flat_get (iC_len .i64) (inR_lt hg1) (by decide : 0 < 1) (by omega : (wrapF .i64 ((wrapF .i64 (y * f.Width)) + x')).toNat * 1 = (wrapF .i64 ((wrapF .i64 (y * f.Width)) + x')).toNat * 1 + 0) (by kernel_rfl)))) <| .mu 1 <| .done <| .ret ?_
 obtain rfl := oi hr
 exact FinQ.r1 [aI64 (gt f.V (wrapF .i64 ((wrapF .i64 (y * f.Width)) + x')))]

theorem fiduciallaw46_Flipped_1_ok (n : Nat) (x' : Int) (y : Int) (p : Int) (p' : Int) (p'' : List Int) (r : Int) (hr : fiduciallaw46_Flipped_1 n x' y p p' p'' = some r) : FnOk Tryz.prog 82 [aI64 x', aI64 y, .pp [aI64 p, aI64 p', sI64 p''] 0] (aI64 r) := by
 unfold fiduciallaw46_Flipped_1 at hr
 refine FnOk.bd fine Tryz.func82 [.tmp 5] ?_
 unfold Tryz.f82
 simp only [Option.getD_some]
 refine .seq <| .r4 fine [0, 1, 2] [] <| .seq ?_
 obtain ⟨v1, hc2, hr⟩ := bd hr
 refine .g1 fine (ok0 (fiduciallaw46_At_ok n (api_Field.mk p p' p'') x' (wrapF .i64 ((wrapF .i64 (p' - 1)) - y)) v1 hc2)) <| .mu 7 <| .ca cf0 <| .mu 1 <| .done <| .ret ?_
 obtain rfl := oi hr
 exact FinQ.r1 [aI64 v1]

theorem fiduciallaw46_Made_of_fiduciallaw46_Flipped_1_ok (n : Nat) (f : api_Field) (c : Int) (c' : Int) (c'' : List Int) (r : api_Field) (hr : fiduciallaw46_Made_of_fiduciallaw46_Flipped_1 n f c c' c'' = some r) : FnOk Tryz.prog 61 [.agg (api_Field.c f), .fn 82 [] [.pp [aI64 c, aI64 c', sI64 c''] 0]] (.agg (api_Field.c r)) := by
 unfold fiduciallaw46_Made_of_fiduciallaw46_Flipped_1 at hr
 refine FnOk.bd fine Tryz.func61 [.cell 4 39] ?_
 unfold Tryz.f61
 simp only [Option.getD_some]
 refine .seq <| .r5 fine [1] [(2, .hp 0 0), (4, .hp 1 0)] [.own (api_Field.c f), .own [aI64 0, aI64 0, nS]] <| .seq <| .r5 fine [1, 2, 4] [(5, .hp 2 0)] [.own (api_Field.c f), .own [aI64 0, aI64 0, nS], .own [aI64 f.Width, aI64 f.Height, nS]] <| .seq <| .seq <| .r4 fine [1, 2, 4, 5] [(14, aI64 f.Height), (15, aI64 0)] <| .block ?_
 replace hr := bd hr; obtain ⟨out_24, hL48, hr⟩ := hr
 refine .loopO (σ := fun z0 => match z0 with | (out_1, x_2) => ⟨mkS 35 0 [(1, .fn 82 [] [.pp [aI64 c, aI64 c', sI64 c''] 0]), (2, .hp 0 0), (4, .hp 1 0), (5, .hp 2 0), (14, aI64 f.Height), (15, aI64 x_2)], [.own (api_Field.c f), .own [aI64 0, aI64 0, nS], .own [aI64 f.Width, aI64 f.Height, .hs 3 0 out_1.length 1], .own (out_1.flatMap (iC .i64))]⟩) (Q := fun x st' => x = .exit 0 ∧ Wk 0 st' ⟨mkS 35 0 [(4, .hp 0 0), (5, .hp 1 0)], [.own [aI64 0, aI64 0, nS], .own [aI64 f.Width, aI64 f.Height, .hs 2 0 out_24.length 1], .own (out_24.flatMap (iC .i64))]⟩) hL48 ((Wk.nilcell 2 2 1 (cs := [aI64 f.Width, aI64 f.Height, nS]) (by kernel_rfl) (by kernel_rfl)).trans ((Wk.gc [1, 2, 4, 5, 14, 15] [(0, true), (1, true), (2, true), (3, false)] rfl (pKt (pKt (pKt (pKc trivial))))).to (by kernel_rfl))) ?_ ?_
 ·clear hr
  rintro m ⟨out_1, x_2⟩ hr
  show CQ _ _ _ _ _ ⟨_, _⟩
  refine .seq <| .r4 fine [1, 2, 4, 5, 14, 15] [(16, aB (decide (x_2 < f.Height)))] <| .seq ?_
  refine .cd hr (fun hb27 hr => ?_) (fun hb27 hr => ?_)
  ·refine .skip <| .seq <| .block <| .seq <| .r4 fine [1, 2, 4, 5, 14, 15] [(6, aI64 x_2)] <| .seq <| .r4 fine [1, 2, 4, 5, 6, 14, 15] [(19, aI64 f.Width), (20, aI64 0)] <| .block ?_
   replace hr := bd hr; obtain ⟨out_36, hL45, hr⟩ := hr
   refine .loopO (σ := fun z0 => match z0 with | (out_28, x_29) => ⟨mkS 35 0 [(1, .fn 82 [] [.pp [aI64 c, aI64 c', sI64 c''] 0]), (2, .hp 0 0), (4, .hp 1 0), (5, .hp 2 0), (6, aI64 x_2), (14, aI64 f.Height), (15, aI64 x_2), (19, aI64 f.Width), (20, aI64 x_29)], [.own (api_Field.c f), .own [aI64 0, aI64 0, nS], .own [aI64 f.Width, aI64 f.Height, .hs 3 0 out_28.length 1], .own (out_28.flatMap (iC .i64))]⟩) (Q := fun x st' => x = .exit 2 ∧ Wk 0 st' ⟨mkS 35 0 [(1, .fn 82 [] [.pp [aI64 c, aI64 c', sI64 c''] 0]), (2, .hp 0 0), (4, .hp 1 0), (5, .hp 2 0), (14, aI64 f.Height), (15, aI64 x_2)], [.own (api_Field.c f), .own [aI64 0, aI64 0, nS], .own [aI64 f.Width, aI64 f.Height, .hs 3 0 out_36.length 1], .own (out_36.flatMap (iC .i64))]⟩) hL45 ((Wk.gc [1, 2, 4, 5, 6, 14, 15, 19, 20] [(0, true), (1, true), (2, true), (3, false)] rfl (pKt (pKt (pKt (pKo (iC .i64) (iC_pure _) out_1 trivial))))).to (by kernel_rfl)) ?_ ?_
   ·clear hr
    rintro m ⟨out_28, x_29⟩ hr
    show CQ _ _ _ _ _ ⟨_, _⟩
    refine .seq <| .r4 fine [1, 2, 4, 5, 6, 14, 15, 19, 20] [(21, aB (decide (x_29 < f.Width)))] <| .seq ?_
    refine .cd hr (fun hb39 hr => ?_) (fun hb39 hr => ?_)
    ·refine .skip <| .seq <| .block <| .seq <| .r4 fine [1, 2, 4, 5, 6, 14, 15, 19, 20] [(7, aI64 x_29)] ?_
     obtain ⟨v40, hc41, hr⟩ := bd hr
     obtain ⟨hg42, hg43, hr⟩ := gd2 hr
     refine .t1 fine (ok0 (fiduciallaw46_Flipped_1_ok n x_29 x_2 c c' c'' v40 hc41)) <| .mu 5 <| .ca cf0 <| .mu 1 <| .eff (v := .hs 5 0 (out_28 ++ [v40]).length 1) (ws := [(3, .dead), (5, .own ((out_28 ++ [v40]).flatMap (iC .i64)))]) (by kernel_rfl) (tr (app_own (new := [aI64 v40]) (l := out_28) (xs := [v40]) (iC_len .i64) rfl rfl (by kernel_rfl) hg42 hg43)) (by kernel_rfl) <| .mu 2 ?_
     refine .done ⟨by kernel_rfl, ?_⟩
     refine .pop <| .ru fine ?_
     exact loopF_back (out_28 ++ [v40], wrapF .i64 (x_29 + 1)) hr ((Wk.gc [1, 2, 4, 5, 6, 14, 15, 19, 20] [(0, true), (1, true), (2, true), (5, false)] rfl (pKt (pKt (pKt (pKo (iC .i64) (iC_pure _) (out_28 ++ [v40]) trivial))))).to (by kernel_rfl))
    ·refine .leave rfl ?_
     obtain rfl := oi hr
     exact ⟨rfl, ((Wk.gc [1, 2, 4, 5, 14, 15] [(0, true), (1, true), (2, true), (3, false)] rfl (pKt (pKt (pKt (pKo (iC .i64) (iC_pure _) out_28 trivial))))).to (by kernel_rfl))⟩
   ·rintro x st' hq46
    clear hL45
    obtain ⟨rfl, hq46⟩ := hq46
    refine CQ_exit _ rfl <| .pop <| .wk hq46 <| .ru fine ?_
    exact loopF_back (out_36, wrapF .i64 (x_2 + 1)) hr ((Wk.gc [1, 2, 4, 5, 14, 15] [(0, true), (1, true), (2, true), (3, false)] rfl (pKt (pKt (pKt (pKo (iC .i64) (iC_pure _) out_36 trivial))))).to (by kernel_rfl))
  ·refine .leave rfl ?_
   obtain rfl := oi hr
   exact ⟨rfl, ((Wk.gc [4, 5] [(1, true), (2, true), (3, false)] rfl (pKt (pKt (pKo (iC .i64) (iC_pure _) out_1 trivial)))).to (by kernel_rfl))⟩
 ·rintro x st' hq49
  clear hL48
  obtain ⟨rfl, hq49⟩ := hq49
  refine CQ_exit _ rfl <| .wk hq49 <| .seq <| .r5 fine [4] [] [.own [aI64 f.Width, aI64 f.Height, .hs 2 0 out_24.length 1], .own [aI64 f.Width, aI64 f.Height, .hs 2 0 out_24.length 1], .own (out_24.flatMap (iC .i64))] <| .ret ?_
  obtain rfl := oi hr
  exact FinQ.ret (vs := [.agg [aI64 f.Width, aI64 f.Height, .hs 2 0 out_24.length 1]]) (by kernel_rfl) (Sn.agg (SnL.cons (Sn.pure rfl) (SnL.cons (Sn.pure rfl) (SnL.cons (Sn.hs rfl (.inl rfl) (SnC.pure (ids_flat (iC_pure _) _)) (fun h => flat_nil0 h)) SnL.nil))))

theorem fiduciallaw46_Flipped_inj {f : api_Field} {f_ : api_Field} (h : ([.agg [.at (.int .i64 f.Width), .at (.int .i64 f.Height), slT (iC .i64) f.V]] : List AV) = [.agg [.at (.int .i64 f_.Width), .at (.int .i64 f_.Height), slT (iC .i64) f_.V]]) : f = f_ := by
 obtain ⟨_, _, _⟩ := f
 obtain ⟨_, _, _⟩ := f_
 simp only [List.cons.injEq, AV.agg.injEq, AV.at.injEq, Value.int.injEq, Value.bool.injEq, AV.fn.injEq, AV.pp.injEq, true_and, and_true, slT_inj_int] at h
 simp_all
theorem fiduciallaw46_Flipped_cg (n : Nat) {f : api_Field} {f_ : api_Field} (h : ([.agg [.at (.int .i64 f.Width), .at (.int .i64 f.Height), slT (iC .i64) f.V]] : List AV) = [.agg [.at (.int .i64 f_.Width), .at (.int .i64 f_.Height), slT (iC .i64) f_.V]]) : fiduciallaw46_Flipped n f = fiduciallaw46_Flipped n f_ := by
 obtain rfl := fiduciallaw46_Flipped_inj h
 rfl
theorem fiduciallaw46_Flipped_ok (n : Nat) (f : api_Field) (r : api_Field) (hr : fiduciallaw46_Flipped n f = some r) : FnOk Tryz.prog 26 [.agg (api_Field.c f)] (.agg (api_Field.c r)) := by
 unfold fiduciallaw46_Flipped at hr
 refine FnOk.bd fine Tryz.func26 [.cell 2 39] ?_
 unfold Tryz.f26
 simp only [Option.getD_some]
 refine .seq <| .r2 fine 6 [(1, .hp 0 0), (2, .hp 1 0)] [.own (api_Field.c f), .own [aI64 0, aI64 0, nS]] <| .seq ?_
 obtain ⟨v1, hc2, hr⟩ := bd hr
 refine .g1 fine (callOk_ref (args := [.agg (api_Field.c f), .fn 82 [] [.hp 0 0]]) (l := [0]) (SnL.cons (Sn.pure rfl) (SnL.cons (Sn.fn SnL.nil (SnL.cons (Sn.hp rfl (.inl rfl) (SnC.cons (Sn.pure rfl) (SnC.cons (Sn.pure rfl) (SnC.cons (Sn.pure rfl) SnC.nil)))) SnL.nil)) SnL.nil)) (fiduciallaw46_Made_of_fiduciallaw46_Flipped_1_ok n f f.Width f.Height f.V v1 hc2)) <| .mu 2 <| .ca cf0 <| .mu 1 <| .done <| .nh [2] [.fix (api_Field.c f), .own (api_Field.c v1)] <| .ret ?_
 obtain rfl := oi hr
 exact FinQ.r1 [.agg (api_Field.c v1)]

theorem fiduciallaw46_DepthFlips_1_ok (n : Nat) (a : api_Field) (b : api_Field) (p : Int) (p' : Int) (r : api_Field × Int) (hr : fiduciallaw46_DepthFlips_1 n a b p p' = some r) : FnOk Tryz.prog 27 [.agg (api_Field.c a), .agg (api_Field.c b), .pp [aU8 p, aU8 p'] 0] (.tup [.agg (api_Field.c r.1), aI64 r.2]) := by
 unfold fiduciallaw46_DepthFlips_1 at hr
 refine FnOk.bd fine Tryz.func27 [.cell 5 39, .tmp 6] ?_
 unfold Tryz.f27
 simp only [Option.getD_some]
 refine .seq <| .r5 fine [2] [(3, .hp 0 0), (4, .hp 1 0), (5, .hp 2 0)] [.own (api_Field.c a), .own (api_Field.c b), .own [aI64 0, aI64 0, nS]] <| .seq ?_
 obtain ⟨v1, hc2, hr⟩ := bd hr
 refine .g1 fine (ok0 (depth_Consistent_ok n a b (wrapF .i64 p) v1 hc2)) <| .mu 5 <| .ca cf0 <| .mu 4 <| .done <| .nh [5, 6] [.own (api_Field.c a), .own (api_Field.c b), .own (api_Field.c v1.1)] <| .ret ?_
 obtain rfl := oi hr
 exact FinQ.ret (vs := [.agg (api_Field.c v1.1), aI64 v1.2]) (by kernel_rfl) (Sn.tup (SnL.cons (Sn.pure rfl) (SnL.cons (Sn.pure rfl) SnL.nil)))

theorem fiduciallaw46_DepthFlips_2_ok (n : Nat) (a : api_Field) (b : api_Field) (r : api_Field × Int) (hr : fiduciallaw46_DepthFlips_2 n a b = some r) : FnOk Tryz.prog 29 [.agg (api_Field.c a), .agg (api_Field.c b)] (.tup [.agg (api_Field.c r.1), aI64 r.2]) := by
 unfold fiduciallaw46_DepthFlips_2 at hr
 refine FnOk.bd fine Tryz.func29 [.cell 4 39, .tmp 5] ?_
 unfold Tryz.f29
 simp only [Option.getD_some]
 refine .seq <| .r2 fine 10 [(2, .hp 0 0), (4, .hp 2 0)] [.own (api_Field.c a), .own (api_Field.c b), .own [aI64 0, aI64 0, nS]] <| .seq ?_
 obtain ⟨v1, hc2, hr⟩ := bd hr
 refine .g1 fine (ok0 (depth_Turn_ok n a v1 hc2)) <| .mu 1 <| .ca cf0 <| .mu 4 <| .done <| .nh [4, 5] [.own (api_Field.c a), .own (api_Field.c b), .own (api_Field.c v1.1)] <| .ret ?_
 obtain rfl := oi hr
 exact FinQ.ret (vs := [.agg (api_Field.c v1.1), aI64 v1.2]) (by kernel_rfl) (Sn.tup (SnL.cons (Sn.pure rfl) (SnL.cons (Sn.pure rfl) SnL.nil)))

theorem fiduciallaw46_DepthFlips_3_ok (n : Nat) (a : api_Field) (b : api_Field) (p : Int) (p' : Int) (r : api_Field × Int) (hr : fiduciallaw46_DepthFlips_3 n a b p p' = some r) : FnOk Tryz.prog 31 [.agg (api_Field.c a), .agg (api_Field.c b), .pp [aU8 p, aU8 p'] 0] (.tup [.agg (api_Field.c r.1), aI64 r.2]) := by
 unfold fiduciallaw46_DepthFlips_3 at hr
 refine FnOk.bd fine Tryz.func31 [.cell 5 39, .tmp 6] ?_
 unfold Tryz.f31
 simp only [Option.getD_some]
 refine .seq <| .r5 fine [2] [(3, .hp 0 0), (5, .hp 2 0)] [.own (api_Field.c a), .own (api_Field.c b), .own [aI64 0, aI64 0, nS]] <| .seq ?_
 obtain ⟨v1, hc2, hr⟩ := bd hr
 refine .g1 fine (ok0 (depth_Depths_ok n a 1000 (wrapF .i64 (1 + (wrapF .i64 p'))) v1 hc2)) <| .mu 5 <| .ca cf0 <| .mu 4 <| .done <| .nh [5, 6] [.own (api_Field.c a), .own (api_Field.c b), .own (api_Field.c v1.1)] <| .ret ?_
 obtain rfl := oi hr
 exact FinQ.ret (vs := [.agg (api_Field.c v1.1), aI64 v1.2]) (by kernel_rfl) (Sn.tup (SnL.cons (Sn.pure rfl) (SnL.cons (Sn.pure rfl) SnL.nil)))
end Go.L
