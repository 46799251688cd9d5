/- The program's functions compute what the plain Lean programs compute, part 3; printed by a program. -/
import Derived.Test.YtkhmlbchphhokaaGreatHulLP2
import Derived.Test.YtkhmlbchphhokaaGreatL0lkheafln
import Derived.Test.YtkhmlbchphhokaaGreatSortInmajjpon
import Derived.Test.YtkhmlbchphhokaaGreatChecked
import Derived.KernelRfl
set_option linter.all false
set_option maxRecDepth 100000
set_option maxHeartbeats 4000000
namespace Go.L
open Go Go.Eng Go.Proofs
theorem fiducialref09_Hull_ok (n : Nat) (l : List api_Pix) (r : List Int × Int) (hr : fiducialref09_Hull n l = some r) : FnOk Tryz.prog 23 [slT api_Pix.c l] (.tup [sI64 r.1, aI64 r.2]) := by
 unfold fiducialref09_Hull at hr
 refine FnOk.bd fine Tryz.func23 [.tmp 2, .tmp 3] ?_
 unfold Tryz.f23
 simp only [Option.getD_some]
 refine .seq <| .r4 fine [0] [] <| .seq <| .seq <| .r4 fine [0] [(10, aB (((l.length : Int) : Int) == 0))] ?_
 refine .cd hr (fun hb1 hr => ?_) (fun hb1 hr => ?_)
 ·refine .seq <| .r3 fine 49 [(2, nS), (3, aI64 1)] <| .ret ?_
  obtain rfl := oi hr
  exact FinQ.ret (vs := [nS, aI64 1]) (by kernel_rfl) (Sn.tup (SnL.cons Sn.nilsl (SnL.cons (Sn.pure rfl) SnL.nil)))
 ·refine .skip <| .seq <| .seq <| .r4 fine [0] [(13, aB (decide ((l.length : Int) > 1024)))] ?_
  refine .cd hr (fun hb2 hr => ?_) (fun hb2 hr => ?_)
  ·refine .seq <| .r3 fine 49 [(2, nS), (3, aI64 3)] <| .ret ?_
   obtain rfl := oi hr
   exact FinQ.ret (vs := [nS, aI64 3]) (by kernel_rfl) (Sn.tup (SnL.cons Sn.nilsl (SnL.cons (Sn.pure rfl) SnL.nil)))
  ·refine .skip <| .seq <| .seq ?_
   obtain ⟨v3, hc4, hr⟩ := bd hr
   refine .g1 fine (ok0 (fiducialref09_All_ok n l v3 hc4)) <| .mu 1 <| .ca cf0 <| .mu 1 <| .done <| .nh [0, 16] [] ?_
   refine .cd hr (fun hb5 hr => ?_) (fun hb5 hr => ?_)
   ·refine .seq <| .r3 fine 49 [(2, nS), (3, aI64 2)] <| .ret ?_
    obtain rfl := oi hr
    exact FinQ.ret (vs := [nS, aI64 2]) (by kernel_rfl) (Sn.tup (SnL.cons Sn.nilsl (SnL.cons (Sn.pure rfl) SnL.nil)))
   ·refine .skip <| .seq <| .r4 fine [0] [(4, aI64 0)] <| .seq <| .seq <| .r4 fine [0, 4] [(5, aI64 0)] <| .block ?_
    replace hr := bd hr; obtain ⟨start_14, hL23, hr⟩ := hr
    refine .loopO (σ := fun z0 => match z0 with | (start_6, i_7) => ⟨mkS 49 0 [(0, slT api_Pix.c l), (4, aI64 start_6), (5, aI64 i_7)], []⟩) (Q := fun x st' => x = .exit 0 ∧ Wk 0 st' ⟨mkS 49 0 [(0, slT api_Pix.c l), (4, aI64 start_14)], []⟩) hL23 ((Wk.gc [0, 4, 5] [] rfl pK0).to (by kernel_rfl)) ?_ ?_
    ·clear hr
     rintro m ⟨start_6, i_7⟩ hr
     show CQ _ _ _ _ _ ⟨_, _⟩
     refine .seq <| .seq <| .r4 fine [0, 4, 5] [(20, aB (decide (i_7 < (l.length : Int))))] ?_
     refine .cd hr (fun hb16 hr => ?_) (fun hb16 hr => ?_)
     ·refine .skip <| .seq <| .block <| .seq ?_
      obtain ⟨hg17, hg18, hr⟩ := gd2 hr
      obtain ⟨v19, hc20, hr⟩ := bd hr
      refine .t1 fine (ok0 (fiducialref09_before_ok n (gt l i_7) (gt l start_6) v19 hc20)) <| .mu 2 <| .pure (v := .pp (l.flatMap api_Pix.c) (i_7.toNat * 2)) (by kernel_rfl) (tr (ofP_guard hg17)) (by kernel_rfl) <| .pure (v := .agg (api_Pix.c (gt l i_7))) (by kernel_rfl) (Eq.trans (b := ORes.ofP (guardV (decide (2 ≤ ((l.flatMap api_Pix.c).drop (i_7.toNat * 2)).length)) (.agg (((l.flatMap api_Pix.c).drop (i_7.toNat * 2)).take 2)))) (by kernel_rfl) (flat_load api_Pix.len (inR_lt hg17) (by decide) (by omega : i_7.toNat * 2 = i_7.toNat * 2 + 0) (by kernel_rfl))) (by kernel_rfl) <| .mu 2 <| .pure (v := .pp (l.flatMap api_Pix.c) (start_6.toNat * 2)) (by kernel_rfl) (tr (ofP_guard hg18)) (by kernel_rfl) <| .pure (v := .agg (api_Pix.c (gt l start_6))) (by kernel_rfl) (Eq.trans (b := ORes.ofP (guardV (decide (2 ≤ ((l.flatMap api_Pix.c).drop (start_6.toNat * 2)).length)) (.agg (((l.flatMap api_Pix.c).drop (start_6.toNat * 2)).take 2)))) (by kernel_rfl) (flat_load api_Pix.len (inR_lt hg18) (by decide) (by omega : start_6.toNat * 2 = start_6.toNat * 2 + 0) (by kernel_rfl))) (by kernel_rfl) <| .ca cf0 ?_
      refine .done ⟨by kernel_rfl, ?_⟩
      refine .nh [0, 4, 5, 31] [] ?_
      refine .cd hr (fun hb21 hr => ?_) (fun hb21 hr => ?_)
      ·refine .ru fine <| .pop <| .ru fine ?_
       exact loopF_back (i_7, wrapF .i64 (i_7 + 1)) hr ((Wk.gc [0, 4, 5] [] rfl pK0).to (by kernel_rfl))
      ·refine .skip <| .pop <| .ru fine ?_
       exact loopF_back (start_6, wrapF .i64 (i_7 + 1)) hr ((Wk.gc [0, 4, 5] [] rfl pK0).to (by kernel_rfl))
     ·refine .leave rfl ?_
      obtain rfl := oi hr
      exact ⟨rfl, ((Wk.gc [0, 4] [] rfl pK0).to (by kernel_rfl))⟩
    ·rintro x st' hq24
     clear hL23
     obtain ⟨rfl, hq24⟩ := hq24
     refine CQ_exit _ rfl <| .wk hq24 <| .seq <| .r5 fine [0, 4] [(6, .hs 0 0 1 1)] [.own [aI64 start_14]] <| .seq <| .seq ?_
     obtain ⟨v25, hc26, hr⟩ := bd hr
     refine .g1 fine (ok0 (fiducialref09_next_ok n l start_14 v25 hc26)) <| .mu 2 <| .ca cf0 <| .mu 1 <| .done <| .nh [0, 4, 6, 7] [.own [aI64 start_14]] <| .block ?_
     replace hr := bd hr; obtain ⟨out_34, hL42, hr⟩ := hr
     refine .loopO (σ := fun z0 => match z0 with | (out_27, i_28) => ⟨mkS 49 0 [(0, slT api_Pix.c l), (4, aI64 start_14), (6, .hs 0 0 out_27.length 1), (7, aI64 i_28)], [.own (out_27.flatMap (iC .i64))]⟩) (Q := fun x st' => x = .exit 2 ∧ Wk 0 st' ⟨mkS 49 0 [(6, .hs 0 0 out_34.length 1)], [.own (out_34.flatMap (iC .i64))]⟩) hL42 ((Wk.gc [0, 4, 6, 7] [(0, false)] rfl (pKc trivial)).to (by kernel_rfl)) ?_ ?_
     ·clear hr
      rintro m ⟨out_27, i_28⟩ hr
      show CQ _ _ _ _ _ ⟨_, _⟩
      refine .seq <| .seq <| .r4 fine [0, 4, 6, 7] [(40, aB ((i_28 : Int) != start_14))] ?_
      refine .cd hr (fun hb36 hr => ?_) (fun hb36 hr => ?_)
      ·refine .skip <| .seq <| .block ?_
       obtain ⟨hg37, hg38, hr⟩ := gd2 hr
       refine .r0 fine <| .mu 3 <| .e0 (v := .hs 2 0 (out_27 ++ [i_28]).length 1) (ws := [(0, .dead), (2, .own ((out_27 ++ [i_28]).flatMap (iC .i64)))]) (tr (app_own (new := [aI64 i_28]) (l := out_27) (xs := [i_28]) (iC_len .i64) rfl rfl (by kernel_rfl) hg37 hg38)) <| .mu 1 <| .done <| .pop ?_
       obtain ⟨v39, hc40, hr⟩ := bd hr
       refine .g1 fine (ok0 (fiducialref09_next_ok n l i_28 v39 hc40)) <| .mu 2 <| .ca cf0 <| .mu 1 <| .done ?_
       exact loopF_back (out_27 ++ [i_28], v39) hr ((Wk.gc [0, 4, 6, 7] [(2, false)] rfl (pKo (iC .i64) (iC_pure _) (out_27 ++ [i_28]) trivial)).to (by kernel_rfl))
      ·refine .leave rfl ?_
       obtain rfl := oi hr
       exact ⟨rfl, ((Wk.gc [6] [(0, false)] rfl (pKo (iC .i64) (iC_pure _) out_27 trivial)).to (by kernel_rfl))⟩
     ·rintro x st' hq43
      clear hL42
      obtain ⟨rfl, hq43⟩ := hq43
      refine CQ_exit _ rfl <| .wk hq43 <| .seq <| .r3 fine 49 [(2, .hs 0 0 out_34.length 1), (3, aI64 0)] <| .ret ?_
      obtain rfl := oi hr
      exact FinQ.ret (vs := [.hs 0 0 out_34.length 1, aI64 0]) (by kernel_rfl) (Sn.tup (SnL.cons (Sn.hs rfl (.inl rfl) (SnC.pure (ids_flat (iC_pure _) _)) (fun h => flat_nil0 h)) (SnL.cons (Sn.pure rfl) SnL.nil)))

theorem slices_Equal_int_int_ok (n : Nat) (s1 : List Int) (s2 : List Int) (r : Bool) (hr : slices_Equal_int_int n s1 s2 = some r) : FnOk Tryz.prog 12 [sI64 s1, sI64 s2] (aB r) := by
 unfold slices_Equal_int_int at hr
 refine FnOk.bd fine Tryz.func12 [.tmp 4] ?_
 unfold Tryz.f12
 simp only [Option.getD_some]
 refine .seq <| .r4 fine [0, 1] [] <| .seq <| .seq <| .r4 fine [0, 1] [(10, aB (((s1.length : Int) : Int) != (s2.length : Int)))] ?_
 refine .cd hr (fun hb1 hr => ?_) (fun hb1 hr => ?_)
 ·refine .seq <| .ru fine <| .ret ?_
  obtain rfl := oi hr
  exact FinQ.r1 [aB false]
 ·refine .skip <| .seq <| .seq <| .r4 fine [0, 1] [(12, aI64 (s1.length : Int)), (13, aI64 0)] <| .block ?_
  replace hr := bd hr; obtain ⟨o12, hL13, hr⟩ := hr
  refine .loopO (σ := fun z0 => match z0 with | x_2 => ⟨mkS 26 0 [(0, sI64 s1), (1, sI64 s2), (12, aI64 (s1.length : Int)), (13, aI64 x_2)], []⟩) (Q := fun x st' => match (generalizing := false) o12 with | .inl _ => x = .exit 0 ∧ Wk 0 st' ⟨mkS 26 0 [], []⟩ | .inr (r0) => x = .ret ∧ FinQ Tryz.prog [.tmp 4] (aB r0) .ret st') hL13 ((Wk.gc [0, 1, 12, 13] [] rfl pK0).to (by kernel_rfl)) ?_ ?_
  ·clear hr
   rintro m x_2 hr
   show CQ _ _ _ _ _ ⟨_, _⟩
   refine .seq <| .r4 fine [0, 1, 12, 13] [(14, aB (decide (x_2 < (s1.length : Int))))] <| .seq ?_
   refine .cd hr (fun hb8 hr => ?_) (fun hb8 hr => ?_)
   ·refine .skip <| .seq <| .block <| .seq <| .r4 fine [0, 1, 12, 13] [(5, aI64 x_2)] <| .seq ?_
    obtain ⟨hg9, hg10, hr⟩ := gd2 hr
    refine .regionT fine callOf_nil <| .mu 2 <| .pure (v := .pp (s1.flatMap (iC .i64)) (x_2.toNat * 1)) (by kernel_rfl) (tr (ofP_guard hg9)) (by kernel_rfl) <| .pure (v := aI64 (gt s1 x_2)) (by kernel_rfl) (tr (ofP_some (flat_get (iC_len .i64) (inR_lt hg9) (by decide : 0 < 1) (by omega : x_2.toNat * 1 = x_2.toNat * 1 + 0) (by kernel_rfl)))) (by kernel_rfl) <| .mu 2 <| .pure (v := .pp (s2.flatMap (iC .i64)) (x_2.toNat * 1)) (by kernel_rfl) (tr (ofP_guard hg10)) (by kernel_rfl) <| .pure (v := aI64 (gt s2 x_2)) (by kernel_rfl) (tr (ofP_some (flat_get (iC_len .i64) (inR_lt hg10) (by decide : 0 < 1) (by omega : x_2.toNat * 1 = x_2.toNat * 1 + 0) (by kernel_rfl)))) (by kernel_rfl) <| .mu 1 ?_
    refine .done ⟨by kernel_rfl, ?_⟩
    refine .nh [0, 1, 12, 13, 24] [] ?_
    refine .cd hr (fun hb11 hr => ?_) (fun hb11 hr => ?_)
    ·refine .seq <| .ru fine <| .ret ?_
     obtain rfl := oi hr
     exact ⟨rfl, FinQ.ret (vs := [aB false]) (by kernel_rfl) (Sn.pure rfl)⟩
    ·refine .skip <| .pop <| .ru fine ?_
     exact loopF_back (wrapF .i64 (x_2 + 1)) hr ((Wk.gc [0, 1, 12, 13] [] rfl pK0).to (by kernel_rfl))
   ·refine .leave rfl ?_
    obtain rfl := oi hr
    exact ⟨rfl, ((Wk.gc [] [] rfl pK0).to (by kernel_rfl))⟩
  ·rcases o12 with ⟨⟩ | r0
   ·rintro x st' hq14
    clear hL13
    obtain ⟨rfl, hq14⟩ := hq14
    refine CQ_exit _ rfl <| .wk hq14 <| .seq <| .ru fine <| .ret ?_
    obtain rfl := oi hr
    exact FinQ.r1 [aB true]
   ·rintro x st' hq14
    clear hL13
    obtain ⟨rfl, hq14⟩ := hq14
    obtain rfl := oi hr
    exact CQ_ret _ hq14

theorem fiduciallaw09_PredicateHull_ok (n : Nat) (l : List api_Pix) (r : Bool) (hr : fiduciallaw09_PredicateHull n l = some r) : FnOk Tryz.prog 5 [slT api_Pix.c l] (aB r) := by
 unfold fiduciallaw09_PredicateHull at hr
 refine FnOk.bd fine Tryz.func5 [.tmp 2] ?_
 unfold Tryz.f5
 simp only [Option.getD_some]
 refine .seq <| .r4 fine [0] [] <| .seq <| .seq ?_
 obtain ⟨v1, hc2, hr⟩ := bd hr
 refine .g1 fine (ok0 (fiduciallaw09_known_ok n v1 hc2)) <| .ca cf0 <| .mu 1 <| .done <| .nh [0, 13] [] ?_
 refine .cd hr (fun hb3 hr => ?_) (fun hb3 hr => ?_)
 ·refine .seq <| .ru fine <| .ret ?_
  obtain rfl := oi hr
  exact FinQ.r1 [aB false]
 ·refine .skip <| .seq <| .seq <| .r4 fine [0] [(16, aB (decide ((l.length : Int) > 40)))] ?_
  refine .cd hr (fun hb4 hr => ?_) (fun hb4 hr => ?_)
  ·refine .seq <| .ru fine <| .ret ?_
   obtain rfl := oi hr
   exact FinQ.r1 [aB true]
  ·refine .skip <| .seq ?_
   obtain ⟨v5, hc6, hr⟩ := bd hr
   refine .g1 fine (ok0 (predicate_Hull_ok n l v5 hc6)) <| .mu 1 <| .ca cf0 <| .mu 5 <| .done <| .nh [0, 3, 4] [] <| .seq ?_
   obtain ⟨v7, hc8, hr⟩ := bd hr
   refine .g1 fine (ok0 (fiducialref09_Hull_ok n l v7 hc8)) <| .mu 1 <| .ca cf0 <| .mu 5 <| .done <| .nh [0, 3, 4, 5, 6] [] <| .seq <| .seq ?_
   rcases Bool.eq_false_or_eq_true ((v5.2 : Int) != v7.2) with hb9 | hb9
   ·replace hr := cd_t hb9 hr
    refine .r0 fine <| .mu 2 <| .p0 (v := aB true) (eB hb9) <| .mu 6 <| .done <| .nh [0, 3, 35] [] <| .cT (by kernel_rfl) <| .seq <| .ru fine <| .ret ?_
    obtain rfl := oi hr
    exact FinQ.r1 [aB false]
   ·replace hr := cd_f hb9 hr
    obtain ⟨v10, hc11, hr⟩ := bd hr
    refine .g1 fine (ok0 (slices_Equal_int_int_ok n v5.1 v7.1 v10 hc11)) <| .mu 2 <| .p0 (v := aB false) (eB hb9) <| .mu 3 <| .ca cf0 <| .mu 2 <| .done <| .nh [0, 3, 35] [] ?_
    refine .cd hr (fun hb12 hr => ?_) (fun hb12 hr => ?_)
    ·refine .seq <| .ru fine <| .ret ?_
     obtain rfl := oi hr
     exact FinQ.r1 [aB false]
    ·refine .skip <| .seq <| .seq <| .r4 fine [0, 3] [(37, aI64 (v5.1.length : Int)), (38, aI64 0)] <| .block ?_
     replace hr := bd hr; obtain ⟨o73, hL74, hr⟩ := hr
     refine .loopO (σ := fun z0 => match z0 with | x_13 => ⟨mkS 97 0 [(0, slT api_Pix.c l), (3, sI64 v5.1), (37, aI64 (v5.1.length : Int)), (38, aI64 x_13)], []⟩) (Q := fun x st' => match (generalizing := false) o73 with | .inl _ => x = .exit 0 ∧ Wk 0 st' ⟨mkS 97 0 [], []⟩ | .inr (r0) => x = .ret ∧ FinQ Tryz.prog [.tmp 2] (aB r0) .ret st') hL74 ((Wk.gc [0, 3, 37, 38] [] rfl pK0).to (by kernel_rfl)) ?_ ?_
     ·clear hr
      rintro m x_13 hr
      show CQ _ _ _ _ _ ⟨_, _⟩
      refine .seq <| .r4 fine [0, 3, 37, 38] [(39, aB (decide (x_13 < (v5.1.length : Int))))] <| .seq ?_
      refine .cd hr (fun hb44 hr => ?_) (fun hb44 hr => ?_)
      ·refine .skip <| .seq <| .block <| .seq <| .r4 fine [0, 3, 37, 38] [(7, aI64 x_13)] <| .seq ?_
       obtain ⟨hg45, hg46, hg47, hr⟩ := gd3 hr
       obtain ⟨hg48, hg49, hr⟩ := gd2 hr
       refine .regionT fine callOf_nil <| .mu 3 <| .pure (v := .pp (v5.1.flatMap (iC .i64)) (x_13.toNat * 1)) (by kernel_rfl) (tr (ofP_guard hg45)) (by kernel_rfl) <| .pure (v := aI64 (gt v5.1 x_13)) (by kernel_rfl) (tr (ofP_some (flat_get (iC_len .i64) (inR_lt hg45) (by decide : 0 < 1) (by omega : x_13.toNat * 1 = x_13.toNat * 1 + 0) (by kernel_rfl)))) (by kernel_rfl) <| .pure (v := .pp (l.flatMap api_Pix.c) ((gt v5.1 x_13).toNat * 2)) (by kernel_rfl) (tr (ofP_guard hg46)) (by kernel_rfl) <| .pure (v := .agg (api_Pix.c (gt l (gt v5.1 x_13)))) (by kernel_rfl) (Eq.trans (b := ORes.ofP (guardV (decide (2 ≤ ((l.flatMap api_Pix.c).drop ((gt v5.1 x_13).toNat * 2)).length)) (.agg (((l.flatMap api_Pix.c).drop ((gt v5.1 x_13).toNat * 2)).take 2)))) (by kernel_rfl) (flat_load api_Pix.len (inR_lt hg46) (by decide) (by omega : (gt v5.1 x_13).toNat * 2 = (gt v5.1 x_13).toNat * 2 + 0) (by kernel_rfl))) (by kernel_rfl) <| .mu 6 <| .pure (v := aI64 ((wrapF .i64 (x_13 + 1)).tmod (v5.1.length : Int))) (by kernel_rfl) (op_rem (x := wrapF .i64 (x_13 + 1)) (y := (v5.1.length : Int)) (by kernel_rfl) (by kernel_rfl) hg47) (by kernel_rfl) <| .pure (v := .pp (v5.1.flatMap (iC .i64)) (((wrapF .i64 (x_13 + 1)).tmod (v5.1.length : Int)).toNat * 1)) (by kernel_rfl) (tr (ofP_guard hg48)) (by kernel_rfl) <| .pure (v := aI64 (gt v5.1 ((wrapF .i64 (x_13 + 1)).tmod (v5.1.length : Int)))) (by kernel_rfl) (tr (ofP_some (flat_get (iC_len .i64) (inR_lt hg48) (by decide : 0 < 1) (by omega : ((wrapF .i64 (x_13 + 1)).tmod (v5.1.length : Int)).toNat * 1 = ((wrapF .i64 (x_13 + 1)).tmod (v5.1.length : Int)).toNat * 1 + 0) (by kernel_rfl)))) (by kernel_rfl) <| .pure (v := .pp (l.flatMap api_Pix.c) ((gt v5.1 ((wrapF .i64 (x_13 + 1)).tmod (v5.1.length : Int))).toNat * 2)) (by kernel_rfl) (tr (ofP_guard hg49)) (by kernel_rfl) <| .pure (v := .agg [aI64 (gt l (gt v5.1 ((wrapF .i64 (x_13 + 1)).tmod (v5.1.length : Int)))).X, aI64 (gt l (gt v5.1 ((wrapF .i64 (x_13 + 1)).tmod (v5.1.length : Int)))).Y]) (by kernel_rfl) (Eq.trans (b := ORes.ofP (guardV (decide (2 ≤ ((l.flatMap api_Pix.c).drop ((gt v5.1 ((wrapF .i64 (x_13 + 1)).tmod (v5.1.length : Int))).toNat * 2)).length)) (.agg (((l.flatMap api_Pix.c).drop ((gt v5.1 ((wrapF .i64 (x_13 + 1)).tmod (v5.1.length : Int))).toNat * 2)).take 2)))) (by kernel_rfl) (flat_load api_Pix.len (inR_lt hg49) (by decide) (by omega : (gt v5.1 ((wrapF .i64 (x_13 + 1)).tmod (v5.1.length : Int))).toNat * 2 = (gt v5.1 ((wrapF .i64 (x_13 + 1)).tmod (v5.1.length : Int))).toNat * 2 + 0) (by kernel_rfl))) (by kernel_rfl) <| .mu 4 ?_
       refine .done ⟨by kernel_rfl, ?_⟩
       refine .nh [0, 3, 7, 8, 9, 37, 38] [.own (api_Pix.c (gt l (gt v5.1 x_13))), .own [aI64 (gt l (gt v5.1 ((wrapF .i64 (x_13 + 1)).tmod (v5.1.length : Int)))).X, aI64 (gt l (gt v5.1 ((wrapF .i64 (x_13 + 1)).tmod (v5.1.length : Int)))).Y]] <| .seq <| .seq <| .r4 fine [0, 3, 7, 8, 9, 37, 38] [(59, slT api_Pix.c l), (60, aI64 (l.length : Int)), (61, aI64 0)] <| .block ?_
       replace hr := bd hr; obtain ⟨o64, hL65, hr⟩ := hr
       refine .loopO (σ := fun z0 => match z0 with | x_50 => ⟨mkS 97 0 [(0, slT api_Pix.c l), (3, sI64 v5.1), (7, aI64 x_13), (8, .hp 0 0), (9, .hp 1 0), (37, aI64 (v5.1.length : Int)), (38, aI64 x_13), (59, slT api_Pix.c l), (60, aI64 (l.length : Int)), (61, aI64 x_50)], [.own (api_Pix.c (gt l (gt v5.1 x_13))), .own [aI64 (gt l (gt v5.1 ((wrapF .i64 (x_13 + 1)).tmod (v5.1.length : Int)))).X, aI64 (gt l (gt v5.1 ((wrapF .i64 (x_13 + 1)).tmod (v5.1.length : Int)))).Y]]⟩) (Q := fun x st' => match (generalizing := false) o64 with | .inl _ => x = .exit 2 ∧ Wk 0 st' ⟨mkS 97 0 [(0, slT api_Pix.c l), (3, sI64 v5.1), (7, aI64 x_13), (8, .hp 0 0), (9, .hp 1 0), (37, aI64 (v5.1.length : Int)), (38, aI64 x_13)], [.own (api_Pix.c (gt l (gt v5.1 x_13))), .own [aI64 (gt l (gt v5.1 ((wrapF .i64 (x_13 + 1)).tmod (v5.1.length : Int)))).X, aI64 (gt l (gt v5.1 ((wrapF .i64 (x_13 + 1)).tmod (v5.1.length : Int)))).Y]]⟩ | .inr (r0) => x = .ret ∧ FinQ Tryz.prog [.tmp 2] (aB r0) .ret st') hL65 ((Wk.gc [0, 3, 7, 8, 9, 37, 38, 59, 60, 61] [(0, true), (1, true)] rfl trivial).to (by kernel_rfl)) ?_ ?_
       ·clear hr
        rintro m x_50 hr
        show CQ _ _ _ _ _ ⟨_, _⟩
        refine .seq <| .r4 fine [0, 3, 7, 8, 9, 37, 38, 59, 60, 61] [(62, aB (decide (x_50 < (l.length : Int))))] <| .seq ?_
        refine .cd hr (fun hb58 hr => ?_) (fun hb58 hr => ?_)
        ·refine .skip <| .seq <| .block <| .seq ?_
         obtain ⟨hg59, hr⟩ := gd hr
         refine .r0 fine <| .p0 (v := .pp (l.flatMap api_Pix.c) (x_50.toNat * 2)) (tr (ofP_guard hg59)) <| .p0 (v := .agg (api_Pix.c (gt l x_50))) (Eq.trans (b := ORes.ofP (guardV (decide (2 ≤ ((l.flatMap api_Pix.c).drop (x_50.toNat * 2)).length)) (.agg (((l.flatMap api_Pix.c).drop (x_50.toNat * 2)).take 2)))) (by kernel_rfl) (flat_load api_Pix.len (inR_lt hg59) (by decide) (by omega : x_50.toNat * 2 = x_50.toNat * 2 + 0) (by kernel_rfl))) <| .mu 2 <| .done <| .nh [0, 3, 7, 8, 9, 11, 37, 38, 59, 60, 61] [.own (api_Pix.c (gt l (gt v5.1 x_13))), .own [aI64 (gt l (gt v5.1 ((wrapF .i64 (x_13 + 1)).tmod (v5.1.length : Int)))).X, aI64 (gt l (gt v5.1 ((wrapF .i64 (x_13 + 1)).tmod (v5.1.length : Int)))).Y], .own (api_Pix.c (gt l x_50))] <| .seq ?_
         rcases Bool.eq_false_or_eq_true (decide ((v5.1.length : Int) > 1)) with hb60 | hb60
         ·replace hr := cd_t hb60 hr
          obtain ⟨v61, hc62, hr⟩ := bd hr
          refine .g1 fine (ok0 (fiducialref09_Orient_ok n (gt l (gt v5.1 x_13)) (gt l (gt v5.1 ((wrapF .i64 (x_13 + 1)).tmod (v5.1.length : Int)))) (gt l x_50) v61 hc62)) <| .mu 2 <| .p0 (v := aB true) (eB hb60) <| .mu 4 <| .ca cf0 <| .mu 2 <| .done <| .nh [0, 3, 7, 8, 9, 37, 38, 59, 60, 61, 74] [.own (api_Pix.c (gt l (gt v5.1 x_13))), .own [aI64 (gt l (gt v5.1 ((wrapF .i64 (x_13 + 1)).tmod (v5.1.length : Int)))).X, aI64 (gt l (gt v5.1 ((wrapF .i64 (x_13 + 1)).tmod (v5.1.length : Int)))).Y], .own (api_Pix.c (gt l x_50))] ?_
          refine .cd hr (fun hb63 hr => ?_) (fun hb63 hr => ?_)
          ·refine .seq <| .ru fine <| .ret ?_
           obtain rfl := oi hr
           exact ⟨rfl, FinQ.ret (vs := [aB false]) (by kernel_rfl) (Sn.pure rfl)⟩
          ·refine .skip <| .pop <| .ru fine ?_
           exact loopF_back (wrapF .i64 (x_50 + 1)) hr ((Wk.gc [0, 3, 7, 8, 9, 37, 38, 59, 60, 61] [(0, true), (1, true)] rfl trivial).to (by kernel_rfl))
         ·replace hr := cd_f hb60 hr
          refine .r0 fine <| .mu 2 <| .p0 (v := aB false) (eB hb60) <| .mu 7 <| .done <| .nh [0, 3, 7, 8, 9, 37, 38, 59, 60, 61, 74] [.own (api_Pix.c (gt l (gt v5.1 x_13))), .own [aI64 (gt l (gt v5.1 ((wrapF .i64 (x_13 + 1)).tmod (v5.1.length : Int)))).X, aI64 (gt l (gt v5.1 ((wrapF .i64 (x_13 + 1)).tmod (v5.1.length : Int)))).Y], .own (api_Pix.c (gt l x_50))] <| .cF (by kernel_rfl) <| .skip <| .pop <| .ru fine ?_
          exact loopF_back (wrapF .i64 (x_50 + 1)) hr ((Wk.gc [0, 3, 7, 8, 9, 37, 38, 59, 60, 61] [(0, true), (1, true)] rfl trivial).to (by kernel_rfl))
        ·refine .leave rfl ?_
         obtain rfl := oi hr
         exact ⟨rfl, ((Wk.gc [0, 3, 7, 8, 9, 37, 38] [(0, true), (1, true)] rfl trivial).to (by kernel_rfl))⟩
       ·rcases o64 with ⟨⟩ | r0
        ·rintro x st' hq66
         clear hL65
         obtain ⟨rfl, hq66⟩ := hq66
         refine CQ_exit _ rfl <| .wk hq66 <| .seq ?_
         rcases Bool.eq_false_or_eq_true (decide ((v5.1.length : Int) > 2)) with hb67 | hb67
         ·replace hr := cd_t hb67 hr
          obtain ⟨hg68, hg69, hr⟩ := gd2 hr
          obtain ⟨v70, hc71, hr⟩ := bd hr
          refine .t1 fine (ok0 (fiducialref09_Orient_ok n (gt l (gt v5.1 x_13)) (gt l (gt v5.1 ((wrapF .i64 (x_13 + 1)).tmod (v5.1.length : Int)))) (gt l (gt v5.1 ((wrapF .i64 (x_13 + 2)).tmod (v5.1.length : Int)))) v70 hc71)) <| .mu 2 <| .pure (v := aB true) (by kernel_rfl) (eB hb67) (by kernel_rfl) <| .mu 9 <| .pure (v := aI64 ((wrapF .i64 (x_13 + 2)).tmod (v5.1.length : Int))) (by kernel_rfl) (op_rem (x := wrapF .i64 (x_13 + 2)) (y := (v5.1.length : Int)) (by kernel_rfl) (by kernel_rfl) hg47) (by kernel_rfl) <| .pure (v := .pp (v5.1.flatMap (iC .i64)) (((wrapF .i64 (x_13 + 2)).tmod (v5.1.length : Int)).toNat * 1)) (by kernel_rfl) (tr (ofP_guard hg68)) (by kernel_rfl) <| .pure (v := aI64 (gt v5.1 ((wrapF .i64 (x_13 + 2)).tmod (v5.1.length : Int)))) (by kernel_rfl) (tr (ofP_some (flat_get (iC_len .i64) (inR_lt hg68) (by decide : 0 < 1) (by omega : ((wrapF .i64 (x_13 + 2)).tmod (v5.1.length : Int)).toNat * 1 = ((wrapF .i64 (x_13 + 2)).tmod (v5.1.length : Int)).toNat * 1 + 0) (by kernel_rfl)))) (by kernel_rfl) <| .pure (v := .pp (l.flatMap api_Pix.c) ((gt v5.1 ((wrapF .i64 (x_13 + 2)).tmod (v5.1.length : Int))).toNat * 2)) (by kernel_rfl) (tr (ofP_guard hg69)) (by kernel_rfl) <| .pure (v := .agg [aI64 (gt l (gt v5.1 ((wrapF .i64 (x_13 + 2)).tmod (v5.1.length : Int)))).X, aI64 (gt l (gt v5.1 ((wrapF .i64 (x_13 + 2)).tmod (v5.1.length : Int)))).Y]) (by kernel_rfl) (Eq.trans (b := ORes.ofP (guardV (decide (2 ≤ ((l.flatMap api_Pix.c).drop ((gt v5.1 ((wrapF .i64 (x_13 + 2)).tmod (v5.1.length : Int))).toNat * 2)).length)) (.agg (((l.flatMap api_Pix.c).drop ((gt v5.1 ((wrapF .i64 (x_13 + 2)).tmod (v5.1.length : Int))).toNat * 2)).take 2)))) (by kernel_rfl) (flat_load api_Pix.len (inR_lt hg69) (by decide) (by omega : (gt v5.1 ((wrapF .i64 (x_13 + 2)).tmod (v5.1.length : Int))).toNat * 2 = (gt v5.1 ((wrapF .i64 (x_13 + 2)).tmod (v5.1.length : Int))).toNat * 2 + 0) (by kernel_rfl))) (by kernel_rfl) <| .ca cf0 <| .mu 2 ?_
          refine .done ⟨by kernel_rfl, ?_⟩
          refine .nh [0, 3, 37, 38, 95] [.own (api_Pix.c (gt l (gt v5.1 x_13))), .own [aI64 (gt l (gt v5.1 ((wrapF .i64 (x_13 + 1)).tmod (v5.1.length : Int)))).X, aI64 (gt l (gt v5.1 ((wrapF .i64 (x_13 + 1)).tmod (v5.1.length : Int)))).Y]] ?_
          refine .cd hr (fun hb72 hr => ?_) (fun hb72 hr => ?_)
          ·refine .seq <| .ru fine <| .ret ?_
           obtain rfl := oi hr
           exact ⟨rfl, FinQ.ret (vs := [aB false]) (by kernel_rfl) (Sn.pure rfl)⟩
          ·refine .skip <| .pop <| .ru fine ?_
           exact loopF_back (wrapF .i64 (x_13 + 1)) hr ((Wk.gc [0, 3, 37, 38] [] rfl pK0).to (by kernel_rfl))
         ·replace hr := cd_f hb67 hr
          refine .regionT fine callOf_nil <| .mu 2 <| .pure (v := aB false) (by kernel_rfl) (eB hb67) (by kernel_rfl) <| .mu 17 ?_
          refine .done ⟨by kernel_rfl, ?_⟩
          refine .nh [0, 3, 37, 38, 95] [.own (api_Pix.c (gt l (gt v5.1 x_13))), .own [aI64 (gt l (gt v5.1 ((wrapF .i64 (x_13 + 1)).tmod (v5.1.length : Int)))).X, aI64 (gt l (gt v5.1 ((wrapF .i64 (x_13 + 1)).tmod (v5.1.length : Int)))).Y]] <| .cF (by kernel_rfl) <| .skip <| .pop <| .ru fine ?_
          exact loopF_back (wrapF .i64 (x_13 + 1)) hr ((Wk.gc [0, 3, 37, 38] [] rfl pK0).to (by kernel_rfl))
        ·rintro x st' hq66
         clear hL65
         obtain ⟨rfl, hq66⟩ := hq66
         obtain rfl := oi hr
         exact CQ_ret _ ⟨rfl, hq66⟩
      ·refine .leave rfl ?_
       obtain rfl := oi hr
       exact ⟨rfl, ((Wk.gc [] [] rfl pK0).to (by kernel_rfl))⟩
     ·rcases o73 with ⟨⟩ | r0
      ·rintro x st' hq75
       clear hL74
       obtain ⟨rfl, hq75⟩ := hq75
       refine CQ_exit _ rfl <| .wk hq75 <| .seq <| .ru fine <| .ret ?_
       obtain rfl := oi hr
       exact FinQ.r1 [aB true]
      ·rintro x st' hq75
       clear hL74
       obtain ⟨rfl, hq75⟩ := hq75
       obtain rfl := oi hr
       exact CQ_ret _ hq75
end Go.L
