/- The program's functions compute what the plain Lean programs compute, part 1; printed by a program. -/
import Derived.Test.YtkhmlbchphhokaaGreatHulLD
import Derived.Test.YtkhmlbchphhokaaGreatL0lkheafln
import Derived.Test.YtkhmlbchphhokaaGreatSortInmajjpon
import Derived.Test.YtkhmlbchphhokaaGreatChecked
import Derived.KernelRfl
set_option linter.all false
set_option maxRecDepth 100000
set_option maxHeartbeats 4000000
namespace Go.L
open Go Go.Eng Go.Proofs
theorem predicate_inRange_1_ok (n : Nat) (n' : Int) (r : Bool) (hr : predicate_inRange_1 n n' = some r) : FnOk Tryz.prog 150 [aI64 n'] (aB r) := by
 unfold predicate_inRange_1 at hr
 refine FnOk.bd fine Tryz.func150 [.tmp 2] ?_
 unfold Tryz.f150
 simp only [Option.getD_some]
 refine .seq <| .r4 fine [0] [] <| .seq ?_
 rcases Bool.eq_false_or_eq_true (decide (n' < (-1048576))) with hb1 | hb1
 ·replace hr := cd_t hb1 hr
  refine .r0 fine <| .mu 1 <| .p0 (v := aB true) (eB hb1) <| .mu 5 <| .done <| .ret ?_
  obtain rfl := oi hr
  exact FinQ.r1 [aB true]
 ·replace hr := cd_f hb1 hr
  refine .r0 fine <| .mu 1 <| .p0 (v := aB false) (eB hb1) <| .mu 5 <| .done <| .ret ?_
  obtain rfl := oi hr
  exact FinQ.r1 [aB (decide (n' > 1048576))]

theorem slices_IndexFunc_int_int_of_predicate_inRange_1_ok (n : Nat) (s : List Int) (r : Int) (hr : slices_IndexFunc_int_int_of_predicate_inRange_1 n s = some r) : FnOk Tryz.prog 103 [sI64 s, .fn 150 [] []] (aI64 r) := by
 unfold slices_IndexFunc_int_int_of_predicate_inRange_1 at hr
 refine FnOk.bd fine Tryz.func103 [.tmp 4] ?_
 unfold Tryz.f103
 simp only [Option.getD_some]
 refine .seq <| .r4 fine [0, 1] [] <| .seq <| .seq <| .r4 fine [0, 1] [(7, aI64 (s.length : Int)), (8, aI64 0)] <| .block ?_
 replace hr := bd hr; obtain ⟨o13, hL14, hr⟩ := hr
 refine .loopO (σ := fun z0 => match z0 with | x_1 => ⟨mkS 19 0 [(0, sI64 s), (1, .fn 150 [] []), (7, aI64 (s.length : Int)), (8, aI64 x_1)], []⟩) (Q := fun x st' => match (generalizing := false) o13 with | .inl _ => x = .exit 0 ∧ Wk 0 st' ⟨mkS 19 0 [], []⟩ | .inr (r0) => x = .ret ∧ FinQ Tryz.prog [.tmp 4] (aI64 r0) .ret st') hL14 ((Wk.gc [0, 1, 7, 8] [] rfl pK0).to (by kernel_rfl)) ?_ ?_
 ·clear hr
  rintro m x_1 hr
  show CQ _ _ _ _ _ ⟨_, _⟩
  refine .seq <| .r4 fine [0, 1, 7, 8] [(9, aB (decide (x_1 < (s.length : Int))))] <| .seq ?_
  refine .cd hr (fun hb8 hr => ?_) (fun hb8 hr => ?_)
  ·refine .skip <| .seq <| .block <| .seq <| .r4 fine [0, 1, 7, 8] [(5, aI64 x_1)] <| .seq ?_
   obtain ⟨hg9, hr⟩ := gd hr
   obtain ⟨v10, hc11, hr⟩ := bd hr
   refine .g1 fine (ok0 (predicate_inRange_1_ok n (gt s x_1) v10 hc11)) <| .mu 3 <| .p0 (v := .pp (s.flatMap (iC .i64)) (x_1.toNat * 1)) (tr (ofP_guard hg9)) <| .p0 (v := aI64 (gt s x_1)) (tr (ofP_some (flat_get (iC_len .i64) (inR_lt hg9) (by decide : 0 < 1) (by omega : x_1.toNat * 1 = x_1.toNat * 1 + 0) (by kernel_rfl)))) <| .ca cf0 <| .done <| .nh [0, 1, 5, 7, 8, 16] [] ?_
   refine .cd hr (fun hb12 hr => ?_) (fun hb12 hr => ?_)
   ·refine .seq <| .ru fine <| .ret ?_
    obtain rfl := oi hr
    exact ⟨rfl, FinQ.ret (vs := [aI64 x_1]) (by kernel_rfl) (Sn.pure rfl)⟩
   ·refine .skip <| .pop <| .ru fine ?_
    exact loopF_back (wrapF .i64 (x_1 + 1)) hr ((Wk.gc [0, 1, 7, 8] [] rfl pK0).to (by kernel_rfl))
  ·refine .leave rfl ?_
   obtain rfl := oi hr
   exact ⟨rfl, ((Wk.gc [] [] rfl pK0).to (by kernel_rfl))⟩
 ·rcases o13 with ⟨⟩ | r0
  ·rintro x st' hq15
   clear hL14
   obtain ⟨rfl, hq15⟩ := hq15
   refine CQ_exit _ rfl <| .wk hq15 <| .seq <| .ru fine <| .ret ?_
   obtain rfl := oi hr
   exact FinQ.r1 [aI64 (-1)]
  ·rintro x st' hq15
   clear hL14
   obtain ⟨rfl, hq15⟩ := hq15
   obtain rfl := oi hr
   exact CQ_ret _ hq15

theorem slices_ContainsFunc_int_int_of_predicate_inRange_1_ok (n : Nat) (s : List Int) (r : Bool) (hr : slices_ContainsFunc_int_int_of_predicate_inRange_1 n s = some r) : FnOk Tryz.prog 57 [sI64 s, .fn 150 [] []] (aB r) := by
 unfold slices_ContainsFunc_int_int_of_predicate_inRange_1 at hr
 refine FnOk.bd fine Tryz.func57 [.tmp 4] ?_
 unfold Tryz.f57
 simp only [Option.getD_some]
 refine .seq <| .r4 fine [0, 1] [] <| .seq ?_
 obtain ⟨v1, hc2, hr⟩ := bd hr
 refine .g1 fine (ok0 (slices_IndexFunc_int_int_of_predicate_inRange_1_ok n s v1 hc2)) <| .mu 2 <| .ca cf0 <| .mu 2 <| .done <| .ret ?_
 obtain rfl := oi hr
 exact FinQ.r1 [aB (decide (v1 ≥ 0))]

theorem predicate_inRange_ok (n : Nat) (l : List Int) (r : Bool) (hr : predicate_inRange n l = some r) : FnOk Tryz.prog 119 [sI64 l] (aB r) := by
 unfold predicate_inRange at hr
 refine FnOk.bd fine Tryz.func119 [.tmp 2] ?_
 unfold Tryz.f119
 simp only [Option.getD_some]
 refine .seq <| .r4 fine [0] [] <| .seq ?_
 obtain ⟨v1, hc2, hr⟩ := bd hr
 refine .g1 fine (ok0 (slices_ContainsFunc_int_int_of_predicate_inRange_1_ok n l v1 hc2)) <| .mu 1 <| .ca cf0 <| .mu 2 <| .done <| .ret ?_
 obtain rfl := oi hr
 exact FinQ.r1 [aB (!v1)]

theorem predicate_Check_1_ok (n : Nat) (p : api_Pix) (r : Bool) (hr : predicate_Check_1 n p = some r) : FnOk Tryz.prog 118 [.agg (api_Pix.c p)] (aB r) := by
 unfold predicate_Check_1 at hr
 refine FnOk.bd fine Tryz.func118 [.tmp 2] ?_
 unfold Tryz.f118
 simp only [Option.getD_some]
 refine .seq <| .r2 fine 10 [(1, .hp 0 0)] [.own (api_Pix.c p)] <| .seq ?_
 obtain ⟨v1, hc2, hr⟩ := bd hr
 refine .gn fine (ca4 [.own (api_Pix.c p), .own (api_Pix.c p)] (callOk_val (args := [.hs 1 0 2 1]) (l := [1]) rfl (SnL.cons (Sn.hs rfl (.inl rfl) (SnC.cons (Sn.pure rfl) (SnC.cons (Sn.pure rfl) SnC.nil)) (fun h => nomatch h)) SnL.nil) (predicate_inRange_ok n [p.X, p.Y] v1 hc2))) <| .mu 5 <| .ca cf0 <| .mu 2 <| .done <| .ret ?_
 obtain rfl := oi hr
 exact FinQ.r1 [aB (!v1)]

theorem slices_IndexFunc_fiducial_api_Pix_fiducial_api_Pix_of_predicate_Check_1_ok (n : Nat) (s : List api_Pix) (r : Int) (hr : slices_IndexFunc_fiducial_api_Pix_fiducial_api_Pix_of_predicate_Check_1 n s = some r) : FnOk Tryz.prog 149 [slT api_Pix.c s, .fn 118 [] []] (aI64 r) := by
 unfold slices_IndexFunc_fiducial_api_Pix_fiducial_api_Pix_of_predicate_Check_1 at hr
 refine FnOk.bd fine Tryz.func149 [.tmp 4] ?_
 unfold Tryz.f149
 simp only [Option.getD_some]
 refine .seq <| .r4 fine [0, 1] [] <| .seq <| .seq <| .r4 fine [0, 1] [(7, aI64 (s.length : Int)), (8, aI64 0)] <| .block ?_
 replace hr := bd hr; obtain ⟨o13, hL14, hr⟩ := hr
 refine .loopO (σ := fun z0 => match z0 with | x_1 => ⟨mkS 19 0 [(0, slT api_Pix.c s), (1, .fn 118 [] []), (7, aI64 (s.length : Int)), (8, aI64 x_1)], []⟩) (Q := fun x st' => match (generalizing := false) o13 with | .inl _ => x = .exit 0 ∧ Wk 0 st' ⟨mkS 19 0 [], []⟩ | .inr (r0) => x = .ret ∧ FinQ Tryz.prog [.tmp 4] (aI64 r0) .ret st') hL14 ((Wk.gc [0, 1, 7, 8] [] rfl pK0).to (by kernel_rfl)) ?_ ?_
 ·clear hr
  rintro m x_1 hr
  show CQ _ _ _ _ _ ⟨_, _⟩
  refine .seq <| .r4 fine [0, 1, 7, 8] [(9, aB (decide (x_1 < (s.length : Int))))] <| .seq ?_
  refine .cd hr (fun hb8 hr => ?_) (fun hb8 hr => ?_)
  ·refine .skip <| .seq <| .block <| .seq <| .r4 fine [0, 1, 7, 8] [(5, aI64 x_1)] <| .seq ?_
   obtain ⟨hg9, hr⟩ := gd hr
   obtain ⟨v10, hc11, hr⟩ := bd hr
   refine .g1 fine (ok0 (predicate_Check_1_ok n (gt s x_1) v10 hc11)) <| .mu 3 <| .p0 (v := .pp (s.flatMap api_Pix.c) (x_1.toNat * 2)) (tr (ofP_guard hg9)) <| .p0 (v := .agg (api_Pix.c (gt s x_1))) (Eq.trans (b := ORes.ofP (guardV (decide (2 ≤ ((s.flatMap api_Pix.c).drop (x_1.toNat * 2)).length)) (.agg (((s.flatMap api_Pix.c).drop (x_1.toNat * 2)).take 2)))) (by kernel_rfl) (flat_load api_Pix.len (inR_lt hg9) (by decide) (by omega : x_1.toNat * 2 = x_1.toNat * 2 + 0) (by kernel_rfl))) <| .ca cf0 <| .done <| .nh [0, 1, 5, 7, 8, 16] [] ?_
   refine .cd hr (fun hb12 hr => ?_) (fun hb12 hr => ?_)
   ·refine .seq <| .ru fine <| .ret ?_
    obtain rfl := oi hr
    exact ⟨rfl, FinQ.ret (vs := [aI64 x_1]) (by kernel_rfl) (Sn.pure rfl)⟩
   ·refine .skip <| .pop <| .ru fine ?_
    exact loopF_back (wrapF .i64 (x_1 + 1)) hr ((Wk.gc [0, 1, 7, 8] [] rfl pK0).to (by kernel_rfl))
  ·refine .leave rfl ?_
   obtain rfl := oi hr
   exact ⟨rfl, ((Wk.gc [] [] rfl pK0).to (by kernel_rfl))⟩
 ·rcases o13 with ⟨⟩ | r0
  ·rintro x st' hq15
   clear hL14
   obtain ⟨rfl, hq15⟩ := hq15
   refine CQ_exit _ rfl <| .wk hq15 <| .seq <| .ru fine <| .ret ?_
   obtain rfl := oi hr
   exact FinQ.r1 [aI64 (-1)]
  ·rintro x st' hq15
   clear hL14
   obtain ⟨rfl, hq15⟩ := hq15
   obtain rfl := oi hr
   exact CQ_ret _ hq15

theorem slices_ContainsFunc_fiducial_api_Pix_fiducial_api_Pix_of_predicate_Check_1_ok (n : Nat) (s : List api_Pix) (r : Bool) (hr : slices_ContainsFunc_fiducial_api_Pix_fiducial_api_Pix_of_predicate_Check_1 n s = some r) : FnOk Tryz.prog 117 [slT api_Pix.c s, .fn 118 [] []] (aB r) := by
 unfold slices_ContainsFunc_fiducial_api_Pix_fiducial_api_Pix_of_predicate_Check_1 at hr
 refine FnOk.bd fine Tryz.func117 [.tmp 4] ?_
 unfold Tryz.f117
 simp only [Option.getD_some]
 refine .seq <| .r4 fine [0, 1] [] <| .seq ?_
 obtain ⟨v1, hc2, hr⟩ := bd hr
 refine .g1 fine (ok0 (slices_IndexFunc_fiducial_api_Pix_fiducial_api_Pix_of_predicate_Check_1_ok n s v1 hc2)) <| .mu 2 <| .ca cf0 <| .mu 2 <| .done <| .ret ?_
 obtain rfl := oi hr
 exact FinQ.r1 [aB (decide (v1 ≥ 0))]

theorem predicate_Check_ok (n : Nat) (l : List api_Pix) (r : Int) (hr : predicate_Check n l = some r) : FnOk Tryz.prog 68 [slT api_Pix.c l] (aI64 r) := by
 unfold predicate_Check at hr
 refine FnOk.bd fine Tryz.func68 [.tmp 2] ?_
 unfold Tryz.f68
 simp only [Option.getD_some]
 refine .seq <| .r4 fine [0] [] <| .seq <| .seq ?_
 obtain ⟨v1, hc2, hr⟩ := bd hr
 refine .g1 fine (ok0 (slices_ContainsFunc_fiducial_api_Pix_fiducial_api_Pix_of_predicate_Check_1_ok n l v1 hc2)) <| .mu 1 <| .ca cf0 <| .done <| .nh [4] [] ?_
 refine .cd hr (fun hb3 hr => ?_) (fun hb3 hr => ?_)
 ·refine .seq <| .ru fine <| .ret ?_
  obtain rfl := oi hr
  exact FinQ.r1 [aI64 2]
 ·refine .skip <| .seq <| .ru fine <| .ret ?_
  obtain rfl := oi hr
  exact FinQ.r1 [aI64 0]

theorem predicate_cross_inj {a : api_Pix} {b : api_Pix} {c : api_Pix} {a_ : api_Pix} {b_ : api_Pix} {c_ : api_Pix} (h : ([.agg [.at (.int .i64 a.X), .at (.int .i64 a.Y)], .agg [.at (.int .i64 b.X), .at (.int .i64 b.Y)], .agg [.at (.int .i64 c.X), .at (.int .i64 c.Y)]] : List AV) = [.agg [.at (.int .i64 a_.X), .at (.int .i64 a_.Y)], .agg [.at (.int .i64 b_.X), .at (.int .i64 b_.Y)], .agg [.at (.int .i64 c_.X), .at (.int .i64 c_.Y)]]) : a = a_ ∧ b = b_ ∧ c = c_ := by
 obtain ⟨_, _⟩ := a
 obtain ⟨_, _⟩ := a_
 obtain ⟨_, _⟩ := b
 obtain ⟨_, _⟩ := b_
 obtain ⟨_, _⟩ := c
 obtain ⟨_, _⟩ := c_
 simp only [List.cons.injEq, AV.agg.injEq, AV.at.injEq, Value.int.injEq, Value.bool.injEq, AV.fn.injEq, AV.pp.injEq, true_and, and_true] at h
 simp_all
theorem predicate_cross_cg (n : Nat) {a : api_Pix} {b : api_Pix} {c : api_Pix} {a_ : api_Pix} {b_ : api_Pix} {c_ : api_Pix} (h : ([.agg [.at (.int .i64 a.X), .at (.int .i64 a.Y)], .agg [.at (.int .i64 b.X), .at (.int .i64 b.Y)], .agg [.at (.int .i64 c.X), .at (.int .i64 c.Y)]] : List AV) = [.agg [.at (.int .i64 a_.X), .at (.int .i64 a_.Y)], .agg [.at (.int .i64 b_.X), .at (.int .i64 b_.Y)], .agg [.at (.int .i64 c_.X), .at (.int .i64 c_.Y)]]) : predicate_cross n a b c = predicate_cross n a_ b_ c_ := by
 obtain ⟨rfl, rfl, rfl⟩ := predicate_cross_inj h
 rfl
theorem predicate_cross_ok (n : Nat) (a : api_Pix) (b : api_Pix) (c : api_Pix) (r : Int) (hr : predicate_cross n a b c = some r) : FnOk Tryz.prog 76 [.agg (api_Pix.c a), .agg (api_Pix.c b), .agg (api_Pix.c c)] (aI64 r) := by
 unfold predicate_cross at hr
 refine FnOk.bd fine Tryz.func76 [.tmp 6] ?_
 unfold Tryz.f76
 simp only [Option.getD_some]
 refine .seq <| .r2 fine 30 [(3, .hp 0 0), (4, .hp 1 0), (5, .hp 2 0)] [.own (api_Pix.c a), .own (api_Pix.c b), .own (api_Pix.c c)] <| .seq <| .ru fine <| .ret ?_
 obtain rfl := oi hr
 exact FinQ.r1 [aI64 (wrapF .i64 ((wrapF .i64 ((wrapF .i64 (b.X - a.X)) * (wrapF .i64 (c.Y - a.Y)))) - (wrapF .i64 ((wrapF .i64 (b.Y - a.Y)) * (wrapF .i64 (c.X - a.X))))))]

theorem predicate_dot_ok (n : Nat) (a : api_Pix) (b : api_Pix) (c : api_Pix) (r : Int) (hr : predicate_dot n a b c = some r) : FnOk Tryz.prog 115 [.agg (api_Pix.c a), .agg (api_Pix.c b), .agg (api_Pix.c c)] (aI64 r) := by
 unfold predicate_dot at hr
 refine FnOk.bd fine Tryz.func115 [.tmp 6] ?_
 unfold Tryz.f115
 simp only [Option.getD_some]
 refine .seq <| .r2 fine 30 [(3, .hp 0 0), (4, .hp 1 0), (5, .hp 2 0)] [.own (api_Pix.c a), .own (api_Pix.c b), .own (api_Pix.c c)] <| .seq <| .ru fine <| .ret ?_
 obtain rfl := oi hr
 exact FinQ.r1 [aI64 (wrapF .i64 ((wrapF .i64 ((wrapF .i64 (b.X - a.X)) * (wrapF .i64 (c.X - a.X)))) + (wrapF .i64 ((wrapF .i64 (b.Y - a.Y)) * (wrapF .i64 (c.Y - a.Y))))))]

theorem predicate_on_ok (n : Nat) (a : api_Pix) (b : api_Pix) (c : api_Pix) (r : Bool) (hr : predicate_on n a b c = some r) : FnOk Tryz.prog 106 [.agg (api_Pix.c a), .agg (api_Pix.c b), .agg (api_Pix.c c)] (aB r) := by
 unfold predicate_on at hr
 refine FnOk.bd fine Tryz.func106 [.tmp 6] ?_
 unfold Tryz.f106
 simp only [Option.getD_some]
 refine .seq <| .r2 fine 19 [(3, .hp 0 0), (4, .hp 1 0), (5, .hp 2 0)] [.own (api_Pix.c a), .own (api_Pix.c b), .own (api_Pix.c c)] <| .seq ?_
 obtain ⟨v1, hc2, hr⟩ := bd hr
 rcases Bool.eq_false_or_eq_true ((v1 : Int) == 0) with hb3 | hb3
 ·replace hr := cd_t hb3 hr
  obtain ⟨v4, hc5, hr⟩ := bd hr
  refine .gn fine (ca1 (ok0 (predicate_cross_ok n a b c v1 hc2)) (ca3 (ok0 (predicate_dot_ok n c a b v4 hc5)))) <| .mu 3 <| .ca cf0 <| .p0 (v := aB true) (eB hb3) <| .mu 4 <| .ca (cfF cf0) <| .mu 3 <| .done <| .ret ?_
  obtain rfl := oi hr
  exact FinQ.r1 [aB (decide (v4 ≤ 0))]
 ·replace hr := cd_f hb3 hr
  refine .g1 fine (ok0 (predicate_cross_ok n a b c v1 hc2)) <| .mu 3 <| .ca cf0 <| .p0 (v := aB false) (eB hb3) <| .mu 8 <| .done <| .ret ?_
  obtain rfl := oi hr
  exact FinQ.r1 [aB false]

theorem slices_Index_fiducial_api_Pix_fiducial_api_Pix_ok (n : Nat) (s : List api_Pix) (v : api_Pix) (r : Int) (hr : slices_Index_fiducial_api_Pix_fiducial_api_Pix n s v = some r) : FnOk Tryz.prog 144 [slT api_Pix.c s, .agg (api_Pix.c v)] (aI64 r) := by
 unfold slices_Index_fiducial_api_Pix_fiducial_api_Pix at hr
 refine FnOk.bd fine Tryz.func144 [.tmp 4] ?_
 unfold Tryz.f144
 simp only [Option.getD_some]
 refine .seq <| .r5 fine [0] [(3, .hp 0 0)] [.own (api_Pix.c v)] <| .seq <| .seq <| .r4 fine [0, 3] [(7, aI64 (s.length : Int)), (8, aI64 0)] <| .block ?_
 replace hr := bd hr; obtain ⟨o9, hL10, hr⟩ := hr
 refine .loopO (σ := fun z0 => match z0 with | x_1 => ⟨mkS 19 0 [(0, slT api_Pix.c s), (3, .hp 0 0), (7, aI64 (s.length : Int)), (8, aI64 x_1)], [.own (api_Pix.c v)]⟩) (Q := fun x st' => match (generalizing := false) o9 with | .inl _ => x = .exit 0 ∧ Wk 0 st' ⟨mkS 19 0 [], []⟩ | .inr (r0) => x = .ret ∧ FinQ Tryz.prog [.tmp 4] (aI64 r0) .ret st') hL10 ((Wk.gc [0, 3, 7, 8] [(0, true)] rfl trivial).to (by kernel_rfl)) ?_ ?_
 ·clear hr
  rintro m x_1 hr
  show CQ _ _ _ _ _ ⟨_, _⟩
  refine .seq <| .r4 fine [0, 3, 7, 8] [(9, aB (decide (x_1 < (s.length : Int))))] <| .seq ?_
  refine .cd hr (fun hb6 hr => ?_) (fun hb6 hr => ?_)
  ·refine .skip <| .seq <| .block <| .seq <| .r4 fine [0, 3, 7, 8] [(5, aI64 x_1)] <| .seq ?_
   obtain ⟨hg7, hr⟩ := gd hr
   refine .regionT fine callOf_nil <| .mu 3 <| .pure (v := .pp (s.flatMap api_Pix.c) (x_1.toNat * 2)) (by kernel_rfl) (tr (ofP_guard hg7)) (by kernel_rfl) <| .pure (v := .agg (api_Pix.c (gt s x_1))) (by kernel_rfl) (Eq.trans (b := ORes.ofP (guardV (decide (2 ≤ ((s.flatMap api_Pix.c).drop (x_1.toNat * 2)).length)) (.agg (((s.flatMap api_Pix.c).drop (x_1.toNat * 2)).take 2)))) (by kernel_rfl) (flat_load api_Pix.len (inR_lt hg7) (by decide) (by omega : x_1.toNat * 2 = x_1.toNat * 2 + 0) (by kernel_rfl))) (by kernel_rfl) <| .mu 1 ?_
   refine .done ⟨by kernel_rfl, ?_⟩
   refine .nh [0, 3, 5, 7, 8, 16] [.own (api_Pix.c v)] ?_
   refine .cd hr (fun hb8 hr => ?_) (fun hb8 hr => ?_)
   ·refine .seq <| .ru fine <| .ret ?_
    obtain rfl := oi hr
    exact ⟨rfl, FinQ.ret (vs := [aI64 x_1]) (by kernel_rfl) (Sn.pure rfl)⟩
   ·refine .skip <| .pop <| .ru fine ?_
    exact loopF_back (wrapF .i64 (x_1 + 1)) hr ((Wk.gc [0, 3, 7, 8] [(0, true)] rfl trivial).to (by kernel_rfl))
  ·refine .leave rfl ?_
   obtain rfl := oi hr
   exact ⟨rfl, ((Wk.gc [] [] rfl pK0).to (by kernel_rfl))⟩
 ·rcases o9 with ⟨⟩ | r0
  ·rintro x st' hq11
   clear hL10
   obtain ⟨rfl, hq11⟩ := hq11
   refine CQ_exit _ rfl <| .wk hq11 <| .seq <| .ru fine <| .ret ?_
   obtain rfl := oi hr
   exact FinQ.r1 [aI64 (-1)]
  ·rintro x st' hq11
   clear hL10
   obtain ⟨rfl, hq11⟩ := hq11
   obtain rfl := oi hr
   exact CQ_ret _ hq11

theorem slices_Contains_fiducial_api_Pix_fiducial_api_Pix_ok (n : Nat) (s : List api_Pix) (v : api_Pix) (r : Bool) (hr : slices_Contains_fiducial_api_Pix_fiducial_api_Pix n s v = some r) : FnOk Tryz.prog 105 [slT api_Pix.c s, .agg (api_Pix.c v)] (aB r) := by
 unfold slices_Contains_fiducial_api_Pix_fiducial_api_Pix at hr
 refine FnOk.bd fine Tryz.func105 [.tmp 4] ?_
 unfold Tryz.f105
 simp only [Option.getD_some]
 refine .seq <| .r5 fine [0] [(3, .hp 0 0)] [.own (api_Pix.c v)] <| .seq ?_
 obtain ⟨v1, hc2, hr⟩ := bd hr
 refine .g1 fine (ok0 (slices_Index_fiducial_api_Pix_fiducial_api_Pix_ok n s v v1 hc2)) <| .mu 2 <| .ca cf0 <| .mu 2 <| .done <| .ret ?_
 obtain rfl := oi hr
 exact FinQ.r1 [aB (decide (v1 ≥ 0))]

theorem predicate_Relate_1_w_ok (n : Nat) (p : api_Pix) (lies : Bool) (p' : List api_Pix) (r : List api_Pix) (hr : predicate_Relate_1_w n p lies p' = some r) : FnMut 1 Tryz.prog 104 [.agg (api_Pix.c p), aB lies, .hp 0 0] [.own [.hs 1 0 p'.length 2], .own (p'.flatMap api_Pix.c)] (.tup []) [.own [.hs 1 0 r.length 2], .own (r.flatMap api_Pix.c)] := by
 unfold predicate_Relate_1_w at hr
 refine FnMut.bodyW fine Tryz.func104 (c := (Tryz.f104.body).getD .skip) rfl (us := []) (s := mkS 16 0 [(0, .agg (api_Pix.c p)), (1, aB lies), (2, .hp 0 0)]) (by kernel_rfl) (rs := []) rfl ?_
 unfold Tryz.f104
 simp only [Option.getD_some]
 refine .seq <| .r5 fine [1, 2] [(3, .hp 2 0)] [.own [.hs 1 0 p'.length 2], .own (p'.flatMap api_Pix.c), .own (api_Pix.c p)] <| .seq ?_
 rcases Bool.eq_false_or_eq_true lies with hb8 | hb8
 ·replace hr := cd_t hb8 hr
  obtain ⟨v9, hc10, hr⟩ := bd hr
  refine .g1 fine (callOk_val (args := [.hs 1 0 p'.length 2, .agg (api_Pix.c p)]) (l := [1]) rfl (SnL.cons (Sn.hs rfl (.inl rfl) (SnC.pure (ids_flat api_Pix.pure _)) (fun h => flat_nil0 h)) (SnL.cons (Sn.pure rfl) SnL.nil)) (slices_Contains_fiducial_api_Pix_fiducial_api_Pix_ok n p' p v9 hc10)) <| .p0 (v := aB true) (eB hb8) <| .mu 3 <| .ca cf0 <| .mu 2 <| .done <| .nh [2, 3, 11] [.own [.hs 1 0 p'.length 2], .own (p'.flatMap api_Pix.c), .own (api_Pix.c p)] ?_
  refine .cd hr (fun hb11 hr => ?_) (fun hb11 hr => ?_)
  ·obtain ⟨hg12, hg13, hr⟩ := gd2 hr
   refine .r0 fine <| .mu 3 <| .e0 (v := .hs 4 0 (p' ++ [p]).length 2) (ws := [(1, .dead), (4, .own ((p' ++ [p]).flatMap api_Pix.c))]) (tr (app_own (new := (api_Pix.c p)) (l := p') (xs := [p]) api_Pix.len rfl rfl (by kernel_rfl) hg12 hg13)) <| .mu 1 <| .done ?_
   obtain rfl := oi hr
   exact FinMW.normal [] ((Wk.gc [] [(0, true), (4, false)] rfl (pKt (pKo api_Pix.c api_Pix.pure (p' ++ [p]) trivial))).to (by kernel_rfl))
  ·refine .skip ?_
   obtain rfl := oi hr
   exact FinMW.normal [] ((Wk.gc [] [(0, true), (1, false)] rfl (pKt (pKo api_Pix.c api_Pix.pure p' trivial))).to (by kernel_rfl))
 ·replace hr := cd_f hb8 hr
  refine .r0 fine <| .p0 (v := aB false) (eB hb8) <| .mu 6 <| .done <| .nh [2, 3, 11] [.own [.hs 1 0 p'.length 2], .own (p'.flatMap api_Pix.c), .own (api_Pix.c p)] <| .cF (by kernel_rfl) <| .skip ?_
  obtain rfl := oi hr
  exact FinMW.normal [] ((Wk.gc [] [(0, true), (1, false)] rfl (pKt (pKo api_Pix.c api_Pix.pure p' trivial))).to (by kernel_rfl))

theorem cmp_isNaN_int_ok [Dr] (n : Nat) (x' : Int) (r : Bool) (hr : cmp_isNaN_int n x' = some r) : FnOk Tryz.prog 122 [aI64 x'] (aB r) := by
 unfold cmp_isNaN_int at hr
 refine FnOk.bd fine Tryz.func122 [.tmp 2] ?_
 unfold Tryz.f122
 simp only [Option.getD_some]
 refine .seq <| .r4 fine [0] [] <| .seq <| .ru fine <| .ret ?_
 obtain rfl := oi hr
 exact FinQ.r1 [aB ((x' : Int) != x')]

theorem cmp_Compare_int_inj {x' : Int} {y : Int} {x'_ : Int} {y_ : Int} (h : ([.at (.int .i64 x'), .at (.int .i64 y)] : List AV) = [.at (.int .i64 x'_), .at (.int .i64 y_)]) : x' = x'_ ∧ y = y_ := by
 simp only [List.cons.injEq, AV.agg.injEq, AV.at.injEq, Value.int.injEq, Value.bool.injEq, AV.fn.injEq, AV.pp.injEq, true_and, and_true] at h
 simp_all
theorem cmp_Compare_int_cg (n : Nat) {x' : Int} {y : Int} {x'_ : Int} {y_ : Int} (h : ([.at (.int .i64 x'), .at (.int .i64 y)] : List AV) = [.at (.int .i64 x'_), .at (.int .i64 y_)]) : cmp_Compare_int n x' y = cmp_Compare_int n x'_ y_ := by
 obtain ⟨rfl, rfl⟩ := cmp_Compare_int_inj h
 rfl
theorem cmp_Compare_int_ok [Dr] (n : Nat) (x' : Int) (y : Int) (r : Int) (hr : cmp_Compare_int n x' y = some r) : FnOk Tryz.prog 72 [aI64 x', aI64 y] (aI64 r) := by
 unfold cmp_Compare_int at hr
 refine FnOk.bd fine Tryz.func72 [.tmp 4] ?_
 unfold Tryz.f72
 simp only [Option.getD_some]
 refine .seq <| .r4 fine [0, 1] [] <| .seq ?_
 obtain ⟨v1, hc2, hr⟩ := bd hr
 refine .g1 fine (ok0 (cmp_isNaN_int_ok n x' v1 hc2)) <| .mu 1 <| .ca cf0 <| .mu 1 <| .done <| .nh [0, 1, 5] [] <| .seq ?_
 obtain ⟨v3, hc4, hr⟩ := bd hr
 refine .g1 fine (ok0 (cmp_isNaN_int_ok n y v3 hc4)) <| .mu 1 <| .ca cf0 <| .mu 1 <| .done <| .nh [0, 1, 5, 6] [] <| .seq <| .seq <| .r4 fine [0, 1, 6] [(11, aB v1)] ?_
 refine .cd hr (fun hb5 hr => ?_) (fun hb5 hr => ?_)
 ·refine .seq <| .seq <| .r3 fine 20 [(12, aB v3)] ?_
  refine .cd hr (fun hb6 hr => ?_) (fun hb6 hr => ?_)
  ·refine .seq <| .ru fine <| .ret ?_
   obtain rfl := oi hr
   exact FinQ.r1 [aI64 0]
  ·refine .skip <| .seq <| .ru fine <| .ret ?_
   obtain rfl := oi hr
   exact FinQ.r1 [aI64 (-1)]
 ·refine .skip <| .seq <| .seq <| .r4 fine [0, 1] [(13, aB v3)] ?_
  refine .cd hr (fun hb7 hr => ?_) (fun hb7 hr => ?_)
  ·refine .seq <| .ru fine <| .ret ?_
   obtain rfl := oi hr
   exact FinQ.r1 [aI64 1]
  ·refine .skip <| .seq <| .seq <| .r4 fine [0, 1] [(16, aB (decide (x' < y)))] ?_
   refine .cd hr (fun hb8 hr => ?_) (fun hb8 hr => ?_)
   ·refine .seq <| .ru fine <| .ret ?_
    obtain rfl := oi hr
    exact FinQ.r1 [aI64 (-1)]
   ·refine .skip <| .seq <| .seq <| .r3 fine 20 [(19, aB (decide (x' > y)))] ?_
    refine .cd hr (fun hb9 hr => ?_) (fun hb9 hr => ?_)
    ·refine .seq <| .ru fine <| .ret ?_
     obtain rfl := oi hr
     exact FinQ.r1 [aI64 1]
    ·refine .skip <| .seq <| .ru fine <| .ret ?_
     obtain rfl := oi hr
     exact FinQ.r1 [aI64 0]

theorem predicate_sign_inj {n' : Int} {n'_ : Int} (h : ([.at (.int .i64 n')] : List AV) = [.at (.int .i64 n'_)]) : n' = n'_ := by
 simp only [List.cons.injEq, AV.agg.injEq, AV.at.injEq, Value.int.injEq, Value.bool.injEq, AV.fn.injEq, AV.pp.injEq, true_and, and_true] at h
 simp_all
theorem predicate_sign_cg (n : Nat) {n' : Int} {n'_ : Int} (h : ([.at (.int .i64 n')] : List AV) = [.at (.int .i64 n'_)]) : predicate_sign n n' = predicate_sign n n'_ := by
 obtain rfl := predicate_sign_inj h
 rfl
theorem predicate_sign_ok (n : Nat) (n' : Int) (r : Int) (hr : predicate_sign n n' = some r) : FnOk Tryz.prog 107 [aI64 n'] (aI64 r) := by
 unfold predicate_sign at hr
 refine FnOk.bd fine Tryz.func107 [.tmp 2] ?_
 unfold Tryz.f107
 simp only [Option.getD_some]
 refine .seq <| .r4 fine [0] [] <| .seq ?_
 obtain ⟨v1, hc2, hr⟩ := bd hr
 refine .g1 fine (ok0 (cmp_Compare_int_ok n n' 0 v1 hc2)) <| .mu 1 <| .ca cf0 <| .mu 1 <| .done <| .ret ?_
 obtain rfl := oi hr
 exact FinQ.r1 [aI64 v1]

theorem predicate_Relate_ok (n : Nat) (a : api_Pix) (b : api_Pix) (c : api_Pix) (d : api_Pix) (r : Int × Int) (hr : predicate_Relate n a b c d = some r) : FnOk Tryz.prog 64 [.agg (api_Pix.c a), .agg (api_Pix.c b), .agg (api_Pix.c c), .agg (api_Pix.c d)] (.tup [aI64 r.1, aI64 r.2]) := by
 unfold predicate_Relate at hr
 refine FnOk.bd fine Tryz.func64 [.tmp 8, .tmp 9] ?_
 unfold Tryz.f64
 simp only [Option.getD_some]
 refine .seq <| .r2 fine 83 [(4, .hp 0 0), (5, .hp 1 0), (6, .hp 2 0), (7, .hp 3 0)] [.own (api_Pix.c a), .own (api_Pix.c b), .own (api_Pix.c c), .own (api_Pix.c d)] <| .seq <| .seq ?_
 obtain ⟨v1, hc2, hr⟩ := bd hr
 refine .gn fine (ca4 [.own (api_Pix.c a), .own (api_Pix.c b), .own (api_Pix.c c), .own (api_Pix.c d), .own [aI64 a.X, aI64 a.Y, aI64 b.X, aI64 b.Y, aI64 c.X, aI64 c.Y, aI64 d.X, aI64 d.Y]] (callOk_val (args := [.hs 4 0 4 2]) (l := [4]) rfl (SnL.cons (Sn.hs rfl (.inl rfl) (SnC.cons (Sn.pure rfl) (SnC.cons (Sn.pure rfl) (SnC.cons (Sn.pure rfl) (SnC.cons (Sn.pure rfl) (SnC.cons (Sn.pure rfl) (SnC.cons (Sn.pure rfl) (SnC.cons (Sn.pure rfl) (SnC.cons (Sn.pure rfl) SnC.nil)))))))) (fun h => nomatch h)) SnL.nil) (predicate_Check_ok n [a, b, c, d] v1 hc2))) <| .mu 5 <| .ca cf0 <| .mu 1 <| .done <| .nh [4, 5, 6, 7, 10] [.own (api_Pix.c a), .own (api_Pix.c b), .own (api_Pix.c c), .own (api_Pix.c d), .own [aI64 a.X, aI64 a.Y, aI64 b.X, aI64 b.Y, aI64 c.X, aI64 c.Y, aI64 d.X, aI64 d.Y]] <| .seq <| .r4 fine [4, 5, 6, 7, 10] [(20, aB ((v1 : Int) != 0))] ?_
 refine .cd hr (fun hb3 hr => ?_) (fun hb3 hr => ?_)
 ·refine .seq <| .ru fine <| .ret ?_
  obtain rfl := oi hr
  exact FinQ.ret (vs := [aI64 0, aI64 v1]) (by kernel_rfl) (Sn.tup (SnL.cons (Sn.pure rfl) (SnL.cons (Sn.pure rfl) SnL.nil)))
 ·refine .skip <| .seq <| .r5 fine [4, 5, 6, 7] [(11, .hp 5 0)] [.own (api_Pix.c a), .own (api_Pix.c b), .own (api_Pix.c c), .own (api_Pix.c d), .own [aI64 a.X, aI64 a.Y, aI64 b.X, aI64 b.Y, aI64 c.X, aI64 c.Y, aI64 d.X, aI64 d.Y], .own [nS]] <| .seq <| .r4 fine [4, 5, 6, 7, 11] [(12, .fn 104 [] [.hp 5 0])] <| .seq <| .wk ((Wk.nilcell 5 0 2 (cs := [nS]) (by kernel_rfl) (by kernel_rfl)).to (c := ⟨mkS 83 0 [(4, .hp 0 0), (5, .hp 1 0), (6, .hp 2 0), (7, .hp 3 0), (11, .hp 5 0), (12, .fn 104 [] [.hp 5 0])], [.own (api_Pix.c a), .own (api_Pix.c b), .own (api_Pix.c c), .own (api_Pix.c d), .own [aI64 a.X, aI64 a.Y, aI64 b.X, aI64 b.Y, aI64 c.X, aI64 c.Y, aI64 d.X, aI64 d.Y], .own [.hs 6 0 ([] : List api_Pix).length 2], .own (([] : List api_Pix).flatMap api_Pix.c)]⟩) (by kernel_rfl)) ?_
  obtain ⟨v4, hc5, v6, hc7, hr⟩ := bd2 hr
  refine .tn fine (ca1 (ok0 (predicate_on_ok n c d a v4 hc5)) (ca3 (callOk_mutU (args := [.agg (api_Pix.c a), aB v4, .hp 5 0]) 1 1 [(5, true), (6, false)] [true, false] (predicate_Relate_1_w_ok n a v4 ([] : List api_Pix) v6 hc7) (by exact ⟨ids_flat api_Pix.pure _, trivial⟩) (by exact ⟨ids_flat api_Pix.pure _, trivial⟩) rfl rfl (by kernel_rfl) (by kernel_rfl)))) <| .mu 5 <| .ca cf0 <| .ca (cfF cf0) ?_
  refine .done ⟨by kernel_rfl, ?_⟩
  refine .nh [4, 5, 6, 7, 11, 12] [.own (api_Pix.c a), .own (api_Pix.c b), .own (api_Pix.c c), .own (api_Pix.c d), .own [aI64 a.X, aI64 a.Y, aI64 b.X, aI64 b.Y, aI64 c.X, aI64 c.Y, aI64 d.X, aI64 d.Y], .own [.hs 7 0 v6.length 2], .dead, .own (v6.flatMap api_Pix.c)] <| .seq ?_
  obtain ⟨v8, hc9, v10, hc11, hr⟩ := bd2 hr
  refine .tn fine (ca1 (ok0 (predicate_on_ok n c d b v8 hc9)) (ca3 (callOk_mutU (args := [.agg (api_Pix.c b), aB v8, .hp 5 0]) 1 1 [(5, true), (7, false)] [true, false] (predicate_Relate_1_w_ok n b v8 v6 v10 hc11) (by exact ⟨ids_flat api_Pix.pure _, trivial⟩) (by exact ⟨ids_flat api_Pix.pure _, trivial⟩) rfl rfl (by kernel_rfl) (by kernel_rfl)))) <| .mu 5 <| .ca cf0 <| .ca (cfF cf0) ?_
  refine .done ⟨by kernel_rfl, ?_⟩
  refine .nh [4, 5, 6, 7, 11, 12] [.own (api_Pix.c a), .own (api_Pix.c b), .own (api_Pix.c c), .own (api_Pix.c d), .own [aI64 a.X, aI64 a.Y, aI64 b.X, aI64 b.Y, aI64 c.X, aI64 c.Y, aI64 d.X, aI64 d.Y], .own [.hs 8 0 v10.length 2], .dead, .dead, .own (v10.flatMap api_Pix.c)] <| .seq ?_
  obtain ⟨v12, hc13, v14, hc15, hr⟩ := bd2 hr
  refine .tn fine (ca1 (ok0 (predicate_on_ok n a b c v12 hc13)) (ca3 (callOk_mutU (args := [.agg (api_Pix.c c), aB v12, .hp 5 0]) 1 1 [(5, true), (8, false)] [true, false] (predicate_Relate_1_w_ok n c v12 v10 v14 hc15) (by exact ⟨ids_flat api_Pix.pure _, trivial⟩) (by exact ⟨ids_flat api_Pix.pure _, trivial⟩) rfl rfl (by kernel_rfl) (by kernel_rfl)))) <| .mu 5 <| .ca cf0 <| .ca (cfF cf0) ?_
  refine .done ⟨by kernel_rfl, ?_⟩
  refine .nh [4, 5, 6, 7, 11, 12] [.own (api_Pix.c a), .own (api_Pix.c b), .own (api_Pix.c c), .own (api_Pix.c d), .own [aI64 a.X, aI64 a.Y, aI64 b.X, aI64 b.Y, aI64 c.X, aI64 c.Y, aI64 d.X, aI64 d.Y], .own [.hs 9 0 v14.length 2], .dead, .dead, .dead, .own (v14.flatMap api_Pix.c)] <| .seq ?_
  obtain ⟨v16, hc17, v18, hc19, hr⟩ := bd2 hr
  refine .tn fine (ca1 (ok0 (predicate_on_ok n a b d v16 hc17)) (ca3 (callOk_mutU (args := [.agg (api_Pix.c d), aB v16, .hp 5 0]) 1 1 [(5, true), (9, false)] [true, false] (predicate_Relate_1_w_ok n d v16 v14 v18 hc19) (by exact ⟨ids_flat api_Pix.pure _, trivial⟩) (by exact ⟨ids_flat api_Pix.pure _, trivial⟩) rfl rfl (by kernel_rfl) (by kernel_rfl)))) <| .mu 5 <| .ca cf0 <| .ca (cfF cf0) ?_
  refine .done ⟨by kernel_rfl, ?_⟩
  refine .nh [4, 5, 6, 7, 11] [.own (api_Pix.c a), .own (api_Pix.c b), .own (api_Pix.c c), .own (api_Pix.c d), .own [aI64 a.X, aI64 a.Y, aI64 b.X, aI64 b.Y, aI64 c.X, aI64 c.Y, aI64 d.X, aI64 d.Y], .own [.hs 10 0 v18.length 2], .dead, .dead, .dead, .dead, .own (v18.flatMap api_Pix.c)] <| .seq <| .seq <| .r4 fine [4, 5, 6, 7] [(52, aI64 (v18.length : Int))] <| .block <| .seq <| .r4 fine [4, 5, 6, 7, 52] [(53, aB (((v18.length : Int) : Int) == 0))] ?_
  refine .cd hr (fun hb20 hr => ?_) (fun hb20 hr => ?_)
  ·refine .seq <| .seq ?_
   obtain ⟨v21, hc22, v23, hc24, v25, hc26, hr⟩ := bd3 hr
   obtain ⟨v27, hc28, hr⟩ := bd hr
   rcases Bool.eq_false_or_eq_true (decide ((wrapF .i64 (v23 * v27)) < 0)) with hb29 | hb29
   ·replace hr := cd_t hb29 hr
    obtain ⟨v30, hc31, v32, hc33, v34, hc35, hr⟩ := bd3 hr
    obtain ⟨v36, hc37, hr⟩ := bd hr
    refine .tn fine (ca1 (ok0 (predicate_cross_ok n a b c v21 hc22)) (ca1 (ok0 (predicate_sign_ok n v21 v23 hc24)) (ca1 (ok0 (predicate_cross_ok n a b d v25 hc26)) (ca1 (ok0 (predicate_sign_ok n v25 v27 hc28)) (ca1 (ok0 (predicate_cross_ok n c d a v30 hc31)) (ca1 (ok0 (predicate_sign_ok n v30 v32 hc33)) (ca1 (ok0 (predicate_cross_ok n c d b v34 hc35)) (ca3 (ok0 (predicate_sign_ok n v34 v36 hc37)))))))))) <| .mu 3 <| .ca cf0 <| .ca (cfF cf0) <| .mu 3 <| .ca (cfA (fun h => by rw [sv hc26 hc22 (predicate_cross_cg n h)]) (cfF cf0)) <| .ca (cfF (cfA (fun h => by rw [sv hc28 hc24 (predicate_sign_cg n h)]) (cfF cf0))) <| .mu 1 <| .pure (v := aB true) (by kernel_rfl) (eB hb29) (by kernel_rfl) <| .mu 4 <| .ca (cfA (fun h => by rw [sv hc31 hc22 (predicate_cross_cg n h)]) (cfF (cfA (fun h => by rw [sv hc31 hc26 (predicate_cross_cg n h)]) (cfF cf0)))) <| .ca (cfF (cfA (fun h => by rw [sv hc33 hc24 (predicate_sign_cg n h)]) (cfF (cfA (fun h => by rw [sv hc33 hc28 (predicate_sign_cg n h)]) (cfF cf0))))) <| .mu 3 <| .ca (cfA (fun h => by rw [sv hc35 hc22 (predicate_cross_cg n h)]) (cfF (cfA (fun h => by rw [sv hc35 hc26 (predicate_cross_cg n h)]) (cfF (cfA (fun h => by rw [sv hc35 hc31 (predicate_cross_cg n h)]) (cfF cf0)))))) <| .ca (cfF (cfA (fun h => by rw [sv hc37 hc24 (predicate_sign_cg n h)]) (cfF (cfA (fun h => by rw [sv hc37 hc28 (predicate_sign_cg n h)]) (cfF (cfA (fun h => by rw [sv hc37 hc33 (predicate_sign_cg n h)]) (cfF cf0))))))) <| .mu 3 ?_
    refine .done ⟨by kernel_rfl, ?_⟩
    refine .nh [80] [.own (api_Pix.c a), .own (api_Pix.c b), .own (api_Pix.c c), .own (api_Pix.c d), .own [aI64 a.X, aI64 a.Y, aI64 b.X, aI64 b.Y, aI64 c.X, aI64 c.Y, aI64 d.X, aI64 d.Y], .own [.hs 10 0 v18.length 2], .dead, .dead, .dead, .dead, .own (v18.flatMap api_Pix.c)] ?_
    refine .cd hr (fun hb38 hr => ?_) (fun hb38 hr => ?_)
    ·refine .seq <| .ru fine <| .ret ?_
     obtain rfl := oi hr
     exact FinQ.ret (vs := [aI64 2, aI64 0]) (by kernel_rfl) (Sn.tup (SnL.cons (Sn.pure rfl) (SnL.cons (Sn.pure rfl) SnL.nil)))
    ·refine .skip <| .seq <| .ru fine <| .ret ?_
     obtain rfl := oi hr
     exact FinQ.ret (vs := [aI64 0, aI64 0]) (by kernel_rfl) (Sn.tup (SnL.cons (Sn.pure rfl) (SnL.cons (Sn.pure rfl) SnL.nil)))
   ·replace hr := cd_f hb29 hr
    refine .tn fine (ca1 (ok0 (predicate_cross_ok n a b c v21 hc22)) (ca1 (ok0 (predicate_sign_ok n v21 v23 hc24)) (ca1 (ok0 (predicate_cross_ok n a b d v25 hc26)) (ca3 (ok0 (predicate_sign_ok n v25 v27 hc28)))))) <| .mu 3 <| .ca cf0 <| .ca (cfF cf0) <| .mu 3 <| .ca (cfA (fun h => by rw [sv hc26 hc22 (predicate_cross_cg n h)]) (cfF cf0)) <| .ca (cfF (cfA (fun h => by rw [sv hc28 hc24 (predicate_sign_cg n h)]) (cfF cf0))) <| .mu 1 <| .pure (v := aB false) (by kernel_rfl) (eB hb29) (by kernel_rfl) <| .mu 14 ?_
    refine .done ⟨by kernel_rfl, ?_⟩
    refine .nh [80] [.own (api_Pix.c a), .own (api_Pix.c b), .own (api_Pix.c c), .own (api_Pix.c d), .own [aI64 a.X, aI64 a.Y, aI64 b.X, aI64 b.Y, aI64 c.X, aI64 c.Y, aI64 d.X, aI64 d.Y], .own [.hs 10 0 v18.length 2], .dead, .dead, .dead, .dead, .own (v18.flatMap api_Pix.c)] <| .cF (by kernel_rfl) <| .skip <| .seq <| .ru fine <| .ret ?_
    obtain rfl := oi hr
    exact FinQ.ret (vs := [aI64 0, aI64 0]) (by kernel_rfl) (Sn.tup (SnL.cons (Sn.pure rfl) (SnL.cons (Sn.pure rfl) SnL.nil)))
  ·refine .seq <| .r3 fine 83 [(81, aB (((v18.length : Int) : Int) == 1))] ?_
   refine .cd hr (fun hb39 hr => ?_) (fun hb39 hr => ?_)
   ·refine .seq <| .ru fine <| .ret ?_
    obtain rfl := oi hr
    exact FinQ.ret (vs := [aI64 1, aI64 0]) (by kernel_rfl) (Sn.tup (SnL.cons (Sn.pure rfl) (SnL.cons (Sn.pure rfl) SnL.nil)))
   ·refine .skip <| .pop <| .seq <| .ru fine <| .ret ?_
    obtain rfl := oi hr
    exact FinQ.ret (vs := [aI64 3, aI64 0]) (by kernel_rfl) (Sn.tup (SnL.cons (Sn.pure rfl) (SnL.cons (Sn.pure rfl) SnL.nil)))

theorem integer_split_inj {n' : Int} {n'_ : Int} (h : ([.at (.int .u64 n')] : List AV) = [.at (.int .u64 n'_)]) : n' = n'_ := by
 simp only [List.cons.injEq, AV.agg.injEq, AV.at.injEq, Value.int.injEq, Value.bool.injEq, AV.fn.injEq, AV.pp.injEq, true_and, and_true] at h
 simp_all
theorem integer_split_cg (n : Nat) {n' : Int} {n'_ : Int} (h : ([.at (.int .u64 n')] : List AV) = [.at (.int .u64 n'_)]) : integer_split n n' = integer_split n n'_ := by
 obtain rfl := integer_split_inj h
 rfl
theorem integer_split_ok (n : Nat) (n' : Int) (r : List Int) (hr : integer_split n n' = some r) : FnOk Tryz.prog 146 [aU64 n'] (sU32 r) := by
 unfold integer_split at hr
 refine FnOk.bd fine Tryz.func146 [.tmp 2] ?_
 unfold Tryz.f146
 simp only [Option.getD_some]
 refine .seq <| .r4 fine [0] [] <| .seq <| .r4 fine [0] [(3, nS)] <| .seq <| .block ?_
 replace hr := bd hr; obtain ⟨g_6, hL12, hr⟩ := hr
 refine .loopO (σ := fun z0 => match z0 with | (n_1, g_2) => ⟨mkS 15 0 [(0, aU64 n_1), (3, .hs 0 0 g_2.length 1)], [.own (g_2.flatMap (iC .u32))]⟩) (Q := fun x st' => x = .exit 0 ∧ Wk 0 st' ⟨mkS 15 0 [(3, .hs 0 0 g_6.length 1)], [.own (g_6.flatMap (iC .u32))]⟩) hL12 ((Wk.nil 3 1 (by kernel_rfl)).trans ((Wk.gc [0, 3] [(0, false)] rfl (pKc trivial)).to (by kernel_rfl))) ?_ ?_
 ·clear hr
  rintro m ⟨n_1, g_2⟩ hr
  show CQ _ _ _ _ _ ⟨_, _⟩
  refine .seq <| .seq <| .r4 fine [0, 3] [(5, aB (decide (n_1 > 0)))] ?_
  refine .cd hr (fun hb8 hr => ?_) (fun hb8 hr => ?_)
  ·refine .skip <| .seq <| .block ?_
   obtain ⟨hg9, hg10, hr⟩ := gd2 hr
   refine .r0 fine <| .mu 5 <| .e0 (v := .hs 2 0 (g_2 ++ [wrapF .u32 (n_1.tmod 1000000000)]).length 1) (ws := [(0, .dead), (2, .own ((g_2 ++ [wrapF .u32 (n_1.tmod 1000000000)]).flatMap (iC .u32)))]) (tr (app_own (new := [aU32 (wrapF .u32 (n_1.tmod 1000000000))]) (l := g_2) (xs := [wrapF .u32 (n_1.tmod 1000000000)]) (iC_len .u32) rfl rfl (by kernel_rfl) hg9 hg10)) <| .mu 1 <| .done <| .pop <| .ru fine ?_
   exact loopF_back (wrapF .u64 (n_1.tdiv 1000000000), g_2 ++ [wrapF .u32 (n_1.tmod 1000000000)]) hr ((Wk.gc [0, 3] [(2, false)] rfl (pKo (iC .u32) (iC_pure _) (g_2 ++ [wrapF .u32 (n_1.tmod 1000000000)]) trivial)).to (by kernel_rfl))
  ·refine .leave rfl ?_
   obtain rfl := oi hr
   exact ⟨rfl, ((Wk.gc [3] [(0, false)] rfl (pKo (iC .u32) (iC_pure _) g_2 trivial)).to (by kernel_rfl))⟩
 ·rintro x st' hq13
  clear hL12
  obtain ⟨rfl, hq13⟩ := hq13
  refine CQ_exit _ rfl <| .wk hq13 <| .seq <| .r3 fine 15 [(2, .hs 0 0 g_6.length 1)] <| .ret ?_
  obtain rfl := oi hr
  exact FinQ.ret (vs := [.hs 0 0 g_6.length 1]) (by kernel_rfl) (Sn.hs rfl (.inl rfl) (SnC.pure (ids_flat (iC_pure _) _)) (fun h => flat_nil0 h))

theorem integer_trim_ok (n : Nat) (g : List Int) (r : List Int) (hr : integer_trim n g = some r) : FnOk Tryz.prog 197 [sU32 g] (sU32 r) := by
 unfold integer_trim at hr
 refine FnOk.bd fine Tryz.func197 [.tmp 2] ?_
 unfold Tryz.f197
 simp only [Option.getD_some]
 refine .seq <| .r4 fine [0] [] <| .seq <| .block ?_
 replace hr := bd hr; obtain ⟨g_6, hL13, hr⟩ := hr
 refine .loopO (σ := fun z0 => match z0 with | g_1 => ⟨mkS 21 0 [(0, sU32 g_1)], []⟩) (Q := fun x st' => x = .exit 0 ∧ Wk 0 st' ⟨mkS 21 0 [(0, sU32 g_6)], []⟩) hL13 ((Wk.gc [0] [] rfl pK0).to (by kernel_rfl)) ?_ ?_
 ·clear hr
  rintro m g_1 hr
  show CQ _ _ _ _ _ ⟨_, _⟩
  refine .seq <| .seq ?_
  rcases Bool.eq_false_or_eq_true (decide ((g_1.length : Int) > 0)) with hb8 | hb8
  ·replace hr := cd_t hb8 hr
   obtain ⟨hg9, hr⟩ := gd hr
   refine .r0 fine <| .mu 2 <| .p0 (v := aB true) (eB hb8) <| .mu 5 <| .pure (v := .pp (g_1.flatMap (iC .u32)) ((wrapF .i64 ((g_1.length : Int) - 1)).toNat * 1)) (by kernel_rfl) (tr (ofP_guard hg9)) <| .pure (v := aU32 (gt g_1 (wrapF .i64 ((g_1.length : Int) - 1)))) (by kernel_rfl) (tr (ofP_some (flat_get (iC_len .u32) (inR_lt hg9) (by decide : 0 < 1) (by omega : (wrapF .i64 ((g_1.length : Int) - 1)).toNat * 1 = (wrapF .i64 ((g_1.length : Int) - 1)).toNat * 1 + 0) (by kernel_rfl)))) <| .mu 2 <| .done <| .nh [0, 14] [] ?_
   refine .cd hr (fun hb10 hr => ?_) (fun hb10 hr => ?_)
   ·refine .skip <| .block ?_
    obtain ⟨hg11, hr⟩ := gd hr
    refine .r0 fine <| .mu 4 <| .p0 (v := sU32 ((g_1.drop (0 : Int).toNat).take ((wrapF .i64 ((g_1.length : Int) - 1)).toNat - (0 : Int).toNat))) (Eq.trans (b := slO (inS 0 (wrapF .i64 ((g_1.length : Int) - 1)) g_1.length) (0 : Int).toNat (wrapF .i64 ((g_1.length : Int) - 1)).toNat (fun z1 z2 => .sl true (((g_1.flatMap (iC .u32)).drop (z1 * 1)).take ((z2 - z1) * 1)) (z2 - z1))) (by kernel_rfl) (slO_t hg11 (sub_sl (iC_len _) (inS_le hg11)))) <| .mu 1 <| .done <| .pop ?_
    exact loopF_back ((g_1.drop (0 : Int).toNat).take ((wrapF .i64 ((g_1.length : Int) - 1)).toNat - (0 : Int).toNat)) hr ((Wk.gc [0] [] rfl pK0).to (by kernel_rfl))
   ·refine .leave rfl ?_
    obtain rfl := oi hr
    exact ⟨rfl, ((Wk.gc [0] [] rfl pK0).to (by kernel_rfl))⟩
  ·replace hr := cd_f hb8 hr
   refine .r0 fine <| .mu 2 <| .p0 (v := aB false) (eB hb8) <| .mu 9 <| .done <| .nh [0, 14] [] <| .cF (by kernel_rfl) <| .leave rfl ?_
   obtain rfl := oi hr
   exact ⟨rfl, ((Wk.gc [0] [] rfl pK0).to (by kernel_rfl))⟩
 ·rintro x st' hq14
  clear hL13
  obtain ⟨rfl, hq14⟩ := hq14
  refine CQ_exit _ rfl <| .wk hq14 <| .seq <| .ru fine <| .ret ?_
  obtain rfl := oi hr
  exact FinQ.r1 [sU32 g_6]

theorem integer_made_inj {negative : Bool} {g : List Int} {negative_ : Bool} {g_ : List Int} (h : ([.at (.bool negative), slT (iC .u32) g] : List AV) = [.at (.bool negative_), slT (iC .u32) g_]) : negative = negative_ ∧ g = g_ := by
 simp only [List.cons.injEq, AV.agg.injEq, AV.at.injEq, Value.int.injEq, Value.bool.injEq, AV.fn.injEq, AV.pp.injEq, true_and, and_true, slT_inj_int] at h
 simp_all
theorem integer_made_cg (n : Nat) {negative : Bool} {g : List Int} {negative_ : Bool} {g_ : List Int} (h : ([.at (.bool negative), slT (iC .u32) g] : List AV) = [.at (.bool negative_), slT (iC .u32) g_]) : integer_made n negative g = integer_made n negative_ g_ := by
 obtain ⟨rfl, rfl⟩ := integer_made_inj h
 rfl
theorem integer_made_ok (n : Nat) (negative : Bool) (g : List Int) (r : api_Int) (hr : integer_made n negative g = some r) : FnOk Tryz.prog 145 [aB negative, sU32 g] (.agg (api_Int.c r)) := by
 unfold integer_made at hr
 refine FnOk.bd fine Tryz.func145 [.cell 4 72] ?_
 unfold Tryz.f145
 simp only [Option.getD_some]
 refine .seq <| .r5 fine [0, 1] [(4, .hp 0 0)] [.own [aB false, nS]] <| .seq ?_
 obtain ⟨v1, hc2, hr⟩ := bd hr
 refine .g1 fine (ok0 (integer_trim_ok n g v1 hc2)) <| .mu 1 <| .ca cf0 <| .mu 1 <| .done <| .nh [0, 1, 4] [.own [aB false, nS]] <| .seq <| .seq <| .r4 fine [0, 1, 4] [(9, aB (((v1.length : Int) : Int) == 0))] ?_
 refine .cd hr (fun hb3 hr => ?_) (fun hb3 hr => ?_)
 ·refine .seq <| .r4 fine [4] [] <| .ret ?_
  obtain rfl := oi hr
  exact FinQ.ret (vs := [.agg [aB false, nS]]) (by kernel_rfl) (Sn.agg (SnL.cons (Sn.pure rfl) (SnL.cons Sn.nilsl SnL.nil)))
 ·refine .skip <| .seq <| .r5 fine [4] [] [.own [aB negative, sU32 v1]] <| .ret ?_
  obtain rfl := oi hr
  exact FinQ.r1 [.agg [aB negative, sU32 v1]]

theorem integer_Of_inj {n' : Int} {n'_ : Int} (h : ([.at (.int .i64 n')] : List AV) = [.at (.int .i64 n'_)]) : n' = n'_ := by
 simp only [List.cons.injEq, AV.agg.injEq, AV.at.injEq, Value.int.injEq, Value.bool.injEq, AV.fn.injEq, AV.pp.injEq, true_and, and_true] at h
 simp_all
theorem integer_Of_cg (n : Nat) {n' : Int} {n'_ : Int} (h : ([.at (.int .i64 n')] : List AV) = [.at (.int .i64 n'_)]) : integer_Of n n' = integer_Of n n'_ := by
 obtain rfl := integer_Of_inj h
 rfl
theorem integer_Of_ok (n : Nat) (n' : Int) (r : api_Int) (hr : integer_Of n n' = some r) : FnOk Tryz.prog 111 [aI64 n'] (.agg (api_Int.c r)) := by
 unfold integer_Of at hr
 refine FnOk.bd fine Tryz.func111 [.cell 2 72] ?_
 unfold Tryz.f111
 simp only [Option.getD_some]
 refine .seq <| .r5 fine [0] [(2, .hp 0 0)] [.own [aB false, nS]] <| .seq <| .r4 fine [0, 2] [(3, aU64 (wrapF .u64 n'))] <| .seq <| .seq <| .r4 fine [0, 2, 3] [(7, aB (decide (n' < 0)))] ?_
 refine .cd hr (fun hb1 hr => ?_) (fun hb1 hr => ?_)
 ·refine .r0 fine <| .mu 1 <| .p0 (v := aU64 (wrapF .u64 (0 - (wrapF .u64 n')))) (Eq.trans (b := some (.pure (aU64 (IntKind.wrap .u64 (0 - (wrapF .u64 n')))))) (by kernel_rfl) wrap_at) <| .mu 1 <| .done <| .nh [0, 2, 3] [.own [aB false, nS]] <| .seq ?_
  obtain ⟨v2, hc3, v4, hc5, hr⟩ := bd2 hr
  refine .gn fine (ca1 (ok0 (integer_split_ok n (wrapF .u64 (0 - (wrapF .u64 n'))) v2 hc3)) (ca3 (ok0 (integer_made_ok n true v2 v4 hc5)))) <| .mu 1 <| .p0 (v := aB true) (eB hb1) <| .mu 1 <| .ca cf0 <| .ca (cfF cf0) <| .mu 1 <| .done <| .nh [2] [.own (api_Int.c v4)] <| .ret ?_
  obtain rfl := oi hr
  exact FinQ.r1 [.agg (api_Int.c v4)]
 ·refine .skip <| .seq ?_
  obtain ⟨v6, hc7, v8, hc9, hr⟩ := bd2 hr
  refine .gn fine (ca1 (ok0 (integer_split_ok n (wrapF .u64 n') v6 hc7)) (ca3 (ok0 (integer_made_ok n false v6 v8 hc9)))) <| .mu 1 <| .p0 (v := aB false) (eB hb1) <| .mu 1 <| .ca cf0 <| .ca (cfF cf0) <| .mu 1 <| .done <| .nh [2] [.own (api_Int.c v8)] <| .ret ?_
  obtain rfl := oi hr
  exact FinQ.r1 [.agg (api_Int.c v8)]

theorem fraction_Whole_inj {n' : Int} {n'_ : Int} (h : ([.at (.int .i64 n')] : List AV) = [.at (.int .i64 n'_)]) : n' = n'_ := by
 simp only [List.cons.injEq, AV.agg.injEq, AV.at.injEq, Value.int.injEq, Value.bool.injEq, AV.fn.injEq, AV.pp.injEq, true_and, and_true] at h
 simp_all
theorem fraction_Whole_cg (n : Nat) {n' : Int} {n'_ : Int} (h : ([.at (.int .i64 n')] : List AV) = [.at (.int .i64 n'_)]) : fraction_Whole n n' = fraction_Whole n n'_ := by
 obtain rfl := fraction_Whole_inj h
 rfl
theorem fraction_Whole_ok (n : Nat) (n' : Int) (r : api_Rat) (hr : fraction_Whole n n' = some r) : FnOk Tryz.prog 108 [aI64 n'] (.agg (api_Rat.c r)) := by
 unfold fraction_Whole at hr
 refine FnOk.bd fine Tryz.func108 [.cell 2 74] ?_
 unfold Tryz.f108
 simp only [Option.getD_some]
 refine .seq <| .r5 fine [0] [(2, .hp 0 0)] [.own [aB false, nS, aB false, nS]] <| .seq ?_
 obtain ⟨v1, hc2, v3, hc4, hr⟩ := bd2 hr
 refine .gn fine (ca1 (ok0 (integer_Of_ok n n' v1 hc2)) (ca3 (ok0 (integer_Of_ok n 1 v3 hc4)))) <| .mu 1 <| .ca cf0 <| .ca (cfA (fun h => by rw [sv hc4 hc2 (integer_Of_cg n h)]) cf0) <| .mu 2 <| .done <| .nh [2] [.own [aB v1.Negative, sU32 v1.Groups, aB v3.Negative, sU32 v3.Groups]] <| .ret ?_
 obtain rfl := oi hr
 exact FinQ.r1 [.agg [aB v1.Negative, sU32 v1.Groups, aB v3.Negative, sU32 v3.Groups]]

theorem integer_Valid_1_ok (n : Nat) (g : Int) (r : Bool) (hr : integer_Valid_1 n g = some r) : FnOk Tryz.prog 205 [aU32 g] (aB r) := by
 unfold integer_Valid_1 at hr
 refine FnOk.bd fine Tryz.func205 [.tmp 2] ?_
 unfold Tryz.f205
 simp only [Option.getD_some]
 refine .seq <| .r4 fine [0] [] <| .seq <| .ru fine <| .ret ?_
 obtain rfl := oi hr
 exact FinQ.r1 [aB (decide (g ≥ 1000000000))]

theorem slices_IndexFunc_uint32_uint32_of_integer_Valid_1_ok (n : Nat) (s : List Int) (r : Int) (hr : slices_IndexFunc_uint32_uint32_of_integer_Valid_1 n s = some r) : FnOk Tryz.prog 226 [sU32 s, .fn 205 [] []] (aI64 r) := by
 unfold slices_IndexFunc_uint32_uint32_of_integer_Valid_1 at hr
 refine FnOk.bd fine Tryz.func226 [.tmp 4] ?_
 unfold Tryz.f226
 simp only [Option.getD_some]
 refine .seq <| .r4 fine [0, 1] [] <| .seq <| .seq <| .r4 fine [0, 1] [(7, aI64 (s.length : Int)), (8, aI64 0)] <| .block ?_
 replace hr := bd hr; obtain ⟨o13, hL14, hr⟩ := hr
 refine .loopO (σ := fun z0 => match z0 with | x_1 => ⟨mkS 19 0 [(0, sU32 s), (1, .fn 205 [] []), (7, aI64 (s.length : Int)), (8, aI64 x_1)], []⟩) (Q := fun x st' => match (generalizing := false) o13 with | .inl _ => x = .exit 0 ∧ Wk 0 st' ⟨mkS 19 0 [], []⟩ | .inr (r0) => x = .ret ∧ FinQ Tryz.prog [.tmp 4] (aI64 r0) .ret st') hL14 ((Wk.gc [0, 1, 7, 8] [] rfl pK0).to (by kernel_rfl)) ?_ ?_
 ·clear hr
  rintro m x_1 hr
  show CQ _ _ _ _ _ ⟨_, _⟩
  refine .seq <| .r4 fine [0, 1, 7, 8] [(9, aB (decide (x_1 < (s.length : Int))))] <| .seq ?_
  refine .cd hr (fun hb8 hr => ?_) (fun hb8 hr => ?_)
  ·refine .skip <| .seq <| .block <| .seq <| .r4 fine [0, 1, 7, 8] [(5, aI64 x_1)] <| .seq ?_
   obtain ⟨hg9, hr⟩ := gd hr
   obtain ⟨v10, hc11, hr⟩ := bd hr
   refine .g1 fine (ok0 (integer_Valid_1_ok n (gt s x_1) v10 hc11)) <| .mu 3 <| .p0 (v := .pp (s.flatMap (iC .u32)) (x_1.toNat * 1)) (tr (ofP_guard hg9)) <| .p0 (v := aU32 (gt s x_1)) (tr (ofP_some (flat_get (iC_len .u32) (inR_lt hg9) (by decide : 0 < 1) (by omega : x_1.toNat * 1 = x_1.toNat * 1 + 0) (by kernel_rfl)))) <| .ca cf0 <| .done <| .nh [0, 1, 5, 7, 8, 16] [] ?_
   refine .cd hr (fun hb12 hr => ?_) (fun hb12 hr => ?_)
   ·refine .seq <| .ru fine <| .ret ?_
    obtain rfl := oi hr
    exact ⟨rfl, FinQ.ret (vs := [aI64 x_1]) (by kernel_rfl) (Sn.pure rfl)⟩
   ·refine .skip <| .pop <| .ru fine ?_
    exact loopF_back (wrapF .i64 (x_1 + 1)) hr ((Wk.gc [0, 1, 7, 8] [] rfl pK0).to (by kernel_rfl))
  ·refine .leave rfl ?_
   obtain rfl := oi hr
   exact ⟨rfl, ((Wk.gc [] [] rfl pK0).to (by kernel_rfl))⟩
 ·rcases o13 with ⟨⟩ | r0
  ·rintro x st' hq15
   clear hL14
   obtain ⟨rfl, hq15⟩ := hq15
   refine CQ_exit _ rfl <| .wk hq15 <| .seq <| .ru fine <| .ret ?_
   obtain rfl := oi hr
   exact FinQ.r1 [aI64 (-1)]
  ·rintro x st' hq15
   clear hL14
   obtain ⟨rfl, hq15⟩ := hq15
   obtain rfl := oi hr
   exact CQ_ret _ hq15

theorem slices_ContainsFunc_uint32_uint32_of_integer_Valid_1_ok (n : Nat) (s : List Int) (r : Bool) (hr : slices_ContainsFunc_uint32_uint32_of_integer_Valid_1 n s = some r) : FnOk Tryz.prog 204 [sU32 s, .fn 205 [] []] (aB r) := by
 unfold slices_ContainsFunc_uint32_uint32_of_integer_Valid_1 at hr
 refine FnOk.bd fine Tryz.func204 [.tmp 4] ?_
 unfold Tryz.f204
 simp only [Option.getD_some]
 refine .seq <| .r4 fine [0, 1] [] <| .seq ?_
 obtain ⟨v1, hc2, hr⟩ := bd hr
 refine .g1 fine (ok0 (slices_IndexFunc_uint32_uint32_of_integer_Valid_1_ok n s v1 hc2)) <| .mu 2 <| .ca cf0 <| .mu 2 <| .done <| .ret ?_
 obtain rfl := oi hr
 exact FinQ.r1 [aB (decide (v1 ≥ 0))]

theorem integer_Valid_inj {x' : api_Int} {x'_ : api_Int} (h : ([.agg [.at (.bool x'.Negative), slT (iC .u32) x'.Groups]] : List AV) = [.agg [.at (.bool x'_.Negative), slT (iC .u32) x'_.Groups]]) : x' = x'_ := by
 obtain ⟨_, _⟩ := x'
 obtain ⟨_, _⟩ := x'_
 simp only [List.cons.injEq, AV.agg.injEq, AV.at.injEq, Value.int.injEq, Value.bool.injEq, AV.fn.injEq, AV.pp.injEq, true_and, and_true, slT_inj_int] at h
 simp_all
theorem integer_Valid_cg (n : Nat) {x' : api_Int} {x'_ : api_Int} (h : ([.agg [.at (.bool x'.Negative), slT (iC .u32) x'.Groups]] : List AV) = [.agg [.at (.bool x'_.Negative), slT (iC .u32) x'_.Groups]]) : integer_Valid n x' = integer_Valid n x'_ := by
 obtain rfl := integer_Valid_inj h
 rfl
theorem integer_Valid_ok (n : Nat) (x' : api_Int) (r : Bool) (hr : integer_Valid n x' = some r) : FnOk Tryz.prog 164 [.agg (api_Int.c x')] (aB r) := by
 unfold integer_Valid at hr
 refine FnOk.bd fine Tryz.func164 [.tmp 2] ?_
 unfold Tryz.f164
 simp only [Option.getD_some]
 refine .seq <| .r2 fine 25 [(1, .hp 0 0)] [.own (api_Int.c x')] <| .seq <| .r4 fine [1] [(3, aI64 (x'.Groups.length : Int))] <| .seq <| .seq <| .r4 fine [1, 3] [(8, aB (((x'.Groups.length : Int) : Int) == 0))] ?_
 refine .cd hr (fun hb1 hr => ?_) (fun hb1 hr => ?_)
 ·refine .seq <| .ru fine <| .ret ?_
  obtain rfl := oi hr
  exact FinQ.r1 [aB (!x'.Negative)]
 ·refine .skip <| .seq ?_
  obtain ⟨hg2, hr⟩ := gd hr
  rcases Bool.eq_false_or_eq_true (((gt x'.Groups (wrapF .i64 ((x'.Groups.length : Int) - 1))) : Int) != 0) with hb3 | hb3
  ·replace hr := cd_t hb3 hr
   obtain ⟨v4, hc5, hr⟩ := bd hr
   refine .g1 fine (ok0 (slices_ContainsFunc_uint32_uint32_of_integer_Valid_1_ok n x'.Groups v4 hc5)) <| .mu 4 <| .p0 (v := .pp (x'.Groups.flatMap (iC .u32)) ((wrapF .i64 ((x'.Groups.length : Int) - 1)).toNat * 1)) (tr (ofP_guard hg2)) <| .p0 (v := aU32 (gt x'.Groups (wrapF .i64 ((x'.Groups.length : Int) - 1)))) (tr (ofP_some (flat_get (iC_len .u32) (inR_lt hg2) (by decide : 0 < 1) (by omega : (wrapF .i64 ((x'.Groups.length : Int) - 1)).toNat * 1 = (wrapF .i64 ((x'.Groups.length : Int) - 1)).toNat * 1 + 0) (by kernel_rfl)))) <| .p0 (v := aB true) (eB hb3) <| .mu 3 <| .ca cf0 <| .mu 3 <| .done <| .ret ?_
   obtain rfl := oi hr
   exact FinQ.r1 [aB (!v4)]
  ·replace hr := cd_f hb3 hr
   refine .r0 fine <| .mu 4 <| .p0 (v := .pp (x'.Groups.flatMap (iC .u32)) ((wrapF .i64 ((x'.Groups.length : Int) - 1)).toNat * 1)) (tr (ofP_guard hg2)) <| .p0 (v := aU32 (gt x'.Groups (wrapF .i64 ((x'.Groups.length : Int) - 1)))) (tr (ofP_some (flat_get (iC_len .u32) (inR_lt hg2) (by decide : 0 < 1) (by omega : (wrapF .i64 ((x'.Groups.length : Int) - 1)).toNat * 1 = (wrapF .i64 ((x'.Groups.length : Int) - 1)).toNat * 1 + 0) (by kernel_rfl)))) <| .p0 (v := aB false) (eB hb3) <| .mu 7 <| .done <| .ret ?_
   obtain rfl := oi hr
   exact FinQ.r1 [aB false]

theorem fraction_counted_inj {n' : api_Int} {n'_ : api_Int} (h : ([.agg [.at (.bool n'.Negative), slT (iC .u32) n'.Groups]] : List AV) = [.agg [.at (.bool n'_.Negative), slT (iC .u32) n'_.Groups]]) : n' = n'_ := by
 obtain ⟨_, _⟩ := n'
 obtain ⟨_, _⟩ := n'_
 simp only [List.cons.injEq, AV.agg.injEq, AV.at.injEq, Value.int.injEq, Value.bool.injEq, AV.fn.injEq, AV.pp.injEq, true_and, and_true, slT_inj_int] at h
 simp_all
theorem fraction_counted_cg (n : Nat) {n' : api_Int} {n'_ : api_Int} (h : ([.agg [.at (.bool n'.Negative), slT (iC .u32) n'.Groups]] : List AV) = [.agg [.at (.bool n'_.Negative), slT (iC .u32) n'_.Groups]]) : fraction_counted n n' = fraction_counted n n'_ := by
 obtain rfl := fraction_counted_inj h
 rfl
theorem fraction_counted_ok (n : Nat) (n' : api_Int) (r : api_Int) (hr : fraction_counted n n' = some r) : FnOk Tryz.prog 163 [.agg (api_Int.c n')] (.agg (api_Int.c r)) := by
 unfold fraction_counted at hr
 refine FnOk.bd fine Tryz.func163 [.cell 2 72] ?_
 unfold Tryz.f163
 simp only [Option.getD_some]
 refine .seq <| .r2 fine 7 [(1, .hp 0 0), (2, .hp 1 0)] [.own (api_Int.c n'), .own [aB false, nS]] <| .seq <| .seq ?_
 obtain ⟨v1, hc2, hr⟩ := bd hr
 refine .g1 fine (ok0 (integer_Valid_ok n n' v1 hc2)) <| .mu 1 <| .ca cf0 <| .done <| .nh [1, 2, 4] [.own (api_Int.c n'), .own [aB false, nS]] ?_
 refine .cd hr (fun hb3 hr => ?_) (fun hb3 hr => ?_)
 ·refine .seq <| .r5 fine [2] [] [.own (api_Int.c n'), .own (api_Int.c n')] <| .ret ?_
  obtain rfl := oi hr
  exact FinQ.r1 [.agg (api_Int.c n')]
 ·refine .skip <| .seq ?_
  obtain ⟨v4, hc5, hr⟩ := bd hr
  refine .g1 fine (ok0 (integer_Of_ok n 0 v4 hc5)) <| .ca cf0 <| .mu 1 <| .done <| .nh [2] [.own (api_Int.c n'), .own (api_Int.c v4)] <| .ret ?_
  obtain rfl := oi hr
  exact FinQ.r1 [.agg (api_Int.c v4)]

theorem integer_groups_inj {x' : api_Int} {x'_ : api_Int} (h : ([.agg [.at (.bool x'.Negative), slT (iC .u32) x'.Groups]] : List AV) = [.agg [.at (.bool x'_.Negative), slT (iC .u32) x'_.Groups]]) : x' = x'_ := by
 obtain ⟨_, _⟩ := x'
 obtain ⟨_, _⟩ := x'_
 simp only [List.cons.injEq, AV.agg.injEq, AV.at.injEq, Value.int.injEq, Value.bool.injEq, AV.fn.injEq, AV.pp.injEq, true_and, and_true, slT_inj_int] at h
 simp_all
theorem integer_groups_cg (n : Nat) {x' : api_Int} {x'_ : api_Int} (h : ([.agg [.at (.bool x'.Negative), slT (iC .u32) x'.Groups]] : List AV) = [.agg [.at (.bool x'_.Negative), slT (iC .u32) x'_.Groups]]) : integer_groups n x' = integer_groups n x'_ := by
 obtain rfl := integer_groups_inj h
 rfl
theorem integer_groups_ok (n : Nat) (x' : api_Int) (r : List Int) (hr : integer_groups n x' = some r) : FnOk Tryz.prog 127 [.agg (api_Int.c x')] (sU32 r) := by
 unfold integer_groups at hr
 refine FnOk.bd fine Tryz.func127 [.tmp 2] ?_
 unfold Tryz.f127
 simp only [Option.getD_some]
 refine .seq <| .r2 fine 8 [(1, .hp 0 0)] [.own (api_Int.c x')] <| .seq <| .seq ?_
 obtain ⟨v1, hc2, hr⟩ := bd hr
 refine .g1 fine (ok0 (integer_Valid_ok n x' v1 hc2)) <| .mu 1 <| .ca cf0 <| .mu 1 <| .done <| .nh [1, 5] [.own (api_Int.c x')] ?_
 refine .cd hr (fun hb3 hr => ?_) (fun hb3 hr => ?_)
 ·refine .seq <| .r3 fine 8 [(2, nS)] <| .ret ?_
  obtain rfl := oi hr
  exact FinQ.ret (vs := [nS]) (by kernel_rfl) Sn.nilsl
 ·refine .skip <| .seq <| .ru fine <| .ret ?_
  obtain rfl := oi hr
  exact FinQ.r1 [sU32 x'.Groups]

theorem integer_Sign_inj {x' : api_Int} {x'_ : api_Int} (h : ([.agg [.at (.bool x'.Negative), slT (iC .u32) x'.Groups]] : List AV) = [.agg [.at (.bool x'_.Negative), slT (iC .u32) x'_.Groups]]) : x' = x'_ := by
 obtain ⟨_, _⟩ := x'
 obtain ⟨_, _⟩ := x'_
 simp only [List.cons.injEq, AV.agg.injEq, AV.at.injEq, Value.int.injEq, Value.bool.injEq, AV.fn.injEq, AV.pp.injEq, true_and, and_true, slT_inj_int] at h
 simp_all
theorem integer_Sign_cg (n : Nat) {x' : api_Int} {x'_ : api_Int} (h : ([.agg [.at (.bool x'.Negative), slT (iC .u32) x'.Groups]] : List AV) = [.agg [.at (.bool x'_.Negative), slT (iC .u32) x'_.Groups]]) : integer_Sign n x' = integer_Sign n x'_ := by
 obtain rfl := integer_Sign_inj h
 rfl
theorem integer_Sign_ok (n : Nat) (x' : api_Int) (r : Int) (hr : integer_Sign n x' = some r) : FnOk Tryz.prog 116 [.agg (api_Int.c x')] (aI64 r) := by
 unfold integer_Sign at hr
 refine FnOk.bd fine Tryz.func116 [.tmp 2] ?_
 unfold Tryz.f116
 simp only [Option.getD_some]
 refine .seq <| .r2 fine 11 [(1, .hp 0 0)] [.own (api_Int.c x')] <| .seq <| .block <| .seq ?_
 obtain ⟨v1, hc2, hr⟩ := bd hr
 refine .g1 fine (ok0 (integer_groups_ok n x' v1 hc2)) <| .mu 1 <| .ca cf0 <| .mu 3 <| .done <| .nh [1, 3] [.own (api_Int.c x')] ?_
 refine .cd hr (fun hb3 hr => ?_) (fun hb3 hr => ?_)
 ·refine .seq <| .ru fine <| .ret ?_
  obtain rfl := oi hr
  exact FinQ.r1 [aI64 0]
 ·refine .seq <| .r3 fine 11 [(8, aB x'.Negative)] ?_
  refine .cd hr (fun hb4 hr => ?_) (fun hb4 hr => ?_)
  ·refine .seq <| .ru fine <| .ret ?_
   obtain rfl := oi hr
   exact FinQ.r1 [aI64 (-1)]
  ·refine .skip <| .pop <| .seq <| .ru fine <| .ret ?_
   obtain rfl := oi hr
   exact FinQ.r1 [aI64 1]

theorem slices_Clone_uint32_uint32_ok (n : Nat) (s : List Int) (r : List Int) (hr : slices_Clone_uint32_uint32 n s = some r) : FnOk Tryz.prog 169 [sU32 s] (sU32 r) := by
 unfold slices_Clone_uint32_uint32 at hr
 refine FnOk.bd fine Tryz.func169 [.tmp 2] ?_
 unfold Tryz.f169
 simp only [Option.getD_some]
 refine .seq <| .r4 fine [0] [] <| .seq <| .seq ?_
 refine .nilcase (t := 0) (cs := s.flatMap (iC .u32)) (len := s.length) (by kernel_rfl) (fun hn3 => ?_) ?_
 ·obtain rfl : s = [] := List.length_eq_zero_iff.1 hn3
  have hx := gd hr; clear hr; obtain ⟨_, hr⟩ := hx
  have hx := gd hr; clear hr; obtain ⟨_, hr⟩ := hx
  refine .r4 fine [0] [(4, aB true)] <| .cT (by kernel_rfl) <| .seq <| .r3 fine 8 [(2, nS)] <| .ret ?_
  obtain rfl := oi hr
  exact FinQ.ret (vs := [nS]) (by kernel_rfl) Sn.nilsl
 ·refine .r4 fine [0] [(4, aB false)] <| .cF (by kernel_rfl) <| .skip <| .seq ?_
  obtain ⟨hg1, hg2, hr⟩ := gd2 hr
  refine .r0 fine <| .mu 2 <| .e0 (v := .hs 1 0 s.length 1) (ws := [(0, .dead), (1, .own (s.flatMap (iC .u32)))]) (Eq.trans (b := appS (decide (((s.flatMap (iC .u32))).length = s.length * 1)) (s.flatMap (iC .u32)) s.length (fun z1 z2 => guardO (decide (0 + 0 * 1 ≤ (([] : List Int).flatMap (iC .u32)).length) && decide ((0 + z2) * 4 ≤ 140737488355328) && decide (0 + z2 ≤ 4611686018427387904)) (some (.eff (.hs 1 0 (0 + z2) 1) [(0, .dead), (1, .own (((([] : List Int).flatMap (iC .u32)).drop 0).take (0 * 1) ++ z1))])))) (by kernel_rfl) (appS_t (flat_lenB (iC_len _)) rfl (app_own (l := ([] : List Int)) (xs := s) (iC_len _) rfl rfl rfl hg1 hg2))) <| .mu 1 <| .done <| .nh [2] [.dead, .own (s.flatMap (iC .u32))] <| .ret ?_
  obtain rfl := oi hr
  exact FinQ.ret (vs := [.hs 1 0 s.length 1]) (by kernel_rfl) (Sn.hs rfl (.inl rfl) (SnC.pure (ids_flat (iC_pure _) _)) (fun h => flat_nil0 h))

theorem integer_Neg_inj {x' : api_Int} {x'_ : api_Int} (h : ([.agg [.at (.bool x'.Negative), slT (iC .u32) x'.Groups]] : List AV) = [.agg [.at (.bool x'_.Negative), slT (iC .u32) x'_.Groups]]) : x' = x'_ := by
 obtain ⟨_, _⟩ := x'
 obtain ⟨_, _⟩ := x'_
 simp only [List.cons.injEq, AV.agg.injEq, AV.at.injEq, Value.int.injEq, Value.bool.injEq, AV.fn.injEq, AV.pp.injEq, true_and, and_true, slT_inj_int] at h
 simp_all
theorem integer_Neg_cg (n : Nat) {x' : api_Int} {x'_ : api_Int} (h : ([.agg [.at (.bool x'.Negative), slT (iC .u32) x'.Groups]] : List AV) = [.agg [.at (.bool x'_.Negative), slT (iC .u32) x'_.Groups]]) : integer_Neg n x' = integer_Neg n x'_ := by
 obtain rfl := integer_Neg_inj h
 rfl
theorem integer_Neg_ok (n : Nat) (x' : api_Int) (r : api_Int) (hr : integer_Neg n x' = some r) : FnOk Tryz.prog 172 [.agg (api_Int.c x')] (.agg (api_Int.c r)) := by
 unfold integer_Neg at hr
 refine FnOk.bd fine Tryz.func172 [.cell 2 72] ?_
 unfold Tryz.f172
 simp only [Option.getD_some]
 refine .seq <| .r2 fine 10 [(1, .hp 0 0), (2, .hp 1 0)] [.own (api_Int.c x'), .own [aB false, nS]] <| .seq ?_
 obtain ⟨v1, hc2, v3, hc4, v5, hc6, hr⟩ := bd3 hr
 refine .tn fine (ca1 (ok0 (integer_groups_ok n x' v1 hc2)) (ca1 (ok0 (slices_Clone_uint32_uint32_ok n v1 v3 hc4)) (ca3 (ok0 (integer_made_ok n (!x'.Negative) v3 v5 hc6))))) <| .mu 4 <| .ca cf0 <| .ca (cfF cf0) <| .ca (cfF (cfF cf0)) <| .mu 1 ?_
 refine .done ⟨by kernel_rfl, ?_⟩
 refine .nh [2] [.own (api_Int.c x'), .own (api_Int.c v5)] <| .ret ?_
 obtain rfl := oi hr
 exact FinQ.r1 [.agg (api_Int.c v5)]




theorem integer_times_ok (n : Nat) (a : List Int) (b : List Int) (r : List Int) (hr : integer_times n a b = some r) : FnOk Tryz.prog 148 [sU32 a, sU32 b] (sU32 r) := by
 unfold integer_times at hr
 refine FnOk.bd fine Tryz.func148 [.tmp 4] ?_
 unfold Tryz.f148
 simp only [Option.getD_some]
 refine .seq <| .r4 fine [0, 1] [] <| .seq ?_
 obtain ⟨hg1, hg2, hg3, hr⟩ := gd3 hr
 refine .r0 fine <| .mu 5 <| .e0 (v := .hs 0 0 (List.replicate (wrapF .i64 ((a.length : Int) + (b.length : Int))).toNat ((0 : Int) : Int)).length 1) (ws := [(0, .own ((List.replicate (wrapF .i64 ((a.length : Int) + (b.length : Int))).toNat ((0 : Int) : Int)).flatMap (iC .u32)))]) (tr (make_own (c := (iC .u32)) (z := (0 : Int)) (n := wrapF .i64 ((a.length : Int) + (b.length : Int))) (by_ := 4) rfl hg1 hg2 hg3)) <| .mu 1 <| .done <| .nh [0, 1, 5] [.own ((List.replicate (wrapF .i64 ((a.length : Int) + (b.length : Int))).toNat ((0 : Int) : Int)).flatMap (iC .u32))] <| .seq <| .seq <| .r4 fine [1, 5] [(18, sU32 a), (19, aI64 (a.length : Int)), (20, aI64 0)] <| .block ?_
 replace hr := bd hr; obtain ⟨out_24, hL45, hr⟩ := hr
 refine .loopO (σ := fun z0 => match z0 with | (out_4, x_5) => ⟨mkS 69 0 [(1, sU32 b), (5, .hs 0 0 out_4.length 1), (18, sU32 a), (19, aI64 (a.length : Int)), (20, aI64 x_5)], [.own (out_4.flatMap (iC .u32))]⟩) (Q := fun x st' => x = .exit 0 ∧ Wk 0 st' ⟨mkS 69 0 [(5, .hs 0 0 out_24.length 1)], [.own (out_24.flatMap (iC .u32))]⟩) hL45 ((Wk.gc [1, 5, 18, 19, 20] [(0, false)] rfl (pKo (iC .u32) (iC_pure _) (List.replicate (wrapF .i64 ((a.length : Int) + (b.length : Int))).toNat ((0 : Int) : Int)) trivial)).to (by kernel_rfl)) ?_ ?_
 ·clear hr
  rintro m ⟨out_4, x_5⟩ hr
  show CQ _ _ _ _ _ ⟨_, _⟩
  refine .seq <| .r4 fine [1, 5, 18, 19, 20] [(21, aB (decide (x_5 < (a.length : Int))))] <| .seq ?_
  refine .cd hr (fun hb26 hr => ?_) (fun hb26 hr => ?_)
  ·refine .skip <| .seq <| .block <| .seq ?_
   obtain ⟨hg27, hr⟩ := gd hr
   refine .r0 fine <| .mu 1 <| .p0 (v := .pp (a.flatMap (iC .u32)) (x_5.toNat * 1)) (tr (ofP_guard hg27)) <| .p0 (v := aU32 (gt a x_5)) (tr (ofP_some (flat_get (iC_len .u32) (inR_lt hg27) (by decide : 0 < 1) (by omega : x_5.toNat * 1 = x_5.toNat * 1 + 0) (by kernel_rfl)))) <| .mu 2 <| .done <| .nh [1, 5, 6, 7, 18, 19, 20] [.own (out_4.flatMap (iC .u32))] <| .seq <| .r4 fine [1, 5, 6, 7, 18, 19, 20] [(8, aU64 0)] <| .seq <| .seq <| .r4 fine [1, 5, 6, 7, 8, 18, 19, 20] [(25, sU32 b), (26, aI64 (b.length : Int)), (27, aI64 0)] <| .block ?_
   replace hr := bd hr; obtain ⟨o40, hL41, hr⟩ := hr
   refine .loopO (σ := fun z0 => match z0 with | (out_28, carry_29, x_30) => ⟨mkS 69 0 [(1, sU32 b), (5, .hs 0 0 out_28.length 1), (6, aI64 x_5), (7, aU32 (gt a x_5)), (8, aU64 carry_29), (18, sU32 a), (19, aI64 (a.length : Int)), (20, aI64 x_5), (25, sU32 b), (26, aI64 (b.length : Int)), (27, aI64 x_30)], [.own (out_28.flatMap (iC .u32))]⟩) (Q := fun x st' => match (generalizing := false) o40 with | (out_34, carry_35) => x = .exit 2 ∧ Wk 0 st' ⟨mkS 69 0 [(1, sU32 b), (5, .hs 0 0 out_34.length 1), (6, aI64 x_5), (8, aU64 carry_35), (18, sU32 a), (19, aI64 (a.length : Int)), (20, aI64 x_5)], [.own (out_34.flatMap (iC .u32))]⟩) hL41 ((Wk.gc [1, 5, 6, 7, 8, 18, 19, 20, 25, 26, 27] [(0, false)] rfl (pKo (iC .u32) (iC_pure _) out_4 trivial)).to (by kernel_rfl)) ?_ ?_
   ·clear hr
    rintro m ⟨out_28, carry_29, x_30⟩ hr
    show CQ _ _ _ _ _ ⟨_, _⟩
    refine .seq <| .r4 fine [1, 5, 6, 7, 8, 18, 19, 20, 25, 26, 27] [(28, aB (decide (x_30 < (b.length : Int))))] <| .seq ?_
    refine .cd hr (fun hb37 hr => ?_) (fun hb37 hr => ?_)
    ·refine .skip <| .seq <| .block <| .seq ?_
     obtain ⟨hg38, hr⟩ := gd hr
     refine .r0 fine <| .mu 1 <| .p0 (v := .pp (b.flatMap (iC .u32)) (x_30.toNat * 1)) (tr (ofP_guard hg38)) <| .p0 (v := aU32 (gt b x_30)) (tr (ofP_some (flat_get (iC_len .u32) (inR_lt hg38) (by decide : 0 < 1) (by omega : x_30.toNat * 1 = x_30.toNat * 1 + 0) (by kernel_rfl)))) <| .mu 2 <| .done <| .nh [1, 5, 6, 7, 8, 9, 10, 18, 19, 20, 25, 26, 27] [.own (out_28.flatMap (iC .u32))] <| .seq ?_
     obtain ⟨hg39, hr⟩ := gd hr
     refine .r0 fine <| .mu 4 <| .p0 (v := .hp 0 (0 + (wrapF .i64 (x_5 + x_30)).toNat * 1)) (tr (ofP_guard hg39)) <| .p0 (v := aU32 (gt out_28 (wrapF .i64 (x_5 + x_30)))) (tr (ofP_some (flat_get (iC_len .u32) (inR_lt hg39) (by decide : 0 < 1) (by omega : 0 + (wrapF .i64 (x_5 + x_30)).toNat * 1 = (wrapF .i64 (x_5 + x_30)).toNat * 1 + 0) (by kernel_rfl)))) <| .mu 10 <| .done <| .nh [1, 5, 6, 7, 9, 11, 18, 19, 20, 25, 26, 27] [.own (out_28.flatMap (iC .u32))] <| .r0 fine <| .mu 9 <| .p0 (v := .hp 0 (0 + (wrapF .i64 (x_5 + x_30)).toNat * 1)) (tr (ofP_guard hg39)) <| .e0 (v := .unk) (ws := [(0, .own ((out_28.set (wrapF .i64 (x_5 + x_30)).toNat (wrapF .u32 ((wrapF .u64 ((wrapF .u64 ((wrapF .u64 (gt out_28 (wrapF .i64 (x_5 + x_30)))) + (wrapF .u64 ((wrapF .u64 (gt a x_5)) * (wrapF .u64 (gt b x_30)))))) + carry_29)).tmod 1000000000))).flatMap (iC .u32)))]) (tr (stO_t (and_t (flat_fits (n := 1) (iC_len .u32) (inR_lt hg39) (Nat.le_of_ble_eq_true rfl) (by omega : 0 + (wrapF .i64 (x_5 + x_30)).toNat * 1 = (wrapF .i64 (x_5 + x_30)).toNat * 1 + 0))) (congrArg Blk.own (flat_set (xs := [aU32 (wrapF .u32 ((wrapF .u64 ((wrapF .u64 ((wrapF .u64 (gt out_28 (wrapF .i64 (x_5 + x_30)))) + (wrapF .u64 ((wrapF .u64 (gt a x_5)) * (wrapF .u64 (gt b x_30)))))) + carry_29)).tmod 1000000000))]) (iC_len .u32) (inR_lt hg39) (Nat.le_of_ble_eq_true rfl) (by omega : 0 + (wrapF .i64 (x_5 + x_30)).toNat * 1 = (wrapF .i64 (x_5 + x_30)).toNat * 1 + 0) (by kernel_rfl))))) <| .mu 1 <| .done <| .pop <| .ru fine ?_
     exact loopF_back (out_28.set (wrapF .i64 (x_5 + x_30)).toNat (wrapF .u32 ((wrapF .u64 ((wrapF .u64 ((wrapF .u64 (gt out_28 (wrapF .i64 (x_5 + x_30)))) + (wrapF .u64 ((wrapF .u64 (gt a x_5)) * (wrapF .u64 (gt b x_30)))))) + carry_29)).tmod 1000000000)), wrapF .u64 ((wrapF .u64 ((wrapF .u64 ((wrapF .u64 (gt out_28 (wrapF .i64 (x_5 + x_30)))) + (wrapF .u64 ((wrapF .u64 (gt a x_5)) * (wrapF .u64 (gt b x_30)))))) + carry_29)).tdiv 1000000000), wrapF .i64 (x_30 + 1)) hr ((Wk.relen 5 (b := 0) (es := 1) (len := out_28.length) (out_28.set (wrapF .i64 (x_5 + x_30)).toNat (wrapF .u32 ((wrapF .u64 ((wrapF .u64 ((wrapF .u64 (gt out_28 (wrapF .i64 (x_5 + x_30)))) + (wrapF .u64 ((wrapF .u64 (gt a x_5)) * (wrapF .u64 (gt b x_30)))))) + carry_29)).tmod 1000000000))).length (by kernel_rfl) (Eq.symm (List.length_set.trans rfl))).trans ((Wk.gc [1, 5, 6, 7, 8, 18, 19, 20, 25, 26, 27] [(0, false)] rfl (pKo (iC .u32) (iC_pure _) (out_28.set (wrapF .i64 (x_5 + x_30)).toNat (wrapF .u32 ((wrapF .u64 ((wrapF .u64 ((wrapF .u64 (gt out_28 (wrapF .i64 (x_5 + x_30)))) + (wrapF .u64 ((wrapF .u64 (gt a x_5)) * (wrapF .u64 (gt b x_30)))))) + carry_29)).tmod 1000000000))) trivial)).to (by kernel_rfl)))
    ·refine .leave rfl ?_
     obtain rfl := oi hr
     exact ⟨rfl, ((Wk.gc [1, 5, 6, 8, 18, 19, 20] [(0, false)] rfl (pKo (iC .u32) (iC_pure _) out_28 trivial)).to (by kernel_rfl))⟩
   ·rcases o40 with ⟨out_34, carry_35⟩
    rintro x st' hq42
    clear hL41
    obtain ⟨rfl, hq42⟩ := hq42
    refine CQ_exit _ rfl <| .wk hq42 ?_
    obtain ⟨hg43, hr⟩ := gd hr
    refine .r0 fine <| .mu 7 <| .p0 (v := .hp 0 (0 + (wrapF .i64 (x_5 + (b.length : Int))).toNat * 1)) (tr (ofP_guard hg43)) <| .e0 (v := .unk) (ws := [(0, .own ((out_34.set (wrapF .i64 (x_5 + (b.length : Int))).toNat (wrapF .u32 carry_35)).flatMap (iC .u32)))]) (tr (stO_t (and_t (flat_fits (n := 1) (iC_len .u32) (inR_lt hg43) (Nat.le_of_ble_eq_true rfl) (by omega : 0 + (wrapF .i64 (x_5 + (b.length : Int))).toNat * 1 = (wrapF .i64 (x_5 + (b.length : Int))).toNat * 1 + 0))) (congrArg Blk.own (flat_set (xs := [aU32 (wrapF .u32 carry_35)]) (iC_len .u32) (inR_lt hg43) (Nat.le_of_ble_eq_true rfl) (by omega : 0 + (wrapF .i64 (x_5 + (b.length : Int))).toNat * 1 = (wrapF .i64 (x_5 + (b.length : Int))).toNat * 1 + 0) (by kernel_rfl))))) <| .done <| .pop <| .ru fine ?_
    exact loopF_back (out_34.set (wrapF .i64 (x_5 + (b.length : Int))).toNat (wrapF .u32 carry_35), wrapF .i64 (x_5 + 1)) hr ((Wk.relen 5 (b := 0) (es := 1) (len := out_34.length) (out_34.set (wrapF .i64 (x_5 + (b.length : Int))).toNat (wrapF .u32 carry_35)).length (by kernel_rfl) (Eq.symm (List.length_set.trans rfl))).trans ((Wk.gc [1, 5, 18, 19, 20] [(0, false)] rfl (pKo (iC .u32) (iC_pure _) (out_34.set (wrapF .i64 (x_5 + (b.length : Int))).toNat (wrapF .u32 carry_35)) trivial)).to (by kernel_rfl)))
  ·refine .leave rfl ?_
   obtain rfl := oi hr
   exact ⟨rfl, ((Wk.gc [5] [(0, false)] rfl (pKo (iC .u32) (iC_pure _) out_4 trivial)).to (by kernel_rfl))⟩
 ·rintro x st' hq46
  clear hL45
  obtain ⟨rfl, hq46⟩ := hq46
  refine CQ_exit _ rfl <| .wk hq46 <| .seq ?_
  obtain ⟨v47, hc48, hr⟩ := bd hr
  refine .g1 fine (callOk_ref (args := [.hs 0 0 out_24.length 1]) (l := [0]) (SnL.cons (Sn.hs rfl (.inl rfl) (SnC.pure (ids_flat (iC_pure _) _)) (fun h => flat_nil0 h)) SnL.nil) (integer_trim_ok n out_24 v47 hc48)) <| .mu 1 <| .ca cf0 <| .mu 1 <| .done <| .ret ?_
  obtain rfl := oi hr
  exact FinQ.r1 [sU32 v47]

theorem integer_trim_w_ok (n : Nat) (g : List Int) (r : List Int) (hr : integer_trim_w n g = some r) : FnMut 1 Tryz.prog 197 [.hs 0 0 g.length 1] [.own (g.flatMap (iC .u32))] (.hs 0 0 r.length 1) [.own (r.flatMap (iC .u32))] := by
 unfold integer_trim_w at hr
 refine FnMut.bodyW fine Tryz.func197 (c := (Tryz.f197.body).getD .skip) rfl (us := [.hs 0 0 r.length 1]) (s := mkS 21 0 [(0, .hs 0 0 g.length 1)]) (by kernel_rfl) (rs := [.tmp 2]) rfl ?_
 unfold Tryz.f197
 simp only [Option.getD_some]
 refine .seq <| .r4 fine [0] [] <| .seq <| .block ?_
 replace hr := bd hr; obtain ⟨g_21, hL28, hr⟩ := hr
 refine .loopO (σ := fun z0 => match z0 with | g_16 => ⟨mkS 21 0 [(0, .hs 0 0 g_16.length 1)], [.own (g_16.flatMap (iC .u32))]⟩) (Q := fun x st' => x = .exit 0 ∧ Wk 1 st' ⟨mkS 21 0 [(0, .hs 0 0 g_21.length 1)], [.own (g_21.flatMap (iC .u32))]⟩) hL28 ((Wk.gc [0] [(0, false)] rfl (pKo (iC .u32) (iC_pure _) g trivial)).to (by kernel_rfl)) ?_ ?_
 ·clear hr
  rintro m g_16 hr
  show CQ _ _ _ _ _ ⟨_, _⟩
  refine .seq <| .seq ?_
  rcases Bool.eq_false_or_eq_true (decide ((g_16.length : Int) > 0)) with hb23 | hb23
  ·replace hr := cd_t hb23 hr
   obtain ⟨hg24, hr⟩ := gd hr
   refine .r0 fine <| .mu 2 <| .p0 (v := aB true) (eB hb23) <| .mu 5 <| .pure (v := .hp 0 (0 + (wrapF .i64 ((g_16.length : Int) - 1)).toNat * 1)) (by kernel_rfl) (tr (ofP_guard hg24)) <| .pure (v := aU32 (gt g_16 (wrapF .i64 ((g_16.length : Int) - 1)))) (by kernel_rfl) (tr (ofP_some (flat_get (iC_len .u32) (inR_lt hg24) (by decide : 0 < 1) (by omega : 0 + (wrapF .i64 ((g_16.length : Int) - 1)).toNat * 1 = (wrapF .i64 ((g_16.length : Int) - 1)).toNat * 1 + 0) (by kernel_rfl)))) <| .mu 2 <| .done <| .nh [0, 14] [.own (g_16.flatMap (iC .u32))] ?_
   refine .cd hr (fun hb25 hr => ?_) (fun hb25 hr => ?_)
   ·refine .skip <| .block ?_
    obtain ⟨hg26, hr⟩ := gd hr
    refine .r0 fine <| .mu 4 <| .p0 (v := .hs 0 0 (wrapF .i64 ((g_16.length : Int) - 1)).toNat 1) (Eq.trans (b := slH (inS 0 (wrapF .i64 ((g_16.length : Int) - 1)) g_16.length) true ((0 : Int).toNat) ((wrapF .i64 ((g_16.length : Int) - 1)).toNat) (fun z1 z2 => .hs 0 (0 + z1 * 1) (z2 - z1) 1)) (by kernel_rfl) (slH_t hg26 (by kernel_rfl))) <| .mu 1 <| .done <| .pop ?_
    exact loopF_back (g_16.take (wrapF .i64 ((g_16.length : Int) - 1)).toNat) hr ((Wk.cutS (c := (iC .u32)) (es := 1) 0 0 (iC_len _) g_16 (wrapF .i64 ((g_16.length : Int) - 1)).toNat (inS_le hg26) (by kernel_rfl) (by kernel_rfl)).trans ((Wk.gc [0] [(0, false)] rfl (pKo (iC .u32) (iC_pure _) (g_16.take (wrapF .i64 ((g_16.length : Int) - 1)).toNat) trivial)).to (by kernel_rfl)))
   ·refine .leave rfl ?_
    obtain rfl := oi hr
    exact ⟨rfl, ((Wk.gc [0] [(0, false)] rfl (pKo (iC .u32) (iC_pure _) g_16 trivial)).to (by kernel_rfl))⟩
  ·replace hr := cd_f hb23 hr
   refine .r0 fine <| .mu 2 <| .p0 (v := aB false) (eB hb23) <| .mu 9 <| .done <| .nh [0, 14] [.own (g_16.flatMap (iC .u32))] <| .cF (by kernel_rfl) <| .leave rfl ?_
   obtain rfl := oi hr
   exact ⟨rfl, ((Wk.gc [0] [(0, false)] rfl (pKo (iC .u32) (iC_pure _) g_16 trivial)).to (by kernel_rfl))⟩
 ·rintro x st' hq29
  clear hL28
  obtain ⟨rfl, hq29⟩ := hq29
  refine CQ_exit _ rfl <| .wk hq29 <| .seq <| .r3 fine 21 [(2, .hs 0 0 g_21.length 1)] <| .ret ?_
  obtain rfl := oi hr
  exact FinMW.ret [.hs 0 0 g_21.length 1] ((Wk.gc [0] [(0, false)] rfl (pKo (iC .u32) (iC_pure _) g_21 trivial)).to (by kernel_rfl))

theorem integer_times_w_ok (n : Nat) (a : List Int) (b : List Int) (r : List Int) (hr : integer_times_w n a b = some r) : FnMut 1 Tryz.prog 148 [sU32 a, .hs 0 0 b.length 1] [.own (b.flatMap (iC .u32))] (.hs 1 0 r.length 1) [.own (b.flatMap (iC .u32)), .own (r.flatMap (iC .u32))] := by
 unfold integer_times_w at hr
 refine FnMut.bodyW fine Tryz.func148 (c := (Tryz.f148.body).getD .skip) rfl (us := [.hs 1 0 r.length 1]) (s := mkS 69 0 [(0, sU32 a), (1, .hs 0 0 b.length 1)]) (by kernel_rfl) (rs := [.tmp 4]) rfl ?_
 unfold Tryz.f148
 simp only [Option.getD_some]
 refine .seq <| .r4 fine [0, 1] [] <| .seq ?_
 obtain ⟨hg50, hg51, hg52, hr⟩ := gd3 hr
 refine .r0 fine <| .mu 5 <| .e0 (v := .hs 1 0 (List.replicate (wrapF .i64 ((a.length : Int) + (b.length : Int))).toNat ((0 : Int) : Int)).length 1) (ws := [(1, .own ((List.replicate (wrapF .i64 ((a.length : Int) + (b.length : Int))).toNat ((0 : Int) : Int)).flatMap (iC .u32)))]) (tr (make_own (c := (iC .u32)) (z := (0 : Int)) (n := wrapF .i64 ((a.length : Int) + (b.length : Int))) (by_ := 4) rfl hg50 hg51 hg52)) <| .mu 1 <| .done <| .nh [0, 1, 5] [.own (b.flatMap (iC .u32)), .own ((List.replicate (wrapF .i64 ((a.length : Int) + (b.length : Int))).toNat ((0 : Int) : Int)).flatMap (iC .u32))] <| .seq <| .seq <| .r4 fine [1, 5] [(18, sU32 a), (19, aI64 (a.length : Int)), (20, aI64 0)] <| .block ?_
 replace hr := bd hr; obtain ⟨out_73, hL94, hr⟩ := hr
 refine .loopO (σ := fun z0 => match z0 with | (out_53, x_54) => ⟨mkS 69 0 [(1, .hs 0 0 b.length 1), (5, .hs 1 0 out_53.length 1), (18, sU32 a), (19, aI64 (a.length : Int)), (20, aI64 x_54)], [.own (b.flatMap (iC .u32)), .own (out_53.flatMap (iC .u32))]⟩) (Q := fun x st' => x = .exit 0 ∧ Wk 1 st' ⟨mkS 69 0 [(5, .hs 1 0 out_73.length 1)], [.own (b.flatMap (iC .u32)), .own (out_73.flatMap (iC .u32))]⟩) hL94 ((Wk.gc [1, 5, 18, 19, 20] [(0, false), (1, false)] rfl (pKo (iC .u32) (iC_pure _) b (pKo (iC .u32) (iC_pure _) (List.replicate (wrapF .i64 ((a.length : Int) + (b.length : Int))).toNat ((0 : Int) : Int)) trivial))).to (by kernel_rfl)) ?_ ?_
 ·clear hr
  rintro m ⟨out_53, x_54⟩ hr
  show CQ _ _ _ _ _ ⟨_, _⟩
  refine .seq <| .r4 fine [1, 5, 18, 19, 20] [(21, aB (decide (x_54 < (a.length : Int))))] <| .seq ?_
  refine .cd hr (fun hb75 hr => ?_) (fun hb75 hr => ?_)
  ·refine .skip <| .seq <| .block <| .seq ?_
   obtain ⟨hg76, hr⟩ := gd hr
   refine .r0 fine <| .mu 1 <| .p0 (v := .pp (a.flatMap (iC .u32)) (x_54.toNat * 1)) (tr (ofP_guard hg76)) <| .p0 (v := aU32 (gt a x_54)) (tr (ofP_some (flat_get (iC_len .u32) (inR_lt hg76) (by decide : 0 < 1) (by omega : x_54.toNat * 1 = x_54.toNat * 1 + 0) (by kernel_rfl)))) <| .mu 2 <| .done <| .nh [1, 5, 6, 7, 18, 19, 20] [.own (b.flatMap (iC .u32)), .own (out_53.flatMap (iC .u32))] <| .seq <| .r4 fine [1, 5, 6, 7, 18, 19, 20] [(8, aU64 0)] <| .seq <| .seq <| .r4 fine [1, 5, 6, 7, 8, 18, 19, 20] [(25, .hs 0 0 b.length 1), (26, aI64 (b.length : Int)), (27, aI64 0)] <| .block ?_
   replace hr := bd hr; obtain ⟨o89, hL90, hr⟩ := hr
   refine .loopO (σ := fun z0 => match z0 with | (out_77, carry_78, x_79) => ⟨mkS 69 0 [(1, .hs 0 0 b.length 1), (5, .hs 1 0 out_77.length 1), (6, aI64 x_54), (7, aU32 (gt a x_54)), (8, aU64 carry_78), (18, sU32 a), (19, aI64 (a.length : Int)), (20, aI64 x_54), (25, .hs 0 0 b.length 1), (26, aI64 (b.length : Int)), (27, aI64 x_79)], [.own (b.flatMap (iC .u32)), .own (out_77.flatMap (iC .u32))]⟩) (Q := fun x st' => match (generalizing := false) o89 with | (out_83, carry_84) => x = .exit 2 ∧ Wk 1 st' ⟨mkS 69 0 [(1, .hs 0 0 b.length 1), (5, .hs 1 0 out_83.length 1), (6, aI64 x_54), (8, aU64 carry_84), (18, sU32 a), (19, aI64 (a.length : Int)), (20, aI64 x_54)], [.own (b.flatMap (iC .u32)), .own (out_83.flatMap (iC .u32))]⟩) hL90 ((Wk.gc [1, 5, 6, 7, 8, 18, 19, 20, 25, 26, 27] [(0, false), (1, false)] rfl (pKo (iC .u32) (iC_pure _) b (pKo (iC .u32) (iC_pure _) out_53 trivial))).to (by kernel_rfl)) ?_ ?_
   ·clear hr
    rintro m ⟨out_77, carry_78, x_79⟩ hr
    show CQ _ _ _ _ _ ⟨_, _⟩
    refine .seq <| .r4 fine [1, 5, 6, 7, 8, 18, 19, 20, 25, 26, 27] [(28, aB (decide (x_79 < (b.length : Int))))] <| .seq ?_
    refine .cd hr (fun hb86 hr => ?_) (fun hb86 hr => ?_)
    ·refine .skip <| .seq <| .block <| .seq ?_
     obtain ⟨hg87, hr⟩ := gd hr
     refine .r0 fine <| .mu 1 <| .p0 (v := .hp 0 (0 + x_79.toNat * 1)) (tr (ofP_guard hg87)) <| .p0 (v := aU32 (gt b x_79)) (tr (ofP_some (flat_get (iC_len .u32) (inR_lt hg87) (by decide : 0 < 1) (by omega : 0 + x_79.toNat * 1 = x_79.toNat * 1 + 0) (by kernel_rfl)))) <| .mu 2 <| .done <| .nh [1, 5, 6, 7, 8, 9, 10, 18, 19, 20, 25, 26, 27] [.own (b.flatMap (iC .u32)), .own (out_77.flatMap (iC .u32))] <| .seq ?_
     obtain ⟨hg88, hr⟩ := gd hr
     refine .r0 fine <| .mu 4 <| .p0 (v := .hp 1 (0 + (wrapF .i64 (x_54 + x_79)).toNat * 1)) (tr (ofP_guard hg88)) <| .p0 (v := aU32 (gt out_77 (wrapF .i64 (x_54 + x_79)))) (tr (ofP_some (flat_get (iC_len .u32) (inR_lt hg88) (by decide : 0 < 1) (by omega : 0 + (wrapF .i64 (x_54 + x_79)).toNat * 1 = (wrapF .i64 (x_54 + x_79)).toNat * 1 + 0) (by kernel_rfl)))) <| .mu 10 <| .done <| .nh [1, 5, 6, 7, 9, 11, 18, 19, 20, 25, 26, 27] [.own (b.flatMap (iC .u32)), .own (out_77.flatMap (iC .u32))] <| .r0 fine <| .mu 9 <| .p0 (v := .hp 1 (0 + (wrapF .i64 (x_54 + x_79)).toNat * 1)) (tr (ofP_guard hg88)) <| .e0 (v := .unk) (ws := [(1, .own ((out_77.set (wrapF .i64 (x_54 + x_79)).toNat (wrapF .u32 ((wrapF .u64 ((wrapF .u64 ((wrapF .u64 (gt out_77 (wrapF .i64 (x_54 + x_79)))) + (wrapF .u64 ((wrapF .u64 (gt a x_54)) * (wrapF .u64 (gt b x_79)))))) + carry_78)).tmod 1000000000))).flatMap (iC .u32)))]) (tr (stO_t (and_t (flat_fits (n := 1) (iC_len .u32) (inR_lt hg88) (Nat.le_of_ble_eq_true rfl) (by omega : 0 + (wrapF .i64 (x_54 + x_79)).toNat * 1 = (wrapF .i64 (x_54 + x_79)).toNat * 1 + 0))) (congrArg Blk.own (flat_set (xs := [aU32 (wrapF .u32 ((wrapF .u64 ((wrapF .u64 ((wrapF .u64 (gt out_77 (wrapF .i64 (x_54 + x_79)))) + (wrapF .u64 ((wrapF .u64 (gt a x_54)) * (wrapF .u64 (gt b x_79)))))) + carry_78)).tmod 1000000000))]) (iC_len .u32) (inR_lt hg88) (Nat.le_of_ble_eq_true rfl) (by omega : 0 + (wrapF .i64 (x_54 + x_79)).toNat * 1 = (wrapF .i64 (x_54 + x_79)).toNat * 1 + 0) (by kernel_rfl))))) <| .mu 1 <| .done <| .pop <| .ru fine ?_
     exact loopF_back (out_77.set (wrapF .i64 (x_54 + x_79)).toNat (wrapF .u32 ((wrapF .u64 ((wrapF .u64 ((wrapF .u64 (gt out_77 (wrapF .i64 (x_54 + x_79)))) + (wrapF .u64 ((wrapF .u64 (gt a x_54)) * (wrapF .u64 (gt b x_79)))))) + carry_78)).tmod 1000000000)), wrapF .u64 ((wrapF .u64 ((wrapF .u64 ((wrapF .u64 (gt out_77 (wrapF .i64 (x_54 + x_79)))) + (wrapF .u64 ((wrapF .u64 (gt a x_54)) * (wrapF .u64 (gt b x_79)))))) + carry_78)).tdiv 1000000000), wrapF .i64 (x_79 + 1)) hr ((Wk.relen 5 (b := 1) (es := 1) (len := out_77.length) (out_77.set (wrapF .i64 (x_54 + x_79)).toNat (wrapF .u32 ((wrapF .u64 ((wrapF .u64 ((wrapF .u64 (gt out_77 (wrapF .i64 (x_54 + x_79)))) + (wrapF .u64 ((wrapF .u64 (gt a x_54)) * (wrapF .u64 (gt b x_79)))))) + carry_78)).tmod 1000000000))).length (by kernel_rfl) (Eq.symm (List.length_set.trans rfl))).trans ((Wk.gc [1, 5, 6, 7, 8, 18, 19, 20, 25, 26, 27] [(0, false), (1, false)] rfl (pKo (iC .u32) (iC_pure _) b (pKo (iC .u32) (iC_pure _) (out_77.set (wrapF .i64 (x_54 + x_79)).toNat (wrapF .u32 ((wrapF .u64 ((wrapF .u64 ((wrapF .u64 (gt out_77 (wrapF .i64 (x_54 + x_79)))) + (wrapF .u64 ((wrapF .u64 (gt a x_54)) * (wrapF .u64 (gt b x_79)))))) + carry_78)).tmod 1000000000))) trivial))).to (by kernel_rfl)))
    ·refine .leave rfl ?_
     obtain rfl := oi hr
     exact ⟨rfl, ((Wk.gc [1, 5, 6, 8, 18, 19, 20] [(0, false), (1, false)] rfl (pKo (iC .u32) (iC_pure _) b (pKo (iC .u32) (iC_pure _) out_77 trivial))).to (by kernel_rfl))⟩
   ·rcases o89 with ⟨out_83, carry_84⟩
    rintro x st' hq91
    clear hL90
    obtain ⟨rfl, hq91⟩ := hq91
    refine CQ_exit _ rfl <| .wk hq91 ?_
    obtain ⟨hg92, hr⟩ := gd hr
    refine .r0 fine <| .mu 7 <| .p0 (v := .hp 1 (0 + (wrapF .i64 (x_54 + (b.length : Int))).toNat * 1)) (tr (ofP_guard hg92)) <| .e0 (v := .unk) (ws := [(1, .own ((out_83.set (wrapF .i64 (x_54 + (b.length : Int))).toNat (wrapF .u32 carry_84)).flatMap (iC .u32)))]) (tr (stO_t (and_t (flat_fits (n := 1) (iC_len .u32) (inR_lt hg92) (Nat.le_of_ble_eq_true rfl) (by omega : 0 + (wrapF .i64 (x_54 + (b.length : Int))).toNat * 1 = (wrapF .i64 (x_54 + (b.length : Int))).toNat * 1 + 0))) (congrArg Blk.own (flat_set (xs := [aU32 (wrapF .u32 carry_84)]) (iC_len .u32) (inR_lt hg92) (Nat.le_of_ble_eq_true rfl) (by omega : 0 + (wrapF .i64 (x_54 + (b.length : Int))).toNat * 1 = (wrapF .i64 (x_54 + (b.length : Int))).toNat * 1 + 0) (by kernel_rfl))))) <| .done <| .pop <| .ru fine ?_
    exact loopF_back (out_83.set (wrapF .i64 (x_54 + (b.length : Int))).toNat (wrapF .u32 carry_84), wrapF .i64 (x_54 + 1)) hr ((Wk.relen 5 (b := 1) (es := 1) (len := out_83.length) (out_83.set (wrapF .i64 (x_54 + (b.length : Int))).toNat (wrapF .u32 carry_84)).length (by kernel_rfl) (Eq.symm (List.length_set.trans rfl))).trans ((Wk.gc [1, 5, 18, 19, 20] [(0, false), (1, false)] rfl (pKo (iC .u32) (iC_pure _) b (pKo (iC .u32) (iC_pure _) (out_83.set (wrapF .i64 (x_54 + (b.length : Int))).toNat (wrapF .u32 carry_84)) trivial))).to (by kernel_rfl)))
  ·refine .leave rfl ?_
   obtain rfl := oi hr
   exact ⟨rfl, ((Wk.gc [5] [(0, false), (1, false)] rfl (pKo (iC .u32) (iC_pure _) b (pKo (iC .u32) (iC_pure _) out_53 trivial))).to (by kernel_rfl))⟩
 ·rintro x st' hq95
  clear hL94
  obtain ⟨rfl, hq95⟩ := hq95
  refine CQ_exit _ rfl <| .wk hq95 <| .seq ?_
  obtain ⟨v96, hc97, hr⟩ := bd hr
  refine .g1 fine (callOk_mutU (args := [.hs 1 0 out_73.length 1]) 1 0 [(1, false)] [false] (integer_trim_w_ok n out_73 v96 hc97) (by exact ⟨ids_flat (iC_pure _) _, trivial⟩) (by exact ⟨ids_flat (iC_pure _) _, trivial⟩) rfl rfl (by kernel_rfl) (by kernel_rfl)) <| .mu 1 <| .ca cf0 <| .mu 1 <| .done <| .nh [4] [.own (b.flatMap (iC .u32)), .own (v96.flatMap (iC .u32))] <| .ret ?_
  obtain rfl := oi hr
  exact FinMW.ret [.hs 1 0 v96.length 1] ((Wk.gc [0] [(0, false), (1, false)] rfl (pKo (iC .u32) (iC_pure _) b (pKo (iC .u32) (iC_pure _) v96 trivial))).to (by kernel_rfl))

theorem integer_at_inj {g : List Int} {i : Int} {g_ : List Int} {i_ : Int} (h : ([slT (iC .u32) g, .at (.int .i64 i)] : List AV) = [slT (iC .u32) g_, .at (.int .i64 i_)]) : g = g_ ∧ i = i_ := by
 simp only [List.cons.injEq, AV.agg.injEq, AV.at.injEq, Value.int.injEq, Value.bool.injEq, AV.fn.injEq, AV.pp.injEq, true_and, and_true, slT_inj_int] at h
 simp_all
theorem integer_at_cg (n : Nat) {g : List Int} {i : Int} {g_ : List Int} {i_ : Int} (h : ([slT (iC .u32) g, .at (.int .i64 i)] : List AV) = [slT (iC .u32) g_, .at (.int .i64 i_)]) : integer_at n g i = integer_at n g_ i_ := by
 obtain ⟨rfl, rfl⟩ := integer_at_inj h
 rfl
theorem integer_at_ok (n : Nat) (g : List Int) (i : Int) (r : Int) (hr : integer_at n g i = some r) : FnOk Tryz.prog 210 [sU32 g, aI64 i] (aU32 r) := by
 unfold integer_at at hr
 refine FnOk.bd fine Tryz.func210 [.tmp 4] ?_
 unfold Tryz.f210
 simp only [Option.getD_some]
 refine .seq <| .r4 fine [0, 1] [] <| .seq <| .seq <| .r4 fine [0, 1] [(8, aB (decide (i < (g.length : Int))))] ?_
 refine .cd hr (fun hb1 hr => ?_) (fun hb1 hr => ?_)
 ·refine .seq ?_
  obtain ⟨hg2, hr⟩ := gd hr
  refine .r0 fine <| .mu 2 <| .p0 (v := .pp (g.flatMap (iC .u32)) (i.toNat * 1)) (tr (ofP_guard hg2)) <| .p0 (v := aU32 (gt g i)) (tr (ofP_some (flat_get (iC_len .u32) (inR_lt hg2) (by decide : 0 < 1) (by omega : i.toNat * 1 = i.toNat * 1 + 0) (by kernel_rfl)))) <| .mu 1 <| .done <| .ret ?_
  obtain rfl := oi hr
  exact FinQ.r1 [aU32 (gt g i)]
 ·refine .skip <| .seq <| .ru fine <| .ret ?_
  obtain rfl := oi hr
  exact FinQ.r1 [aU32 0]

theorem integer_long_ok (n : Nat) (a : List Int) (b : List Int) (r : List Int × List Int) (hr : integer_long n a b = some r) : FnOk Tryz.prog 209 [sU32 a, sU32 b] (.tup [sU32 r.1, sU32 r.2]) := by
 unfold integer_long at hr
 refine FnOk.bd fine Tryz.func209 [.tmp 4, .tmp 5] ?_
 unfold Tryz.f209
 simp only [Option.getD_some]
 refine .seq <| .r4 fine [0, 1] [] <| .seq ?_
 obtain ⟨hg1, hg2, hr⟩ := gd2 hr
 refine .r0 fine <| .mu 4 <| .p0 (v := .pp (b.flatMap (iC .u32)) ((wrapF .i64 ((b.length : Int) - 1)).toNat * 1)) (tr (ofP_guard hg1)) <| .p0 (v := aU32 (gt b (wrapF .i64 ((b.length : Int) - 1)))) (tr (ofP_some (flat_get (iC_len .u32) (inR_lt hg1) (by decide : 0 < 1) (by omega : (wrapF .i64 ((b.length : Int) - 1)).toNat * 1 = (wrapF .i64 ((b.length : Int) - 1)).toNat * 1 + 0) (by kernel_rfl)))) <| .mu 2 <| .p0 (v := aU64 (wrapF .u64 ((1000000000 : Int).tdiv (wrapF .u64 ((wrapF .u64 (gt b (wrapF .i64 ((b.length : Int) - 1)))) + 1))))) (op_quo (x := 1000000000) (y := wrapF .u64 ((wrapF .u64 (gt b (wrapF .i64 ((b.length : Int) - 1)))) + 1)) (by kernel_rfl) (by kernel_rfl) hg2) <| .mu 2 <| .done <| .nh [0, 1, 6] [] <| .seq ?_
 obtain ⟨v3, hc4, hr⟩ := bd hr
 refine .gn fine (ca4 [.own [aU32 (wrapF .u32 (wrapF .u64 ((1000000000 : Int).tdiv (wrapF .u64 ((wrapF .u64 (gt b (wrapF .i64 ((b.length : Int) - 1)))) + 1)))))]] (callOk_mutU (args := [sU32 a, .hs 0 0 1 1]) 1 1 [(0, false)] [false, false] (integer_times_w_ok n a [wrapF .u32 (wrapF .u64 ((1000000000 : Int).tdiv (wrapF .u64 ((wrapF .u64 (gt b (wrapF .i64 ((b.length : Int) - 1)))) + 1))))] v3 hc4) (by exact ⟨rfl, trivial⟩) (by exact ⟨ids_flat (iC_pure _) _, ⟨ids_flat (iC_pure _) _, trivial⟩⟩) rfl rfl (by kernel_rfl) (by kernel_rfl))) <| .mu 3 <| .ca cf0 <| .mu 1 <| .done <| .nh [0, 1, 6, 7] [.own ([wrapF .u32 (wrapF .u64 ((1000000000 : Int).tdiv (wrapF .u64 ((wrapF .u64 (gt b (wrapF .i64 ((b.length : Int) - 1)))) + 1))))].flatMap (iC .u32)), .own (v3.flatMap (iC .u32))] <| .seq ?_
 obtain ⟨v5, hc6, hr⟩ := bd hr
 refine .gn fine (ca4 [.own ([wrapF .u32 (wrapF .u64 ((1000000000 : Int).tdiv (wrapF .u64 ((wrapF .u64 (gt b (wrapF .i64 ((b.length : Int) - 1)))) + 1))))].flatMap (iC .u32)), .own (v3.flatMap (iC .u32)), .own [aU32 (wrapF .u32 (wrapF .u64 ((1000000000 : Int).tdiv (wrapF .u64 ((wrapF .u64 (gt b (wrapF .i64 ((b.length : Int) - 1)))) + 1)))))]] (callOk_mutU (args := [sU32 b, .hs 2 0 1 1]) 1 1 [(2, false)] [false, false] (integer_times_w_ok n b [wrapF .u32 (wrapF .u64 ((1000000000 : Int).tdiv (wrapF .u64 ((wrapF .u64 (gt b (wrapF .i64 ((b.length : Int) - 1)))) + 1))))] v5 hc6) (by exact ⟨rfl, trivial⟩) (by exact ⟨ids_flat (iC_pure _) _, ⟨ids_flat (iC_pure _) _, trivial⟩⟩) rfl rfl (by kernel_rfl) (by kernel_rfl))) <| .mu 3 <| .ca cf0 <| .mu 1 <| .done <| .nh [0, 6, 7, 8] [.own ([wrapF .u32 (wrapF .u64 ((1000000000 : Int).tdiv (wrapF .u64 ((wrapF .u64 (gt b (wrapF .i64 ((b.length : Int) - 1)))) + 1))))].flatMap (iC .u32)), .own (v3.flatMap (iC .u32)), .own ([wrapF .u32 (wrapF .u64 ((1000000000 : Int).tdiv (wrapF .u64 ((wrapF .u64 (gt b (wrapF .i64 ((b.length : Int) - 1)))) + 1))))].flatMap (iC .u32)), .own (v5.flatMap (iC .u32))] <| .seq <| .r4 fine [0, 6, 7, 8] [(9, aI64 (v5.length : Int))] <| .seq ?_
 obtain ⟨hg7, hg8, hr⟩ := gd2 hr
 refine .r0 fine <| .mu 2 <| .e0 (v := .hs 5 0 (v3 ++ [(0 : Int)]).length 1) (ws := [(1, .dead), (5, .own ((v3 ++ [(0 : Int)]).flatMap (iC .u32)))]) (tr (app_own (new := [aU32 0]) (l := v3) (xs := [(0 : Int)]) (iC_len .u32) rfl rfl (by kernel_rfl) hg7 hg8)) <| .mu 1 <| .done <| .nh [0, 6, 7, 8, 9] [.own ([wrapF .u32 (wrapF .u64 ((1000000000 : Int).tdiv (wrapF .u64 ((wrapF .u64 (gt b (wrapF .i64 ((b.length : Int) - 1)))) + 1))))].flatMap (iC .u32)), .dead, .own ([wrapF .u32 (wrapF .u64 ((1000000000 : Int).tdiv (wrapF .u64 ((wrapF .u64 (gt b (wrapF .i64 ((b.length : Int) - 1)))) + 1))))].flatMap (iC .u32)), .own (v5.flatMap (iC .u32)), .own [aU32 0], .own ((v3 ++ [(0 : Int)]).flatMap (iC .u32))] <| .seq <| .seq <| .r4 fine [6, 7, 8, 9] [(50, aB (decide (((v3 ++ [(0 : Int)]).length : Int) ≤ (a.length : Int))))] ?_
 replace hr := bd hr; obtain ⟨u_9, hL14, hr⟩ := hr
 refine .app1 (Q := fun x st' => x = .normal ∧ Wk 0 st' ⟨mkS 266 0 [(6, aU32 (wrapF .u32 (wrapF .u64 ((1000000000 : Int).tdiv (wrapF .u64 ((wrapF .u64 (gt b (wrapF .i64 ((b.length : Int) - 1)))) + 1)))))), (7, .hs 0 0 u_9.length 1), (8, .hs 1 0 v5.length 1), (9, aI64 (v5.length : Int))], [.own (u_9.flatMap (iC .u32)), .own (v5.flatMap (iC .u32))]⟩) ?_ ?_
 ·clear hr
  have hr := hL14
  clear hL14
  refine .cd hr (fun hb10 hr => ?_) (fun hb10 hr => ?_)
  ·obtain ⟨hg11, hg12, hr⟩ := gd2 hr
   refine .r0 fine <| .mu 2 <| .e0 (v := .hs 7 0 ((v3 ++ [(0 : Int)]) ++ [(0 : Int)]).length 1) (ws := [(5, .dead), (7, .own (((v3 ++ [(0 : Int)]) ++ [(0 : Int)]).flatMap (iC .u32)))]) (tr (app_own (new := [aU32 0]) (l := v3 ++ [(0 : Int)]) (xs := [(0 : Int)]) (iC_len .u32) rfl rfl (by kernel_rfl) hg11 hg12)) <| .mu 1 <| .done ?_
   obtain rfl := oi hr
   exact ⟨rfl, ((Wk.gc [6, 7, 8, 9] [(7, false), (3, false)] rfl (pKo (iC .u32) (iC_pure _) ((v3 ++ [(0 : Int)]) ++ [(0 : Int)]) (pKo (iC .u32) (iC_pure _) v5 trivial))).to (by kernel_rfl))⟩
  ·refine .skip ?_
   obtain rfl := oi hr
   exact ⟨rfl, ((Wk.gc [6, 7, 8, 9] [(5, false), (3, false)] rfl (pKo (iC .u32) (iC_pure _) (v3 ++ [(0 : Int)]) (pKo (iC .u32) (iC_pure _) v5 trivial))).to (by kernel_rfl))⟩
 ·rintro x st' hq15
  clear hL14
  obtain ⟨rfl, hq15⟩ := hq15
  refine .wk hq15 <| .seq ?_
  obtain ⟨hg16, hg17, hg18, hr⟩ := gd3 hr
  refine .r0 fine <| .mu 4 <| .e0 (v := .hs 2 0 (List.replicate (wrapF .i64 ((u_9.length : Int) - (v5.length : Int))).toNat ((0 : Int) : Int)).length 1) (ws := [(2, .own ((List.replicate (wrapF .i64 ((u_9.length : Int) - (v5.length : Int))).toNat ((0 : Int) : Int)).flatMap (iC .u32)))]) (tr (make_own (c := (iC .u32)) (z := (0 : Int)) (n := wrapF .i64 ((u_9.length : Int) - (v5.length : Int))) (by_ := 4) rfl hg16 hg17 hg18)) <| .mu 1 <| .done <| .nh [4, 6, 7, 8, 9] [.own (u_9.flatMap (iC .u32)), .own (v5.flatMap (iC .u32)), .own ((List.replicate (wrapF .i64 ((u_9.length : Int) - (v5.length : Int))).toNat ((0 : Int) : Int)).flatMap (iC .u32))] <| .seq <| .seq <| .r4 fine [4, 6, 7, 8, 9] [(10, aI64 (wrapF .i64 ((wrapF .i64 ((u_9.length : Int) - (v5.length : Int))) - 1)))] <| .block ?_
  replace hr := bd hr; obtain ⟨o235, hL236, hr⟩ := hr
  refine .loopO (σ := fun z0 => match z0 with | (q_19, u_20, j_21) => ⟨mkS 266 0 [(4, .hs 0 0 q_19.length 1), (6, aU32 (wrapF .u32 (wrapF .u64 ((1000000000 : Int).tdiv (wrapF .u64 ((wrapF .u64 (gt b (wrapF .i64 ((b.length : Int) - 1)))) + 1)))))), (7, .hs 1 0 u_20.length 1), (8, .hs 2 0 v5.length 1), (9, aI64 (v5.length : Int)), (10, aI64 j_21)], [.own (q_19.flatMap (iC .u32)), .own (u_20.flatMap (iC .u32)), .own (v5.flatMap (iC .u32))]⟩) (Q := fun x st' => match (generalizing := false) o235 with | (q_127, u_128) => x = .exit 0 ∧ Wk 0 st' ⟨mkS 266 0 [(4, .hs 0 0 q_127.length 1), (6, aU32 (wrapF .u32 (wrapF .u64 ((1000000000 : Int).tdiv (wrapF .u64 ((wrapF .u64 (gt b (wrapF .i64 ((b.length : Int) - 1)))) + 1)))))), (7, .hs 1 0 u_128.length 1), (9, aI64 (v5.length : Int))], [.own (q_127.flatMap (iC .u32)), .own (u_128.flatMap (iC .u32))]⟩) hL236 ((Wk.gc [4, 6, 7, 8, 9, 10] [(2, false), (0, false), (1, false)] rfl (pKo (iC .u32) (iC_pure _) (List.replicate (wrapF .i64 ((u_9.length : Int) - (v5.length : Int))).toNat ((0 : Int) : Int)) (pKo (iC .u32) (iC_pure _) u_9 (pKo (iC .u32) (iC_pure _) v5 trivial)))).to (by kernel_rfl)) ?_ ?_
  ·clear hr
   rintro m ⟨q_19, u_20, j_21⟩ hr
   show CQ _ _ _ _ _ ⟨_, _⟩
   refine .seq <| .seq <| .r4 fine [4, 6, 7, 8, 9, 10] [(65, aB (decide (j_21 ≥ 0)))] ?_
   refine .cd hr (fun hb131 hr => ?_) (fun hb131 hr => ?_)
   ·refine .skip <| .seq <| .block <| .seq ?_
    obtain ⟨v132, hc133, hr⟩ := bd hr
    obtain ⟨hg134, hr⟩ := gd hr
    refine .t1 fine (callOk_val (args := [.hs 1 0 u_20.length 1, aI64 (wrapF .i64 (j_21 + (v5.length : Int)))]) (l := [1]) rfl (SnL.cons (Sn.hs rfl (.inl rfl) (SnC.pure (ids_flat (iC_pure _) _)) (fun h => flat_nil0 h)) (SnL.cons (Sn.pure rfl) SnL.nil)) (integer_at_ok n u_20 (wrapF .i64 (j_21 + (v5.length : Int))) v132 hc133)) <| .mu 4 <| .ca cf0 <| .mu 7 <| .pure (v := .hp 1 (0 + (wrapF .i64 ((wrapF .i64 (j_21 + (v5.length : Int))) - 1)).toNat * 1)) (by kernel_rfl) (tr (ofP_guard hg134)) (by kernel_rfl) <| .pure (v := aU32 (gt u_20 (wrapF .i64 ((wrapF .i64 (j_21 + (v5.length : Int))) - 1)))) (by kernel_rfl) (tr (ofP_some (flat_get (iC_len .u32) (inR_lt hg134) (by decide : 0 < 1) (by omega : 0 + (wrapF .i64 ((wrapF .i64 (j_21 + (v5.length : Int))) - 1)).toNat * 1 = (wrapF .i64 ((wrapF .i64 (j_21 + (v5.length : Int))) - 1)).toNat * 1 + 0) (by kernel_rfl)))) (by kernel_rfl) <| .mu 3 ?_
    refine .done ⟨by kernel_rfl, ?_⟩
    refine .nh [4, 6, 7, 8, 9, 10, 11] [.own (q_19.flatMap (iC .u32)), .own (u_20.flatMap (iC .u32)), .own (v5.flatMap (iC .u32))] <| .seq ?_
    obtain ⟨hg135, hg136, hr⟩ := gd2 hr
    refine .regionT fine callOf_nil <| .mu 4 <| .pure (v := .hp 2 (0 + (wrapF .i64 ((v5.length : Int) - 1)).toNat * 1)) (by kernel_rfl) (tr (ofP_guard hg135)) (by kernel_rfl) <| .pure (v := aU32 (gt v5 (wrapF .i64 ((v5.length : Int) - 1)))) (by kernel_rfl) (tr (ofP_some (flat_get (iC_len .u32) (inR_lt hg135) (by decide : 0 < 1) (by omega : 0 + (wrapF .i64 ((v5.length : Int) - 1)).toNat * 1 = (wrapF .i64 ((v5.length : Int) - 1)).toNat * 1 + 0) (by kernel_rfl)))) (by kernel_rfl) <| .mu 1 <| .pure (v := aU64 (wrapF .u64 ((wrapF .u64 ((wrapF .u64 ((wrapF .u64 v132) * 1000000000)) + (wrapF .u64 (gt u_20 (wrapF .i64 ((wrapF .i64 (j_21 + (v5.length : Int))) - 1)))))).tdiv (wrapF .u64 (gt v5 (wrapF .i64 ((v5.length : Int) - 1))))))) (by kernel_rfl) (op_quo (x := wrapF .u64 ((wrapF .u64 ((wrapF .u64 v132) * 1000000000)) + (wrapF .u64 (gt u_20 (wrapF .i64 ((wrapF .i64 (j_21 + (v5.length : Int))) - 1)))))) (y := wrapF .u64 (gt v5 (wrapF .i64 ((v5.length : Int) - 1)))) (by kernel_rfl) (by kernel_rfl) hg136) (by kernel_rfl) <| .mu 4 <| .pure (v := .hp 2 (0 + (wrapF .i64 ((v5.length : Int) - 1)).toNat * 1)) (by kernel_rfl) (tr (ofP_guard hg135)) (by kernel_rfl) <| .pure (v := aU32 (gt v5 (wrapF .i64 ((v5.length : Int) - 1)))) (by kernel_rfl) (tr (ofP_some (flat_get (iC_len .u32) (inR_lt hg135) (by decide : 0 < 1) (by omega : 0 + (wrapF .i64 ((v5.length : Int) - 1)).toNat * 1 = (wrapF .i64 ((v5.length : Int) - 1)).toNat * 1 + 0) (by kernel_rfl)))) (by kernel_rfl) <| .mu 1 <| .pure (v := aU64 ((wrapF .u64 ((wrapF .u64 ((wrapF .u64 v132) * 1000000000)) + (wrapF .u64 (gt u_20 (wrapF .i64 ((wrapF .i64 (j_21 + (v5.length : Int))) - 1)))))).tmod (wrapF .u64 (gt v5 (wrapF .i64 ((v5.length : Int) - 1)))))) (by kernel_rfl) (op_rem (x := wrapF .u64 ((wrapF .u64 ((wrapF .u64 v132) * 1000000000)) + (wrapF .u64 (gt u_20 (wrapF .i64 ((wrapF .i64 (j_21 + (v5.length : Int))) - 1)))))) (y := wrapF .u64 (gt v5 (wrapF .i64 ((v5.length : Int) - 1)))) (by kernel_rfl) (by kernel_rfl) hg136) (by kernel_rfl) <| .mu 2 ?_
    refine .done ⟨by kernel_rfl, ?_⟩
    refine .nh [4, 6, 7, 8, 9, 10, 12, 13] [.own (q_19.flatMap (iC .u32)), .own (u_20.flatMap (iC .u32)), .own (v5.flatMap (iC .u32))] <| .seq <| .block ?_
    replace hr := bd hr; obtain ⟨guess_164, hL173, hr⟩ := hr
    refine .loopO (σ := fun z0 => match z0 with | (guess_156, rest_157) => ⟨mkS 266 0 [(4, .hs 0 0 q_19.length 1), (6, aU32 (wrapF .u32 (wrapF .u64 ((1000000000 : Int).tdiv (wrapF .u64 ((wrapF .u64 (gt b (wrapF .i64 ((b.length : Int) - 1)))) + 1)))))), (7, .hs 1 0 u_20.length 1), (8, .hs 2 0 v5.length 1), (9, aI64 (v5.length : Int)), (10, aI64 j_21), (12, aU64 guess_156), (13, aU64 rest_157)], [.own (q_19.flatMap (iC .u32)), .own (u_20.flatMap (iC .u32)), .own (v5.flatMap (iC .u32))]⟩) (Q := fun x st' => x = .exit 2 ∧ Wk 0 st' ⟨mkS 266 0 [(4, .hs 0 0 q_19.length 1), (6, aU32 (wrapF .u32 (wrapF .u64 ((1000000000 : Int).tdiv (wrapF .u64 ((wrapF .u64 (gt b (wrapF .i64 ((b.length : Int) - 1)))) + 1)))))), (7, .hs 1 0 u_20.length 1), (8, .hs 2 0 v5.length 1), (9, aI64 (v5.length : Int)), (10, aI64 j_21), (12, aU64 guess_164)], [.own (q_19.flatMap (iC .u32)), .own (u_20.flatMap (iC .u32)), .own (v5.flatMap (iC .u32))]⟩) hL173 ((Wk.gc [4, 6, 7, 8, 9, 10, 12, 13] [(0, false), (1, false), (2, false)] rfl (pKo (iC .u32) (iC_pure _) q_19 (pKo (iC .u32) (iC_pure _) u_20 (pKo (iC .u32) (iC_pure _) v5 trivial)))).to (by kernel_rfl)) ?_ ?_
    ·clear hr
     rintro m ⟨guess_156, rest_157⟩ hr
     show CQ _ _ _ _ _ ⟨_, _⟩
     refine .seq <| .seq ?_
     rcases Bool.eq_false_or_eq_true (decide (guess_156 ≥ 1000000000)) with hb166 | hb166
     ·replace hr := cd_t hb166 hr
      refine .regionT fine callOf_nil <| .mu 1 <| .pure (v := aB true) (by kernel_rfl) (eB hb166) (by kernel_rfl) <| .mu 22 ?_
      refine .done ⟨by kernel_rfl, ?_⟩
      refine .nh [4, 6, 7, 8, 9, 10, 12, 13, 123] [.own (q_19.flatMap (iC .u32)), .own (u_20.flatMap (iC .u32)), .own (v5.flatMap (iC .u32))] <| .cT (by kernel_rfl) <| .skip <| .block <| .seq <| .r4 fine [4, 6, 7, 8, 9, 10, 13] [(12, aU64 (wrapF .u64 (guess_156 - 1)))] <| .seq <| .r0 fine <| .mu 4 <| .p0 (v := .hp 2 (0 + (wrapF .i64 ((v5.length : Int) - 1)).toNat * 1)) (tr (ofP_guard hg135)) <| .p0 (v := aU32 (gt v5 (wrapF .i64 ((v5.length : Int) - 1)))) (tr (ofP_some (flat_get (iC_len .u32) (inR_lt hg135) (by decide : 0 < 1) (by omega : 0 + (wrapF .i64 ((v5.length : Int) - 1)).toNat * 1 = (wrapF .i64 ((v5.length : Int) - 1)).toNat * 1 + 0) (by kernel_rfl)))) <| .mu 3 <| .done <| .nh [4, 6, 7, 8, 9, 10, 12, 13] [.own (q_19.flatMap (iC .u32)), .own (u_20.flatMap (iC .u32)), .own (v5.flatMap (iC .u32))] <| .seq <| .r4 fine [4, 6, 7, 8, 9, 10, 12, 13] [(135, aB (decide ((wrapF .u64 (rest_157 + (wrapF .u64 (gt v5 (wrapF .i64 ((v5.length : Int) - 1)))))) ≥ 1000000000)))] ?_
      refine .cd hr (fun hb167 hr => ?_) (fun hb167 hr => ?_)
      ·refine .leave rfl ?_
       obtain rfl := oi hr
       exact ⟨rfl, ((Wk.gc [4, 6, 7, 8, 9, 10, 12] [(0, false), (1, false), (2, false)] rfl (pKo (iC .u32) (iC_pure _) q_19 (pKo (iC .u32) (iC_pure _) u_20 (pKo (iC .u32) (iC_pure _) v5 trivial)))).to (by kernel_rfl))⟩
      ·refine .skip <| .pop ?_
       exact loopF_back (wrapF .u64 (guess_156 - 1), wrapF .u64 (rest_157 + (wrapF .u64 (gt v5 (wrapF .i64 ((v5.length : Int) - 1)))))) hr ((Wk.gc [4, 6, 7, 8, 9, 10, 12, 13] [(0, false), (1, false), (2, false)] rfl (pKo (iC .u32) (iC_pure _) q_19 (pKo (iC .u32) (iC_pure _) u_20 (pKo (iC .u32) (iC_pure _) v5 trivial)))).to (by kernel_rfl))
     ·replace hr := cd_f hb166 hr
      obtain ⟨hg168, hg169, hr⟩ := gd2 hr
      refine .regionT fine callOf_nil <| .mu 1 <| .pure (v := aB false) (by kernel_rfl) (eB hb166) (by kernel_rfl) <| .mu 5 <| .pure (v := .hp 2 (0 + (wrapF .i64 ((v5.length : Int) - 2)).toNat * 1)) (by kernel_rfl) (tr (ofP_guard hg168)) (by kernel_rfl) <| .pure (v := aU32 (gt v5 (wrapF .i64 ((v5.length : Int) - 2)))) (by kernel_rfl) (tr (ofP_some (flat_get (iC_len .u32) (inR_lt hg168) (by decide : 0 < 1) (by omega : 0 + (wrapF .i64 ((v5.length : Int) - 2)).toNat * 1 = (wrapF .i64 ((v5.length : Int) - 2)).toNat * 1 + 0) (by kernel_rfl)))) (by kernel_rfl) <| .mu 9 <| .pure (v := .hp 1 (0 + (wrapF .i64 ((wrapF .i64 (j_21 + (v5.length : Int))) - 2)).toNat * 1)) (by kernel_rfl) (tr (ofP_guard hg169)) (by kernel_rfl) <| .pure (v := aU32 (gt u_20 (wrapF .i64 ((wrapF .i64 (j_21 + (v5.length : Int))) - 2)))) (by kernel_rfl) (tr (ofP_some (flat_get (iC_len .u32) (inR_lt hg169) (by decide : 0 < 1) (by omega : 0 + (wrapF .i64 ((wrapF .i64 (j_21 + (v5.length : Int))) - 2)).toNat * 1 = (wrapF .i64 ((wrapF .i64 (j_21 + (v5.length : Int))) - 2)).toNat * 1 + 0) (by kernel_rfl)))) (by kernel_rfl) <| .mu 4 ?_
      refine .done ⟨by kernel_rfl, ?_⟩
      refine .nh [4, 6, 7, 8, 9, 10, 12, 13, 123] [.own (q_19.flatMap (iC .u32)), .own (u_20.flatMap (iC .u32)), .own (v5.flatMap (iC .u32))] ?_
      refine .cd hr (fun hb170 hr => ?_) (fun hb170 hr => ?_)
      ·refine .skip <| .block <| .seq <| .r4 fine [4, 6, 7, 8, 9, 10, 13] [(12, aU64 (wrapF .u64 (guess_156 - 1)))] <| .seq <| .r0 fine <| .mu 4 <| .p0 (v := .hp 2 (0 + (wrapF .i64 ((v5.length : Int) - 1)).toNat * 1)) (tr (ofP_guard hg135)) <| .p0 (v := aU32 (gt v5 (wrapF .i64 ((v5.length : Int) - 1)))) (tr (ofP_some (flat_get (iC_len .u32) (inR_lt hg135) (by decide : 0 < 1) (by omega : 0 + (wrapF .i64 ((v5.length : Int) - 1)).toNat * 1 = (wrapF .i64 ((v5.length : Int) - 1)).toNat * 1 + 0) (by kernel_rfl)))) <| .mu 3 <| .done <| .nh [4, 6, 7, 8, 9, 10, 12, 13] [.own (q_19.flatMap (iC .u32)), .own (u_20.flatMap (iC .u32)), .own (v5.flatMap (iC .u32))] <| .seq <| .r4 fine [4, 6, 7, 8, 9, 10, 12, 13] [(135, aB (decide ((wrapF .u64 (rest_157 + (wrapF .u64 (gt v5 (wrapF .i64 ((v5.length : Int) - 1)))))) ≥ 1000000000)))] ?_
       refine .cd hr (fun hb171 hr => ?_) (fun hb171 hr => ?_)
       ·refine .leave rfl ?_
        obtain rfl := oi hr
        exact ⟨rfl, ((Wk.gc [4, 6, 7, 8, 9, 10, 12] [(0, false), (1, false), (2, false)] rfl (pKo (iC .u32) (iC_pure _) q_19 (pKo (iC .u32) (iC_pure _) u_20 (pKo (iC .u32) (iC_pure _) v5 trivial)))).to (by kernel_rfl))⟩
       ·refine .skip <| .pop ?_
        exact loopF_back (wrapF .u64 (guess_156 - 1), wrapF .u64 (rest_157 + (wrapF .u64 (gt v5 (wrapF .i64 ((v5.length : Int) - 1)))))) hr ((Wk.gc [4, 6, 7, 8, 9, 10, 12, 13] [(0, false), (1, false), (2, false)] rfl (pKo (iC .u32) (iC_pure _) q_19 (pKo (iC .u32) (iC_pure _) u_20 (pKo (iC .u32) (iC_pure _) v5 trivial)))).to (by kernel_rfl))
      ·refine .leave rfl ?_
       obtain rfl := oi hr
       exact ⟨rfl, ((Wk.gc [4, 6, 7, 8, 9, 10, 12] [(0, false), (1, false), (2, false)] rfl (pKo (iC .u32) (iC_pure _) q_19 (pKo (iC .u32) (iC_pure _) u_20 (pKo (iC .u32) (iC_pure _) v5 trivial)))).to (by kernel_rfl))⟩
    ·rintro x st' hq174
     clear hL173
     obtain ⟨rfl, hq174⟩ := hq174
     refine CQ_exit _ rfl <| .wk hq174 <| .seq <| .r4 fine [4, 6, 7, 8, 9, 10, 12] [(14, aI64 0), (15, aU64 0)] <| .seq <| .seq <| .r4 fine [4, 6, 7, 8, 9, 10, 12, 14, 15] [(136, aI64 (v5.length : Int)), (137, aI64 0)] <| .block ?_
     replace hr := bd hr; obtain ⟨o210, hL211, hr⟩ := hr
     refine .loopO (σ := fun z0 => match z0 with | (u_194, borrow_195, carry_196, x_197) => ⟨mkS 266 0 [(4, .hs 0 0 q_19.length 1), (6, aU32 (wrapF .u32 (wrapF .u64 ((1000000000 : Int).tdiv (wrapF .u64 ((wrapF .u64 (gt b (wrapF .i64 ((b.length : Int) - 1)))) + 1)))))), (7, .hs 1 0 u_194.length 1), (8, .hs 2 0 v5.length 1), (9, aI64 (v5.length : Int)), (10, aI64 j_21), (12, aU64 guess_164), (14, aI64 borrow_195), (15, aU64 carry_196), (136, aI64 (v5.length : Int)), (137, aI64 x_197)], [.own (q_19.flatMap (iC .u32)), .own (u_194.flatMap (iC .u32)), .own (v5.flatMap (iC .u32))]⟩) (Q := fun x st' => match (generalizing := false) o210 with | (u_202, borrow_203, carry_204) => x = .exit 4 ∧ Wk 0 st' ⟨mkS 266 0 [(4, .hs 0 0 q_19.length 1), (6, aU32 (wrapF .u32 (wrapF .u64 ((1000000000 : Int).tdiv (wrapF .u64 ((wrapF .u64 (gt b (wrapF .i64 ((b.length : Int) - 1)))) + 1)))))), (7, .hs 1 0 u_202.length 1), (8, .hs 2 0 v5.length 1), (9, aI64 (v5.length : Int)), (10, aI64 j_21), (12, aU64 guess_164), (14, aI64 borrow_203), (15, aU64 carry_204)], [.own (q_19.flatMap (iC .u32)), .own (u_202.flatMap (iC .u32)), .own (v5.flatMap (iC .u32))]⟩) hL211 ((Wk.gc [4, 6, 7, 8, 9, 10, 12, 14, 15, 136, 137] [(0, false), (1, false), (2, false)] rfl (pKo (iC .u32) (iC_pure _) q_19 (pKo (iC .u32) (iC_pure _) u_20 (pKo (iC .u32) (iC_pure _) v5 trivial)))).to (by kernel_rfl)) ?_ ?_
     ·clear hr
      rintro m ⟨u_194, borrow_195, carry_196, x_197⟩ hr
      show CQ _ _ _ _ _ ⟨_, _⟩
      refine .seq <| .r4 fine [4, 6, 7, 8, 9, 10, 12, 14, 15, 136, 137] [(138, aB (decide (x_197 < (v5.length : Int))))] <| .seq ?_
      refine .cd hr (fun hb206 hr => ?_) (fun hb206 hr => ?_)
      ·refine .skip <| .seq <| .block <| .seq <| .r4 fine [4, 6, 7, 8, 9, 10, 12, 14, 15, 136, 137] [(16, aI64 x_197)] <| .seq ?_
       obtain ⟨hg207, hr⟩ := gd hr
       refine .r0 fine <| .mu 3 <| .p0 (v := .hp 2 (0 + x_197.toNat * 1)) (tr (ofP_guard hg207)) <| .p0 (v := aU32 (gt v5 x_197)) (tr (ofP_some (flat_get (iC_len .u32) (inR_lt hg207) (by decide : 0 < 1) (by omega : 0 + x_197.toNat * 1 = x_197.toNat * 1 + 0) (by kernel_rfl)))) <| .mu 5 <| .done <| .nh [4, 6, 7, 8, 9, 10, 12, 14, 16, 17, 136, 137] [.own (q_19.flatMap (iC .u32)), .own (u_194.flatMap (iC .u32)), .own (v5.flatMap (iC .u32))] <| .seq <| .r4 fine [4, 6, 7, 8, 9, 10, 12, 14, 16, 17, 136, 137] [(15, aU64 (wrapF .u64 ((wrapF .u64 ((wrapF .u64 (guess_164 * (wrapF .u64 (gt v5 x_197)))) + carry_196)).tdiv 1000000000)))] <| .seq ?_
       obtain ⟨hg208, hr⟩ := gd hr
       refine .r0 fine <| .mu 4 <| .p0 (v := .hp 1 (0 + (wrapF .i64 (x_197 + j_21)).toNat * 1)) (tr (ofP_guard hg208)) <| .p0 (v := aU32 (gt u_194 (wrapF .i64 (x_197 + j_21)))) (tr (ofP_some (flat_get (iC_len .u32) (inR_lt hg208) (by decide : 0 < 1) (by omega : 0 + (wrapF .i64 (x_197 + j_21)).toNat * 1 = (wrapF .i64 (x_197 + j_21)).toNat * 1 + 0) (by kernel_rfl)))) <| .mu 8 <| .done <| .nh [4, 6, 7, 8, 9, 10, 12, 15, 16, 18, 136, 137] [.own (q_19.flatMap (iC .u32)), .own (u_194.flatMap (iC .u32)), .own (v5.flatMap (iC .u32))] <| .seq <| .r4 fine [4, 6, 7, 8, 9, 10, 12, 15, 16, 18, 136, 137] [(14, aI64 0)] <| .seq <| .seq <| .r4 fine [4, 6, 7, 8, 9, 10, 12, 14, 15, 16, 18, 136, 137] [(165, aB (decide ((wrapF .i64 ((wrapF .i64 ((wrapF .i64 (gt u_194 (wrapF .i64 (x_197 + j_21)))) - borrow_195)) - (wrapF .i64 ((wrapF .u64 ((wrapF .u64 (guess_164 * (wrapF .u64 (gt v5 x_197)))) + carry_196)).tmod 1000000000)))) < 0)))] ?_
       refine .cd hr (fun hb209 hr => ?_) (fun hb209 hr => ?_)
       ·refine .r4 fine [4, 6, 7, 8, 9, 10, 12, 15, 16, 136, 137] [(14, aI64 1), (18, aI64 (wrapF .i64 ((wrapF .i64 ((wrapF .i64 ((wrapF .i64 (gt u_194 (wrapF .i64 (x_197 + j_21)))) - borrow_195)) - (wrapF .i64 ((wrapF .u64 ((wrapF .u64 (guess_164 * (wrapF .u64 (gt v5 x_197)))) + carry_196)).tmod 1000000000)))) + 1000000000)))] <| .r0 fine <| .mu 6 <| .p0 (v := .hp 1 (0 + (wrapF .i64 (x_197 + j_21)).toNat * 1)) (tr (ofP_guard hg208)) <| .e0 (v := .unk) (ws := [(1, .own ((u_194.set (wrapF .i64 (x_197 + j_21)).toNat (wrapF .u32 (wrapF .i64 ((wrapF .i64 ((wrapF .i64 ((wrapF .i64 (gt u_194 (wrapF .i64 (x_197 + j_21)))) - borrow_195)) - (wrapF .i64 ((wrapF .u64 ((wrapF .u64 (guess_164 * (wrapF .u64 (gt v5 x_197)))) + carry_196)).tmod 1000000000)))) + 1000000000)))).flatMap (iC .u32)))]) (tr (stO_t (and_t (flat_fits (n := 1) (iC_len .u32) (inR_lt hg208) (Nat.le_of_ble_eq_true rfl) (by omega : 0 + (wrapF .i64 (x_197 + j_21)).toNat * 1 = (wrapF .i64 (x_197 + j_21)).toNat * 1 + 0))) (congrArg Blk.own (flat_set (xs := [aU32 (wrapF .u32 (wrapF .i64 ((wrapF .i64 ((wrapF .i64 ((wrapF .i64 (gt u_194 (wrapF .i64 (x_197 + j_21)))) - borrow_195)) - (wrapF .i64 ((wrapF .u64 ((wrapF .u64 (guess_164 * (wrapF .u64 (gt v5 x_197)))) + carry_196)).tmod 1000000000)))) + 1000000000)))]) (iC_len .u32) (inR_lt hg208) (Nat.le_of_ble_eq_true rfl) (by omega : 0 + (wrapF .i64 (x_197 + j_21)).toNat * 1 = (wrapF .i64 (x_197 + j_21)).toNat * 1 + 0) (by kernel_rfl))))) <| .done <| .pop <| .ru fine ?_
        exact loopF_back (u_194.set (wrapF .i64 (x_197 + j_21)).toNat (wrapF .u32 (wrapF .i64 ((wrapF .i64 ((wrapF .i64 ((wrapF .i64 (gt u_194 (wrapF .i64 (x_197 + j_21)))) - borrow_195)) - (wrapF .i64 ((wrapF .u64 ((wrapF .u64 (guess_164 * (wrapF .u64 (gt v5 x_197)))) + carry_196)).tmod 1000000000)))) + 1000000000))), 1, wrapF .u64 ((wrapF .u64 ((wrapF .u64 (guess_164 * (wrapF .u64 (gt v5 x_197)))) + carry_196)).tdiv 1000000000), wrapF .i64 (x_197 + 1)) hr ((Wk.relen 7 (b := 1) (es := 1) (len := u_194.length) (u_194.set (wrapF .i64 (x_197 + j_21)).toNat (wrapF .u32 (wrapF .i64 ((wrapF .i64 ((wrapF .i64 ((wrapF .i64 (gt u_194 (wrapF .i64 (x_197 + j_21)))) - borrow_195)) - (wrapF .i64 ((wrapF .u64 ((wrapF .u64 (guess_164 * (wrapF .u64 (gt v5 x_197)))) + carry_196)).tmod 1000000000)))) + 1000000000)))).length (by kernel_rfl) (Eq.symm (List.length_set.trans rfl))).trans ((Wk.gc [4, 6, 7, 8, 9, 10, 12, 14, 15, 136, 137] [(0, false), (1, false), (2, false)] rfl (pKo (iC .u32) (iC_pure _) q_19 (pKo (iC .u32) (iC_pure _) (u_194.set (wrapF .i64 (x_197 + j_21)).toNat (wrapF .u32 (wrapF .i64 ((wrapF .i64 ((wrapF .i64 ((wrapF .i64 (gt u_194 (wrapF .i64 (x_197 + j_21)))) - borrow_195)) - (wrapF .i64 ((wrapF .u64 ((wrapF .u64 (guess_164 * (wrapF .u64 (gt v5 x_197)))) + carry_196)).tmod 1000000000)))) + 1000000000)))) (pKo (iC .u32) (iC_pure _) v5 trivial)))).to (by kernel_rfl)))
       ·refine .skip <| .r0 fine <| .mu 6 <| .p0 (v := .hp 1 (0 + (wrapF .i64 (x_197 + j_21)).toNat * 1)) (tr (ofP_guard hg208)) <| .e0 (v := .unk) (ws := [(1, .own ((u_194.set (wrapF .i64 (x_197 + j_21)).toNat (wrapF .u32 (wrapF .i64 ((wrapF .i64 ((wrapF .i64 (gt u_194 (wrapF .i64 (x_197 + j_21)))) - borrow_195)) - (wrapF .i64 ((wrapF .u64 ((wrapF .u64 (guess_164 * (wrapF .u64 (gt v5 x_197)))) + carry_196)).tmod 1000000000)))))).flatMap (iC .u32)))]) (tr (stO_t (and_t (flat_fits (n := 1) (iC_len .u32) (inR_lt hg208) (Nat.le_of_ble_eq_true rfl) (by omega : 0 + (wrapF .i64 (x_197 + j_21)).toNat * 1 = (wrapF .i64 (x_197 + j_21)).toNat * 1 + 0))) (congrArg Blk.own (flat_set (xs := [aU32 (wrapF .u32 (wrapF .i64 ((wrapF .i64 ((wrapF .i64 (gt u_194 (wrapF .i64 (x_197 + j_21)))) - borrow_195)) - (wrapF .i64 ((wrapF .u64 ((wrapF .u64 (guess_164 * (wrapF .u64 (gt v5 x_197)))) + carry_196)).tmod 1000000000)))))]) (iC_len .u32) (inR_lt hg208) (Nat.le_of_ble_eq_true rfl) (by omega : 0 + (wrapF .i64 (x_197 + j_21)).toNat * 1 = (wrapF .i64 (x_197 + j_21)).toNat * 1 + 0) (by kernel_rfl))))) <| .done <| .pop <| .ru fine ?_
        exact loopF_back (u_194.set (wrapF .i64 (x_197 + j_21)).toNat (wrapF .u32 (wrapF .i64 ((wrapF .i64 ((wrapF .i64 (gt u_194 (wrapF .i64 (x_197 + j_21)))) - borrow_195)) - (wrapF .i64 ((wrapF .u64 ((wrapF .u64 (guess_164 * (wrapF .u64 (gt v5 x_197)))) + carry_196)).tmod 1000000000))))), 0, wrapF .u64 ((wrapF .u64 ((wrapF .u64 (guess_164 * (wrapF .u64 (gt v5 x_197)))) + carry_196)).tdiv 1000000000), wrapF .i64 (x_197 + 1)) hr ((Wk.relen 7 (b := 1) (es := 1) (len := u_194.length) (u_194.set (wrapF .i64 (x_197 + j_21)).toNat (wrapF .u32 (wrapF .i64 ((wrapF .i64 ((wrapF .i64 (gt u_194 (wrapF .i64 (x_197 + j_21)))) - borrow_195)) - (wrapF .i64 ((wrapF .u64 ((wrapF .u64 (guess_164 * (wrapF .u64 (gt v5 x_197)))) + carry_196)).tmod 1000000000)))))).length (by kernel_rfl) (Eq.symm (List.length_set.trans rfl))).trans ((Wk.gc [4, 6, 7, 8, 9, 10, 12, 14, 15, 136, 137] [(0, false), (1, false), (2, false)] rfl (pKo (iC .u32) (iC_pure _) q_19 (pKo (iC .u32) (iC_pure _) (u_194.set (wrapF .i64 (x_197 + j_21)).toNat (wrapF .u32 (wrapF .i64 ((wrapF .i64 ((wrapF .i64 (gt u_194 (wrapF .i64 (x_197 + j_21)))) - borrow_195)) - (wrapF .i64 ((wrapF .u64 ((wrapF .u64 (guess_164 * (wrapF .u64 (gt v5 x_197)))) + carry_196)).tmod 1000000000)))))) (pKo (iC .u32) (iC_pure _) v5 trivial)))).to (by kernel_rfl)))
      ·refine .leave rfl ?_
       obtain rfl := oi hr
       exact ⟨rfl, ((Wk.gc [4, 6, 7, 8, 9, 10, 12, 14, 15] [(0, false), (1, false), (2, false)] rfl (pKo (iC .u32) (iC_pure _) q_19 (pKo (iC .u32) (iC_pure _) u_194 (pKo (iC .u32) (iC_pure _) v5 trivial)))).to (by kernel_rfl))⟩
     ·rcases o210 with ⟨u_202, borrow_203, carry_204⟩
      rintro x st' hq212
      clear hL211
      obtain ⟨rfl, hq212⟩ := hq212
      refine CQ_exit _ rfl <| .wk hq212 <| .seq ?_
      obtain ⟨hg213, hr⟩ := gd hr
      refine .r0 fine <| .mu 4 <| .p0 (v := .hp 1 (0 + (wrapF .i64 (j_21 + (v5.length : Int))).toNat * 1)) (tr (ofP_guard hg213)) <| .p0 (v := aU32 (gt u_202 (wrapF .i64 (j_21 + (v5.length : Int))))) (tr (ofP_some (flat_get (iC_len .u32) (inR_lt hg213) (by decide : 0 < 1) (by omega : 0 + (wrapF .i64 (j_21 + (v5.length : Int))).toNat * 1 = (wrapF .i64 (j_21 + (v5.length : Int))).toNat * 1 + 0) (by kernel_rfl)))) <| .mu 7 <| .done <| .nh [4, 6, 7, 8, 9, 10, 12, 19] [.own (q_19.flatMap (iC .u32)), .own (u_202.flatMap (iC .u32)), .own (v5.flatMap (iC .u32))] <| .seq <| .seq <| .r4 fine [4, 6, 7, 8, 9, 10, 12, 19] [(189, aB (decide ((wrapF .i64 ((wrapF .i64 ((wrapF .i64 (gt u_202 (wrapF .i64 (j_21 + (v5.length : Int))))) - borrow_203)) - (wrapF .i64 carry_204))) < 0)))] ?_
      refine .cd hr (fun hb214 hr => ?_) (fun hb214 hr => ?_)
      ·refine .seq <| .r0 fine <| .mu 7 <| .p0 (v := .hp 1 (0 + (wrapF .i64 (j_21 + (v5.length : Int))).toNat * 1)) (tr (ofP_guard hg213)) <| .e0 (v := .unk) (ws := [(1, .own ((u_202.set (wrapF .i64 (j_21 + (v5.length : Int))).toNat (wrapF .u32 (wrapF .i64 ((wrapF .i64 ((wrapF .i64 ((wrapF .i64 (gt u_202 (wrapF .i64 (j_21 + (v5.length : Int))))) - borrow_203)) - (wrapF .i64 carry_204))) + 1000000000)))).flatMap (iC .u32)))]) (tr (stO_t (and_t (flat_fits (n := 1) (iC_len .u32) (inR_lt hg213) (Nat.le_of_ble_eq_true rfl) (by omega : 0 + (wrapF .i64 (j_21 + (v5.length : Int))).toNat * 1 = (wrapF .i64 (j_21 + (v5.length : Int))).toNat * 1 + 0))) (congrArg Blk.own (flat_set (xs := [aU32 (wrapF .u32 (wrapF .i64 ((wrapF .i64 ((wrapF .i64 ((wrapF .i64 (gt u_202 (wrapF .i64 (j_21 + (v5.length : Int))))) - borrow_203)) - (wrapF .i64 carry_204))) + 1000000000)))]) (iC_len .u32) (inR_lt hg213) (Nat.le_of_ble_eq_true rfl) (by omega : 0 + (wrapF .i64 (j_21 + (v5.length : Int))).toNat * 1 = (wrapF .i64 (j_21 + (v5.length : Int))).toNat * 1 + 0) (by kernel_rfl))))) <| .done <| .nh [4, 6, 7, 8, 9, 10, 12] [.own (q_19.flatMap (iC .u32)), .own ((u_202.set (wrapF .i64 (j_21 + (v5.length : Int))).toNat (wrapF .u32 (wrapF .i64 ((wrapF .i64 ((wrapF .i64 ((wrapF .i64 (gt u_202 (wrapF .i64 (j_21 + (v5.length : Int))))) - borrow_203)) - (wrapF .i64 carry_204))) + 1000000000)))).flatMap (iC .u32)), .own (v5.flatMap (iC .u32))] <| .seq <| .r4 fine [4, 6, 7, 8, 9, 10] [(12, aU64 (wrapF .u64 (guess_164 - 1)))] <| .seq <| .r4 fine [4, 6, 7, 8, 9, 10, 12] [(20, aU32 0)] <| .seq <| .seq <| .r4 fine [4, 6, 7, 8, 9, 10, 12, 20] [(200, aI64 (v5.length : Int)), (201, aI64 0)] <| .block ?_
       replace hr := bd hr; obtain ⟨o229, hL230, hr⟩ := hr
       refine .loopO (σ := fun z0 => match z0 with | (u_215, c_216, x_217) => ⟨mkS 266 0 [(4, .hs 0 0 q_19.length 1), (6, aU32 (wrapF .u32 (wrapF .u64 ((1000000000 : Int).tdiv (wrapF .u64 ((wrapF .u64 (gt b (wrapF .i64 ((b.length : Int) - 1)))) + 1)))))), (7, .hs 1 0 u_215.length 1), (8, .hs 2 0 v5.length 1), (9, aI64 (v5.length : Int)), (10, aI64 j_21), (12, aU64 (wrapF .u64 (guess_164 - 1))), (20, aU32 c_216), (200, aI64 (v5.length : Int)), (201, aI64 x_217)], [.own (q_19.flatMap (iC .u32)), .own (u_215.flatMap (iC .u32)), .own (v5.flatMap (iC .u32))]⟩) (Q := fun x st' => match (generalizing := false) o229 with | (u_222, c_223) => x = .exit 6 ∧ Wk 0 st' ⟨mkS 266 0 [(4, .hs 0 0 q_19.length 1), (6, aU32 (wrapF .u32 (wrapF .u64 ((1000000000 : Int).tdiv (wrapF .u64 ((wrapF .u64 (gt b (wrapF .i64 ((b.length : Int) - 1)))) + 1)))))), (7, .hs 1 0 u_222.length 1), (8, .hs 2 0 v5.length 1), (9, aI64 (v5.length : Int)), (10, aI64 j_21), (12, aU64 (wrapF .u64 (guess_164 - 1))), (20, aU32 c_223)], [.own (q_19.flatMap (iC .u32)), .own (u_222.flatMap (iC .u32)), .own (v5.flatMap (iC .u32))]⟩) hL230 ((Wk.relen 7 (b := 1) (es := 1) (len := u_202.length) (u_202.set (wrapF .i64 (j_21 + (v5.length : Int))).toNat (wrapF .u32 (wrapF .i64 ((wrapF .i64 ((wrapF .i64 ((wrapF .i64 (gt u_202 (wrapF .i64 (j_21 + (v5.length : Int))))) - borrow_203)) - (wrapF .i64 carry_204))) + 1000000000)))).length (by kernel_rfl) (Eq.symm (List.length_set.trans rfl))).trans ((Wk.gc [4, 6, 7, 8, 9, 10, 12, 20, 200, 201] [(0, false), (1, false), (2, false)] rfl (pKo (iC .u32) (iC_pure _) q_19 (pKo (iC .u32) (iC_pure _) (u_202.set (wrapF .i64 (j_21 + (v5.length : Int))).toNat (wrapF .u32 (wrapF .i64 ((wrapF .i64 ((wrapF .i64 ((wrapF .i64 (gt u_202 (wrapF .i64 (j_21 + (v5.length : Int))))) - borrow_203)) - (wrapF .i64 carry_204))) + 1000000000)))) (pKo (iC .u32) (iC_pure _) v5 trivial)))).to (by kernel_rfl))) ?_ ?_
       ·clear hr
        rintro m ⟨u_215, c_216, x_217⟩ hr
        show CQ _ _ _ _ _ ⟨_, _⟩
        refine .seq <| .r4 fine [4, 6, 7, 8, 9, 10, 12, 20, 200, 201] [(202, aB (decide (x_217 < (v5.length : Int))))] <| .seq ?_
        refine .cd hr (fun hb225 hr => ?_) (fun hb225 hr => ?_)
        ·refine .skip <| .seq <| .block <| .seq <| .r4 fine [4, 6, 7, 8, 9, 10, 12, 20, 200, 201] [(21, aI64 x_217)] <| .seq ?_
         obtain ⟨hg226, hg227, hr⟩ := gd2 hr
         refine .regionT fine callOf_nil <| .mu 4 <| .pure (v := .hp 1 (0 + (wrapF .i64 (x_217 + j_21)).toNat * 1)) (by kernel_rfl) (tr (ofP_guard hg226)) (by kernel_rfl) <| .pure (v := aU32 (gt u_215 (wrapF .i64 (x_217 + j_21)))) (by kernel_rfl) (tr (ofP_some (flat_get (iC_len .u32) (inR_lt hg226) (by decide : 0 < 1) (by omega : 0 + (wrapF .i64 (x_217 + j_21)).toNat * 1 = (wrapF .i64 (x_217 + j_21)).toNat * 1 + 0) (by kernel_rfl)))) (by kernel_rfl) <| .mu 2 <| .pure (v := .hp 2 (0 + x_217.toNat * 1)) (by kernel_rfl) (tr (ofP_guard hg227)) (by kernel_rfl) <| .pure (v := aU32 (gt v5 x_217)) (by kernel_rfl) (tr (ofP_some (flat_get (iC_len .u32) (inR_lt hg227) (by decide : 0 < 1) (by omega : 0 + x_217.toNat * 1 = x_217.toNat * 1 + 0) (by kernel_rfl)))) (by kernel_rfl) <| .mu 4 ?_
         refine .done ⟨by kernel_rfl, ?_⟩
         refine .nh [4, 6, 7, 8, 9, 10, 12, 21, 22, 200, 201] [.own (q_19.flatMap (iC .u32)), .own (u_215.flatMap (iC .u32)), .own (v5.flatMap (iC .u32))] <| .seq <| .r4 fine [4, 6, 7, 8, 9, 10, 12, 21, 22, 200, 201] [(20, aU32 0)] <| .seq <| .seq <| .r4 fine [4, 6, 7, 8, 9, 10, 12, 20, 21, 22, 200, 201] [(218, aB (decide ((wrapF .u32 ((wrapF .u32 ((gt u_215 (wrapF .i64 (x_217 + j_21))) + (gt v5 x_217))) + c_216)) ≥ 1000000000)))] ?_
         refine .cd hr (fun hb228 hr => ?_) (fun hb228 hr => ?_)
         ·refine .r4 fine [4, 6, 7, 8, 9, 10, 12, 21, 200, 201] [(20, aU32 1), (22, aU32 (wrapF .u32 ((wrapF .u32 ((wrapF .u32 ((gt u_215 (wrapF .i64 (x_217 + j_21))) + (gt v5 x_217))) + c_216)) - 1000000000)))] <| .r0 fine <| .mu 5 <| .p0 (v := .hp 1 (0 + (wrapF .i64 (x_217 + j_21)).toNat * 1)) (tr (ofP_guard hg226)) <| .e0 (v := .unk) (ws := [(1, .own ((u_215.set (wrapF .i64 (x_217 + j_21)).toNat (wrapF .u32 ((wrapF .u32 ((wrapF .u32 ((gt u_215 (wrapF .i64 (x_217 + j_21))) + (gt v5 x_217))) + c_216)) - 1000000000))).flatMap (iC .u32)))]) (tr (stO_t (and_t (flat_fits (n := 1) (iC_len .u32) (inR_lt hg226) (Nat.le_of_ble_eq_true rfl) (by omega : 0 + (wrapF .i64 (x_217 + j_21)).toNat * 1 = (wrapF .i64 (x_217 + j_21)).toNat * 1 + 0))) (congrArg Blk.own (flat_set (xs := [aU32 (wrapF .u32 ((wrapF .u32 ((wrapF .u32 ((gt u_215 (wrapF .i64 (x_217 + j_21))) + (gt v5 x_217))) + c_216)) - 1000000000))]) (iC_len .u32) (inR_lt hg226) (Nat.le_of_ble_eq_true rfl) (by omega : 0 + (wrapF .i64 (x_217 + j_21)).toNat * 1 = (wrapF .i64 (x_217 + j_21)).toNat * 1 + 0) (by kernel_rfl))))) <| .done <| .pop <| .ru fine ?_
          exact loopF_back (u_215.set (wrapF .i64 (x_217 + j_21)).toNat (wrapF .u32 ((wrapF .u32 ((wrapF .u32 ((gt u_215 (wrapF .i64 (x_217 + j_21))) + (gt v5 x_217))) + c_216)) - 1000000000)), 1, wrapF .i64 (x_217 + 1)) hr ((Wk.relen 7 (b := 1) (es := 1) (len := u_215.length) (u_215.set (wrapF .i64 (x_217 + j_21)).toNat (wrapF .u32 ((wrapF .u32 ((wrapF .u32 ((gt u_215 (wrapF .i64 (x_217 + j_21))) + (gt v5 x_217))) + c_216)) - 1000000000))).length (by kernel_rfl) (Eq.symm (List.length_set.trans rfl))).trans ((Wk.gc [4, 6, 7, 8, 9, 10, 12, 20, 200, 201] [(0, false), (1, false), (2, false)] rfl (pKo (iC .u32) (iC_pure _) q_19 (pKo (iC .u32) (iC_pure _) (u_215.set (wrapF .i64 (x_217 + j_21)).toNat (wrapF .u32 ((wrapF .u32 ((wrapF .u32 ((gt u_215 (wrapF .i64 (x_217 + j_21))) + (gt v5 x_217))) + c_216)) - 1000000000))) (pKo (iC .u32) (iC_pure _) v5 trivial)))).to (by kernel_rfl)))
         ·refine .skip <| .r0 fine <| .mu 5 <| .p0 (v := .hp 1 (0 + (wrapF .i64 (x_217 + j_21)).toNat * 1)) (tr (ofP_guard hg226)) <| .e0 (v := .unk) (ws := [(1, .own ((u_215.set (wrapF .i64 (x_217 + j_21)).toNat (wrapF .u32 ((wrapF .u32 ((gt u_215 (wrapF .i64 (x_217 + j_21))) + (gt v5 x_217))) + c_216))).flatMap (iC .u32)))]) (tr (stO_t (and_t (flat_fits (n := 1) (iC_len .u32) (inR_lt hg226) (Nat.le_of_ble_eq_true rfl) (by omega : 0 + (wrapF .i64 (x_217 + j_21)).toNat * 1 = (wrapF .i64 (x_217 + j_21)).toNat * 1 + 0))) (congrArg Blk.own (flat_set (xs := [aU32 (wrapF .u32 ((wrapF .u32 ((gt u_215 (wrapF .i64 (x_217 + j_21))) + (gt v5 x_217))) + c_216))]) (iC_len .u32) (inR_lt hg226) (Nat.le_of_ble_eq_true rfl) (by omega : 0 + (wrapF .i64 (x_217 + j_21)).toNat * 1 = (wrapF .i64 (x_217 + j_21)).toNat * 1 + 0) (by kernel_rfl))))) <| .done <| .pop <| .ru fine ?_
          exact loopF_back (u_215.set (wrapF .i64 (x_217 + j_21)).toNat (wrapF .u32 ((wrapF .u32 ((gt u_215 (wrapF .i64 (x_217 + j_21))) + (gt v5 x_217))) + c_216)), 0, wrapF .i64 (x_217 + 1)) hr ((Wk.relen 7 (b := 1) (es := 1) (len := u_215.length) (u_215.set (wrapF .i64 (x_217 + j_21)).toNat (wrapF .u32 ((wrapF .u32 ((gt u_215 (wrapF .i64 (x_217 + j_21))) + (gt v5 x_217))) + c_216))).length (by kernel_rfl) (Eq.symm (List.length_set.trans rfl))).trans ((Wk.gc [4, 6, 7, 8, 9, 10, 12, 20, 200, 201] [(0, false), (1, false), (2, false)] rfl (pKo (iC .u32) (iC_pure _) q_19 (pKo (iC .u32) (iC_pure _) (u_215.set (wrapF .i64 (x_217 + j_21)).toNat (wrapF .u32 ((wrapF .u32 ((gt u_215 (wrapF .i64 (x_217 + j_21))) + (gt v5 x_217))) + c_216))) (pKo (iC .u32) (iC_pure _) v5 trivial)))).to (by kernel_rfl)))
        ·refine .leave rfl ?_
         obtain rfl := oi hr
         exact ⟨rfl, ((Wk.gc [4, 6, 7, 8, 9, 10, 12, 20] [(0, false), (1, false), (2, false)] rfl (pKo (iC .u32) (iC_pure _) q_19 (pKo (iC .u32) (iC_pure _) u_215 (pKo (iC .u32) (iC_pure _) v5 trivial)))).to (by kernel_rfl))⟩
       ·rcases o229 with ⟨u_222, c_223⟩
        rintro x st' hq231
        clear hL230
        obtain ⟨rfl, hq231⟩ := hq231
        refine CQ_exit _ rfl <| .wk hq231 ?_
        obtain ⟨hg232, hr⟩ := gd hr
        refine .r0 fine <| .mu 8 <| .p0 (v := .hp 1 (0 + (wrapF .i64 (j_21 + (v5.length : Int))).toNat * 1)) (tr (ofP_guard hg232)) <| .p0 (v := aU32 (gt u_222 (wrapF .i64 (j_21 + (v5.length : Int))))) (tr (ofP_some (flat_get (iC_len .u32) (inR_lt hg232) (by decide : 0 < 1) (by omega : 0 + (wrapF .i64 (j_21 + (v5.length : Int))).toNat * 1 = (wrapF .i64 (j_21 + (v5.length : Int))).toNat * 1 + 0) (by kernel_rfl)))) <| .mu 3 <| .p0 (v := .hp 1 (0 + (wrapF .i64 (j_21 + (v5.length : Int))).toNat * 1)) (tr (ofP_guard hg232)) <| .e0 (v := .unk) (ws := [(1, .own ((u_222.set (wrapF .i64 (j_21 + (v5.length : Int))).toNat ((wrapF .u32 ((gt u_222 (wrapF .i64 (j_21 + (v5.length : Int)))) + c_223)).tmod 1000000000)).flatMap (iC .u32)))]) (tr (stO_t (and_t (flat_fits (n := 1) (iC_len .u32) (inR_lt hg232) (Nat.le_of_ble_eq_true rfl) (by omega : 0 + (wrapF .i64 (j_21 + (v5.length : Int))).toNat * 1 = (wrapF .i64 (j_21 + (v5.length : Int))).toNat * 1 + 0))) (congrArg Blk.own (flat_set (xs := [aU32 ((wrapF .u32 ((gt u_222 (wrapF .i64 (j_21 + (v5.length : Int)))) + c_223)).tmod 1000000000)]) (iC_len .u32) (inR_lt hg232) (Nat.le_of_ble_eq_true rfl) (by omega : 0 + (wrapF .i64 (j_21 + (v5.length : Int))).toNat * 1 = (wrapF .i64 (j_21 + (v5.length : Int))).toNat * 1 + 0) (by kernel_rfl))))) <| .done <| .nh [4, 6, 7, 8, 9, 10, 12] [.own (q_19.flatMap (iC .u32)), .own ((u_222.set (wrapF .i64 (j_21 + (v5.length : Int))).toNat ((wrapF .u32 ((gt u_222 (wrapF .i64 (j_21 + (v5.length : Int)))) + c_223)).tmod 1000000000)).flatMap (iC .u32)), .own (v5.flatMap (iC .u32))] ?_
        obtain ⟨hg233, hr⟩ := gd hr
        refine .r0 fine <| .mu 4 <| .p0 (v := .hp 0 (0 + j_21.toNat * 1)) (tr (ofP_guard hg233)) <| .e0 (v := .unk) (ws := [(0, .own ((q_19.set j_21.toNat (wrapF .u32 (wrapF .u64 (guess_164 - 1)))).flatMap (iC .u32)))]) (tr (stO_t (and_t (flat_fits (n := 1) (iC_len .u32) (inR_lt hg233) (Nat.le_of_ble_eq_true rfl) (by omega : 0 + j_21.toNat * 1 = j_21.toNat * 1 + 0))) (congrArg Blk.own (flat_set (xs := [aU32 (wrapF .u32 (wrapF .u64 (guess_164 - 1)))]) (iC_len .u32) (inR_lt hg233) (Nat.le_of_ble_eq_true rfl) (by omega : 0 + j_21.toNat * 1 = j_21.toNat * 1 + 0) (by kernel_rfl))))) <| .done <| .pop <| .ru fine ?_
        exact loopF_back (q_19.set j_21.toNat (wrapF .u32 (wrapF .u64 (guess_164 - 1))), u_222.set (wrapF .i64 (j_21 + (v5.length : Int))).toNat ((wrapF .u32 ((gt u_222 (wrapF .i64 (j_21 + (v5.length : Int)))) + c_223)).tmod 1000000000), wrapF .i64 (j_21 - 1)) hr ((Wk.relen 4 (b := 0) (es := 1) (len := q_19.length) (q_19.set j_21.toNat (wrapF .u32 (wrapF .u64 (guess_164 - 1)))).length (by kernel_rfl) (Eq.symm (List.length_set.trans rfl))).trans ((Wk.relen 7 (b := 1) (es := 1) (len := u_222.length) (u_222.set (wrapF .i64 (j_21 + (v5.length : Int))).toNat ((wrapF .u32 ((gt u_222 (wrapF .i64 (j_21 + (v5.length : Int)))) + c_223)).tmod 1000000000)).length (by kernel_rfl) (Eq.symm (List.length_set.trans rfl))).trans ((Wk.gc [4, 6, 7, 8, 9, 10] [(0, false), (1, false), (2, false)] rfl (pKo (iC .u32) (iC_pure _) (q_19.set j_21.toNat (wrapF .u32 (wrapF .u64 (guess_164 - 1)))) (pKo (iC .u32) (iC_pure _) (u_222.set (wrapF .i64 (j_21 + (v5.length : Int))).toNat ((wrapF .u32 ((gt u_222 (wrapF .i64 (j_21 + (v5.length : Int)))) + c_223)).tmod 1000000000)) (pKo (iC .u32) (iC_pure _) v5 trivial)))).to (by kernel_rfl))))
      ·refine .r0 fine <| .mu 6 <| .p0 (v := .hp 1 (0 + (wrapF .i64 (j_21 + (v5.length : Int))).toNat * 1)) (tr (ofP_guard hg213)) <| .e0 (v := .unk) (ws := [(1, .own ((u_202.set (wrapF .i64 (j_21 + (v5.length : Int))).toNat (wrapF .u32 (wrapF .i64 ((wrapF .i64 ((wrapF .i64 (gt u_202 (wrapF .i64 (j_21 + (v5.length : Int))))) - borrow_203)) - (wrapF .i64 carry_204))))).flatMap (iC .u32)))]) (tr (stO_t (and_t (flat_fits (n := 1) (iC_len .u32) (inR_lt hg213) (Nat.le_of_ble_eq_true rfl) (by omega : 0 + (wrapF .i64 (j_21 + (v5.length : Int))).toNat * 1 = (wrapF .i64 (j_21 + (v5.length : Int))).toNat * 1 + 0))) (congrArg Blk.own (flat_set (xs := [aU32 (wrapF .u32 (wrapF .i64 ((wrapF .i64 ((wrapF .i64 (gt u_202 (wrapF .i64 (j_21 + (v5.length : Int))))) - borrow_203)) - (wrapF .i64 carry_204))))]) (iC_len .u32) (inR_lt hg213) (Nat.le_of_ble_eq_true rfl) (by omega : 0 + (wrapF .i64 (j_21 + (v5.length : Int))).toNat * 1 = (wrapF .i64 (j_21 + (v5.length : Int))).toNat * 1 + 0) (by kernel_rfl))))) <| .done <| .nh [4, 6, 7, 8, 9, 10, 12] [.own (q_19.flatMap (iC .u32)), .own ((u_202.set (wrapF .i64 (j_21 + (v5.length : Int))).toNat (wrapF .u32 (wrapF .i64 ((wrapF .i64 ((wrapF .i64 (gt u_202 (wrapF .i64 (j_21 + (v5.length : Int))))) - borrow_203)) - (wrapF .i64 carry_204))))).flatMap (iC .u32)), .own (v5.flatMap (iC .u32))] ?_
       obtain ⟨hg234, hr⟩ := gd hr
       refine .r0 fine <| .mu 4 <| .p0 (v := .hp 0 (0 + j_21.toNat * 1)) (tr (ofP_guard hg234)) <| .e0 (v := .unk) (ws := [(0, .own ((q_19.set j_21.toNat (wrapF .u32 guess_164)).flatMap (iC .u32)))]) (tr (stO_t (and_t (flat_fits (n := 1) (iC_len .u32) (inR_lt hg234) (Nat.le_of_ble_eq_true rfl) (by omega : 0 + j_21.toNat * 1 = j_21.toNat * 1 + 0))) (congrArg Blk.own (flat_set (xs := [aU32 (wrapF .u32 guess_164)]) (iC_len .u32) (inR_lt hg234) (Nat.le_of_ble_eq_true rfl) (by omega : 0 + j_21.toNat * 1 = j_21.toNat * 1 + 0) (by kernel_rfl))))) <| .done <| .pop <| .ru fine ?_
       exact loopF_back (q_19.set j_21.toNat (wrapF .u32 guess_164), u_202.set (wrapF .i64 (j_21 + (v5.length : Int))).toNat (wrapF .u32 (wrapF .i64 ((wrapF .i64 ((wrapF .i64 (gt u_202 (wrapF .i64 (j_21 + (v5.length : Int))))) - borrow_203)) - (wrapF .i64 carry_204)))), wrapF .i64 (j_21 - 1)) hr ((Wk.relen 4 (b := 0) (es := 1) (len := q_19.length) (q_19.set j_21.toNat (wrapF .u32 guess_164)).length (by kernel_rfl) (Eq.symm (List.length_set.trans rfl))).trans ((Wk.relen 7 (b := 1) (es := 1) (len := u_202.length) (u_202.set (wrapF .i64 (j_21 + (v5.length : Int))).toNat (wrapF .u32 (wrapF .i64 ((wrapF .i64 ((wrapF .i64 (gt u_202 (wrapF .i64 (j_21 + (v5.length : Int))))) - borrow_203)) - (wrapF .i64 carry_204))))).length (by kernel_rfl) (Eq.symm (List.length_set.trans rfl))).trans ((Wk.gc [4, 6, 7, 8, 9, 10] [(0, false), (1, false), (2, false)] rfl (pKo (iC .u32) (iC_pure _) (q_19.set j_21.toNat (wrapF .u32 guess_164)) (pKo (iC .u32) (iC_pure _) (u_202.set (wrapF .i64 (j_21 + (v5.length : Int))).toNat (wrapF .u32 (wrapF .i64 ((wrapF .i64 ((wrapF .i64 (gt u_202 (wrapF .i64 (j_21 + (v5.length : Int))))) - borrow_203)) - (wrapF .i64 carry_204))))) (pKo (iC .u32) (iC_pure _) v5 trivial)))).to (by kernel_rfl))))
   ·refine .leave rfl ?_
    obtain rfl := oi hr
    exact ⟨rfl, ((Wk.gc [4, 6, 7, 9] [(0, false), (1, false)] rfl (pKo (iC .u32) (iC_pure _) q_19 (pKo (iC .u32) (iC_pure _) u_20 trivial))).to (by kernel_rfl))⟩
  ·rcases o235 with ⟨q_127, u_128⟩
   rintro x st' hq237
   clear hL236
   obtain ⟨rfl, hq237⟩ := hq237
   refine CQ_exit _ rfl <| .wk hq237 <| .seq ?_
   obtain ⟨hg238, hr⟩ := gd hr
   obtain ⟨v239, hc240, v241, hc242, hr⟩ := bd2 hr
   refine .gn fine (ca1 (callOk_ref (args := [.hs 1 0 (v5.length : Int).toNat 1]) (l := [1]) (SnL.cons (Sn.hsk (iC_len _) (iC_pure _) (inS_le hg238) rfl (.inl rfl)) SnL.nil) (integer_trim_ok n (u_128.take (v5.length : Int).toNat) v239 hc240)) (ca4 [.own (q_127.flatMap (iC .u32)), .fix (u_128.flatMap (iC .u32))] (ok0 (integer_short_ok n v239 (wrapF .u32 (wrapF .u64 ((1000000000 : Int).tdiv (wrapF .u64 ((wrapF .u64 (gt b (wrapF .i64 ((b.length : Int) - 1)))) + 1))))) v241 hc242)))) <| .mu 2 <| .p0 (v := .hs 1 0 (v5.length : Int).toNat 1) (Eq.trans (b := slH (inS 0 (v5.length : Int) u_128.length) true ((0 : Int).toNat) ((v5.length : Int).toNat) (fun z1 z2 => .hs 1 (0 + z1 * 1) (z2 - z1) 1)) (by kernel_rfl) (slH_t hg238 (by kernel_rfl))) <| .ca cf0 <| .mu 1 <| .ca (cfF cf0) <| .mu 4 <| .done <| .nh [4, 5] [.own (q_127.flatMap (iC .u32)), .fix (u_128.flatMap (iC .u32))] <| .seq ?_
   obtain ⟨v243, hc244, hr⟩ := bd hr
   refine .g1 fine (callOk_ref (args := [.hs 0 0 q_127.length 1]) (l := [0]) (SnL.cons (Sn.hs rfl (.inl rfl) (SnC.pure (ids_flat (iC_pure _) _)) (fun h => flat_nil0 h)) SnL.nil) (integer_trim_ok n q_127 v243 hc244)) <| .mu 1 <| .ca cf0 <| .mu 3 <| .done <| .ret ?_
   obtain rfl := oi hr
   exact FinQ.ret (vs := [sU32 v243, sU32 v241.1]) (by kernel_rfl) (Sn.tup (SnL.cons (Sn.pure rfl) (SnL.cons (Sn.pure rfl) SnL.nil)))

theorem integer_over_ok (n : Nat) (a : List Int) (b : List Int) (r : List Int × List Int) (hr : integer_over n a b = some r) : FnOk Tryz.prog 168 [sU32 a, sU32 b] (.tup [sU32 r.1, sU32 r.2]) := by
 unfold integer_over at hr
 refine FnOk.bd fine Tryz.func168 [.tmp 4, .tmp 5] ?_
 unfold Tryz.f168
 simp only [Option.getD_some]
 refine .seq <| .r4 fine [0, 1] [] <| .seq <| .seq ?_
 obtain ⟨v1, hc2, hr⟩ := bd hr
 refine .g1 fine (ok0 (integer_compare_ok n a b v1 hc2)) <| .mu 2 <| .ca cf0 <| .mu 1 <| .done <| .nh [0, 1, 15] [] ?_
 refine .cd hr (fun hb3 hr => ?_) (fun hb3 hr => ?_)
 ·refine .seq <| .r3 fine 59 [(4, nS), (5, sU32 a)] <| .ret ?_
  obtain rfl := oi hr
  exact FinQ.ret (vs := [nS, sU32 a]) (by kernel_rfl) (Sn.tup (SnL.cons Sn.nilsl (SnL.cons (Sn.pure rfl) SnL.nil)))
 ·refine .skip <| .seq ?_
  obtain ⟨v4, hc5, hr⟩ := bd hr
  refine .g1 fine (ok0 (integer_word_ok n a v4 hc5)) <| .mu 1 <| .ca cf0 <| .mu 5 <| .done <| .nh [0, 1, 6, 7] [] <| .seq ?_
  obtain ⟨v6, hc7, hr⟩ := bd hr
  refine .g1 fine (ok0 (integer_word_ok n b v6 hc7)) <| .mu 1 <| .ca cf0 <| .mu 5 <| .done <| .nh [0, 1, 6, 7, 8, 9] [] <| .seq <| .seq ?_
  rcases Bool.eq_false_or_eq_true v4.2 with hb8 | hb8
  ·replace hr := cd_t hb8 hr
   refine .r0 fine <| .p0 (v := aB true) (eB hb8) <| .mu 3 <| .done <| .nh [0, 1, 6, 8, 30] [] ?_
   refine .cd hr (fun hb9 hr => ?_) (fun hb9 hr => ?_)
   ·refine .seq ?_
    obtain ⟨hg10, hr⟩ := gd hr
    obtain ⟨v11, hc12, v13, hc14, hr⟩ := bd2 hr
    refine .tn fine (ca1 (ok0 (integer_split_ok n (wrapF .u64 (v4.1.tdiv v6.1)) v11 hc12)) (ca3 (ok0 (integer_split_ok n (v4.1.tmod v6.1) v13 hc14)))) <| .mu 2 <| .pure (v := aU64 (wrapF .u64 (v4.1.tdiv v6.1))) (by kernel_rfl) (op_quo (x := v4.1) (y := v6.1) (by kernel_rfl) (by kernel_rfl) hg10) (by kernel_rfl) <| .ca cf0 <| .mu 2 <| .pure (v := aU64 (v4.1.tmod v6.1)) (by kernel_rfl) (op_rem (x := v4.1) (y := v6.1) (by kernel_rfl) (by kernel_rfl) hg10) (by kernel_rfl) <| .ca (cfA (fun h => by rw [sv hc14 hc12 (integer_split_cg n h)]) cf0) <| .mu 2 ?_
    refine .done ⟨by kernel_rfl, ?_⟩
    refine .ret ?_
    obtain rfl := oi hr
    exact FinQ.ret (vs := [sU32 v11, sU32 v13]) (by kernel_rfl) (Sn.tup (SnL.cons (Sn.pure rfl) (SnL.cons (Sn.pure rfl) SnL.nil)))
   ·refine .skip <| .seq <| .seq <| .r4 fine [0, 1] [(41, aB (((b.length : Int) : Int) == 1))] ?_
    refine .cd hr (fun hb15 hr => ?_) (fun hb15 hr => ?_)
    ·refine .seq ?_
     obtain ⟨hg16, hr⟩ := gd hr
     obtain ⟨v17, hc18, hr⟩ := bd hr
     refine .g1 fine (ok0 (integer_short_ok n a (gt b 0) v17 hc18)) <| .mu 2 <| .p0 (v := .pp (b.flatMap (iC .u32)) ((0 : Int).toNat * 1)) (tr (ofP_guard hg16)) <| .p0 (v := aU32 (gt b 0)) (tr (ofP_some (flat_get (iC_len .u32) (inR_lt hg16) (by decide : 0 < 1) (by omega : (0 : Int).toNat * 1 = (0 : Int).toNat * 1 + 0) (by kernel_rfl)))) <| .ca cf0 <| .mu 5 <| .done <| .nh [10, 11] [] <| .seq ?_
     obtain ⟨v19, hc20, hr⟩ := bd hr
     refine .g1 fine (ok0 (integer_split_ok n (wrapF .u64 v17.2) v19 hc20)) <| .mu 3 <| .ca cf0 <| .mu 2 <| .done <| .ret ?_
     obtain rfl := oi hr
     exact FinQ.ret (vs := [sU32 v17.1, sU32 v19]) (by kernel_rfl) (Sn.tup (SnL.cons (Sn.pure rfl) (SnL.cons (Sn.pure rfl) SnL.nil)))
    ·refine .skip <| .seq ?_
     obtain ⟨v21, hc22, hr⟩ := bd hr
     refine .g1 fine (ok0 (integer_long_ok n a b v21 hc22)) <| .mu 2 <| .ca cf0 <| .mu 4 <| .done <| .ret ?_
     obtain rfl := oi hr
     exact FinQ.ret (vs := [sU32 v21.1, sU32 v21.2]) (by kernel_rfl) (Sn.tup (SnL.cons (Sn.pure rfl) (SnL.cons (Sn.pure rfl) SnL.nil)))
  ·replace hr := cd_f hb8 hr
   refine .r0 fine <| .p0 (v := aB false) (eB hb8) <| .mu 3 <| .done <| .nh [0, 1, 6, 8, 30] [] <| .cF (by kernel_rfl) <| .skip <| .seq <| .seq <| .r4 fine [0, 1] [(41, aB (((b.length : Int) : Int) == 1))] ?_
   refine .cd hr (fun hb23 hr => ?_) (fun hb23 hr => ?_)
   ·refine .seq ?_
    obtain ⟨hg24, hr⟩ := gd hr
    obtain ⟨v25, hc26, hr⟩ := bd hr
    refine .g1 fine (ok0 (integer_short_ok n a (gt b 0) v25 hc26)) <| .mu 2 <| .p0 (v := .pp (b.flatMap (iC .u32)) ((0 : Int).toNat * 1)) (tr (ofP_guard hg24)) <| .p0 (v := aU32 (gt b 0)) (tr (ofP_some (flat_get (iC_len .u32) (inR_lt hg24) (by decide : 0 < 1) (by omega : (0 : Int).toNat * 1 = (0 : Int).toNat * 1 + 0) (by kernel_rfl)))) <| .ca cf0 <| .mu 5 <| .done <| .nh [10, 11] [] <| .seq ?_
    obtain ⟨v27, hc28, hr⟩ := bd hr
    refine .g1 fine (ok0 (integer_split_ok n (wrapF .u64 v25.2) v27 hc28)) <| .mu 3 <| .ca cf0 <| .mu 2 <| .done <| .ret ?_
    obtain rfl := oi hr
    exact FinQ.ret (vs := [sU32 v25.1, sU32 v27]) (by kernel_rfl) (Sn.tup (SnL.cons (Sn.pure rfl) (SnL.cons (Sn.pure rfl) SnL.nil)))
   ·refine .skip <| .seq ?_
    obtain ⟨v29, hc30, hr⟩ := bd hr
    refine .g1 fine (ok0 (integer_long_ok n a b v29 hc30)) <| .mu 2 <| .ca cf0 <| .mu 4 <| .done <| .ret ?_
    obtain rfl := oi hr
    exact FinQ.ret (vs := [sU32 v29.1, sU32 v29.2]) (by kernel_rfl) (Sn.tup (SnL.cons (Sn.pure rfl) (SnL.cons (Sn.pure rfl) SnL.nil)))

theorem integer_Gcd_ok (n : Nat) (x' : api_Int) (y : api_Int) (r : api_Int) (hr : integer_Gcd n x' y = some r) : FnOk Tryz.prog 173 [.agg (api_Int.c x'), .agg (api_Int.c y)] (.agg (api_Int.c r)) := by
 unfold integer_Gcd at hr
 refine FnOk.bd fine Tryz.func173 [.cell 4 72] ?_
 unfold Tryz.f173
 simp only [Option.getD_some]
 refine .seq <| .r2 fine 54 [(2, .hp 0 0), (3, .hp 1 0), (4, .hp 2 0)] [.own (api_Int.c x'), .own (api_Int.c y), .own [aB false, nS]] <| .seq ?_
 obtain ⟨v1, hc2, v3, hc4, hr⟩ := bd2 hr
 refine .tn fine (ca1 (ok0 (integer_groups_ok n x' v1 hc2)) (ca3 (ok0 (integer_groups_ok n y v3 hc4)))) <| .mu 1 <| .ca cf0 <| .mu 1 <| .ca (cfA (fun h => by rw [sv hc4 hc2 (integer_groups_cg n h)]) cf0) <| .mu 2 ?_
 refine .done ⟨by kernel_rfl, ?_⟩
 refine .nh [4, 5, 6] [.own (api_Int.c x'), .own (api_Int.c y), .own [aB false, nS]] <| .seq <| .block ?_
 replace hr := bd hr; obtain ⟨o61, hL62, hr⟩ := hr
 refine .loopO (σ := fun z0 => match z0 with | (a_5, b_6) => ⟨mkS 54 0 [(4, .hp 0 0), (5, sU32 a_5), (6, sU32 b_6)], [.own [aB false, nS]]⟩) (Q := fun x st' => match (generalizing := false) o61 with | .inl a_33 => x = .exit 0 ∧ Wk 0 st' ⟨mkS 54 0 [(4, .hp 0 0), (5, sU32 a_33)], [.own [aB false, nS]]⟩ | .inr (r0) => x = .ret ∧ FinQ Tryz.prog [.cell 4 72] (.agg (api_Int.c r0)) .ret st') hL62 ((Wk.gc [4, 5, 6] [(2, true)] rfl trivial).to (by kernel_rfl)) ?_ ?_
 ·clear hr
  rintro m ⟨a_5, b_6⟩ hr
  show CQ _ _ _ _ _ ⟨_, _⟩
  refine .seq <| .seq <| .r4 fine [4, 5, 6] [(19, aB (decide ((b_6.length : Int) > 0)))] ?_
  refine .cd hr (fun hb35 hr => ?_) (fun hb35 hr => ?_)
  ·refine .skip <| .block <| .seq ?_
   obtain ⟨v36, hc37, hr⟩ := bd hr
   refine .g1 fine (ok0 (integer_word_ok n a_5 v36 hc37)) <| .mu 1 <| .ca cf0 <| .mu 5 <| .done <| .nh [4, 5, 6, 7, 8] [.own [aB false, nS]] <| .seq ?_
   obtain ⟨v38, hc39, hr⟩ := bd hr
   refine .g1 fine (ok0 (integer_word_ok n b_6 v38 hc39)) <| .mu 1 <| .ca cf0 <| .mu 5 <| .done <| .nh [4, 5, 6, 7, 8, 9, 10] [.own [aB false, nS]] <| .seq <| .seq ?_
   rcases Bool.eq_false_or_eq_true v36.2 with hb40 | hb40
   ·replace hr := cd_t hb40 hr
    refine .r0 fine <| .p0 (v := aB true) (eB hb40) <| .mu 3 <| .done <| .nh [4, 5, 6, 7, 9, 33] [.own [aB false, nS]] ?_
    refine .cd hr (fun hb41 hr => ?_) (fun hb41 hr => ?_)
    ·refine .seq <| .block ?_
     replace hr := bd hr; obtain ⟨m_46, hL51, hr⟩ := hr
     refine .loopO (σ := fun z0 => match z0 with | (m_42, n_43) => ⟨mkS 54 0 [(4, .hp 0 0), (7, aU64 m_42), (9, aU64 n_43)], [.own [aB false, nS]]⟩) (Q := fun x st' => x = .exit 2 ∧ Wk 0 st' ⟨mkS 54 0 [(4, .hp 0 0), (7, aU64 m_46)], [.own [aB false, nS]]⟩) hL51 ((Wk.gc [4, 7, 9] [(0, true)] rfl trivial).to (by kernel_rfl)) ?_ ?_
     ·clear hr
      rintro m ⟨m_42, n_43⟩ hr
      show CQ _ _ _ _ _ ⟨_, _⟩
      refine .seq <| .seq <| .r4 fine [4, 7, 9] [(35, aB (decide (n_43 > 0)))] ?_
      refine .cd hr (fun hb48 hr => ?_) (fun hb48 hr => ?_)
      ·refine .skip <| .block ?_
       obtain ⟨hg49, hr⟩ := gd hr
       refine .regionT fine callOf_nil <| .mu 3 <| .pure (v := aU64 (m_42.tmod n_43)) (by kernel_rfl) (op_rem (x := m_42) (y := n_43) (by kernel_rfl) (by kernel_rfl) hg49) (by kernel_rfl) <| .mu 2 ?_
       refine .done ⟨by kernel_rfl, ?_⟩
       refine .pop ?_
       exact loopF_back (n_43, m_42.tmod n_43) hr ((Wk.gc [4, 7, 9] [(0, true)] rfl trivial).to (by kernel_rfl))
      ·refine .leave rfl ?_
       obtain rfl := oi hr
       exact ⟨rfl, ((Wk.gc [4, 7] [(0, true)] rfl trivial).to (by kernel_rfl))⟩
     ·rintro x st' hq52
      clear hL51
      obtain ⟨rfl, hq52⟩ := hq52
      refine CQ_exit _ rfl <| .wk hq52 <| .seq ?_
      obtain ⟨v53, hc54, v55, hc56, hr⟩ := bd2 hr
      refine .gn fine (ca1 (ok0 (integer_split_ok n m_46 v53 hc54)) (ca3 (ok0 (integer_made_ok n false v53 v55 hc56)))) <| .mu 1 <| .ca cf0 <| .ca (cfF cf0) <| .mu 1 <| .done <| .nh [4] [.own (api_Int.c v55)] <| .ret ?_
      obtain rfl := oi hr
      exact ⟨rfl, FinQ.ret (vs := [.agg (api_Int.c v55)]) (by kernel_rfl) (Sn.pure rfl)⟩
    ·refine .skip <| .seq ?_
     obtain ⟨v57, hc58, hr⟩ := bd hr
     refine .g1 fine (ok0 (integer_over_ok n a_5 b_6 v57 hc58)) <| .mu 2 <| .ca cf0 <| .mu 5 <| .done <| .nh [4, 6, 12] [.own [aB false, nS]] <| .ru fine <| .pop ?_
     exact loopF_back (b_6, v57.2) hr ((Wk.gc [4, 5, 6] [(0, true)] rfl trivial).to (by kernel_rfl))
   ·replace hr := cd_f hb40 hr
    refine .r0 fine <| .p0 (v := aB false) (eB hb40) <| .mu 3 <| .done <| .nh [4, 5, 6, 7, 9, 33] [.own [aB false, nS]] <| .cF (by kernel_rfl) <| .skip <| .seq ?_
    obtain ⟨v59, hc60, hr⟩ := bd hr
    refine .g1 fine (ok0 (integer_over_ok n a_5 b_6 v59 hc60)) <| .mu 2 <| .ca cf0 <| .mu 5 <| .done <| .nh [4, 6, 12] [.own [aB false, nS]] <| .ru fine <| .pop ?_
    exact loopF_back (b_6, v59.2) hr ((Wk.gc [4, 5, 6] [(0, true)] rfl trivial).to (by kernel_rfl))
  ·refine .leave rfl ?_
   obtain rfl := oi hr
   exact ⟨rfl, ((Wk.gc [4, 5] [(0, true)] rfl trivial).to (by kernel_rfl))⟩
 ·rcases o61 with a_33 | r0
  ·rintro x st' hq63
   clear hL62
   obtain ⟨rfl, hq63⟩ := hq63
   refine CQ_exit _ rfl <| .wk hq63 <| .seq ?_
   obtain ⟨v64, hc65, v66, hc67, hr⟩ := bd2 hr
   refine .gn fine (ca1 (ok0 (slices_Clone_uint32_uint32_ok n a_33 v64 hc65)) (ca3 (ok0 (integer_made_ok n false v64 v66 hc67)))) <| .mu 1 <| .ca cf0 <| .ca (cfF cf0) <| .mu 1 <| .done <| .nh [4] [.own (api_Int.c v66)] <| .ret ?_
   obtain rfl := oi hr
   exact FinQ.r1 [.agg (api_Int.c v66)]
  ·rintro x st' hq63
   clear hL62
   obtain ⟨rfl, hq63⟩ := hq63
   obtain rfl := oi hr
   exact CQ_ret _ hq63

theorem integer_plus_ok (n : Nat) (a : List Int) (b : List Int) (r : List Int) (hr : integer_plus n a b = some r) : FnOk Tryz.prog 170 [sU32 a, sU32 b] (sU32 r) := by
 unfold integer_plus at hr
 refine FnOk.bd fine Tryz.func170 [.tmp 4] ?_
 unfold Tryz.f170
 simp only [Option.getD_some]
 refine .seq <| .r4 fine [0, 1] [] <| .seq ?_
 obtain ⟨hg1, hg2, hg3, hr⟩ := gd3 hr
 refine .r0 fine <| .mu 6 <| .e0 (v := .hs 0 0 (List.replicate (wrapF .i64 ((mx (a.length : Int) (b.length : Int)) + 1)).toNat ((0 : Int) : Int)).length 1) (ws := [(0, .own ((List.replicate (wrapF .i64 ((mx (a.length : Int) (b.length : Int)) + 1)).toNat ((0 : Int) : Int)).flatMap (iC .u32)))]) (tr (make_own (c := (iC .u32)) (z := (0 : Int)) (n := wrapF .i64 ((mx (a.length : Int) (b.length : Int)) + 1)) (by_ := 4) rfl hg1 hg2 hg3)) <| .mu 1 <| .done <| .nh [0, 1, 5] [.own ((List.replicate (wrapF .i64 ((mx (a.length : Int) (b.length : Int)) + 1)).toNat ((0 : Int) : Int)).flatMap (iC .u32))] <| .seq <| .r4 fine [0, 1, 5] [(6, aU32 0)] <| .seq <| .seq <| .r4 fine [0, 1, 5, 6] [(17, aI64 ((List.replicate (wrapF .i64 ((mx (a.length : Int) (b.length : Int)) + 1)).toNat ((0 : Int) : Int)).length : Int)), (18, aI64 0)] <| .block ?_
 replace hr := bd hr; obtain ⟨out_15, hL26, hr⟩ := hr
 refine .loopO (σ := fun z0 => match z0 with | (out_4, carry_5, x_6) => ⟨mkS 41 0 [(0, sU32 a), (1, sU32 b), (5, .hs 0 0 out_4.length 1), (6, aU32 carry_5), (17, aI64 ((List.replicate (wrapF .i64 ((mx (a.length : Int) (b.length : Int)) + 1)).toNat ((0 : Int) : Int)).length : Int)), (18, aI64 x_6)], [.own (out_4.flatMap (iC .u32))]⟩) (Q := fun x st' => x = .exit 0 ∧ Wk 0 st' ⟨mkS 41 0 [(5, .hs 0 0 out_15.length 1)], [.own (out_15.flatMap (iC .u32))]⟩) hL26 ((Wk.gc [0, 1, 5, 6, 17, 18] [(0, false)] rfl (pKo (iC .u32) (iC_pure _) (List.replicate (wrapF .i64 ((mx (a.length : Int) (b.length : Int)) + 1)).toNat ((0 : Int) : Int)) trivial)).to (by kernel_rfl)) ?_ ?_
 ·clear hr
  rintro m ⟨out_4, carry_5, x_6⟩ hr
  show CQ _ _ _ _ _ ⟨_, _⟩
  refine .seq <| .r4 fine [0, 1, 5, 6, 17, 18] [(19, aB (decide (x_6 < ((List.replicate (wrapF .i64 ((mx (a.length : Int) (b.length : Int)) + 1)).toNat ((0 : Int) : Int)).length : Int))))] <| .seq ?_
  refine .cd hr (fun hb17 hr => ?_) (fun hb17 hr => ?_)
  ·refine .skip <| .seq <| .block <| .seq <| .r4 fine [0, 1, 5, 6, 17, 18] [(7, aI64 x_6)] <| .seq ?_
   obtain ⟨v18, hc19, v20, hc21, hr⟩ := bd2 hr
   refine .gn fine (ca1 (ok0 (integer_at_ok n a x_6 v18 hc19)) (ca3 (ok0 (integer_at_ok n b x_6 v20 hc21)))) <| .mu 2 <| .ca cf0 <| .mu 2 <| .ca (cfA (fun h => by rw [sv hc21 hc19 (integer_at_cg n h)]) cf0) <| .mu 4 <| .done <| .nh [0, 1, 5, 7, 8, 17, 18] [.own (out_4.flatMap (iC .u32))] <| .seq <| .r4 fine [0, 1, 5, 7, 8, 17, 18] [(6, aU32 0)] <| .seq <| .seq <| .r4 fine [0, 1, 5, 6, 7, 8, 17, 18] [(31, aB (decide ((wrapF .u32 ((wrapF .u32 (v18 + v20)) + carry_5)) ≥ 1000000000)))] ?_
   refine .cd hr (fun hb22 hr => ?_) (fun hb22 hr => ?_)
   ·refine .r4 fine [0, 1, 5, 7, 17, 18] [(6, aU32 1), (8, aU32 (wrapF .u32 ((wrapF .u32 ((wrapF .u32 (v18 + v20)) + carry_5)) - 1000000000)))] ?_
    obtain ⟨hg23, hr⟩ := gd hr
    refine .r0 fine <| .mu 3 <| .p0 (v := .hp 0 (0 + x_6.toNat * 1)) (tr (ofP_guard hg23)) <| .e0 (v := .unk) (ws := [(0, .own ((out_4.set x_6.toNat (wrapF .u32 ((wrapF .u32 ((wrapF .u32 (v18 + v20)) + carry_5)) - 1000000000))).flatMap (iC .u32)))]) (tr (stO_t (and_t (flat_fits (n := 1) (iC_len .u32) (inR_lt hg23) (Nat.le_of_ble_eq_true rfl) (by omega : 0 + x_6.toNat * 1 = x_6.toNat * 1 + 0))) (congrArg Blk.own (flat_set (xs := [aU32 (wrapF .u32 ((wrapF .u32 ((wrapF .u32 (v18 + v20)) + carry_5)) - 1000000000))]) (iC_len .u32) (inR_lt hg23) (Nat.le_of_ble_eq_true rfl) (by omega : 0 + x_6.toNat * 1 = x_6.toNat * 1 + 0) (by kernel_rfl))))) <| .done <| .pop <| .ru fine ?_
    exact loopF_back (out_4.set x_6.toNat (wrapF .u32 ((wrapF .u32 ((wrapF .u32 (v18 + v20)) + carry_5)) - 1000000000)), 1, wrapF .i64 (x_6 + 1)) hr ((Wk.relen 5 (b := 0) (es := 1) (len := out_4.length) (out_4.set x_6.toNat (wrapF .u32 ((wrapF .u32 ((wrapF .u32 (v18 + v20)) + carry_5)) - 1000000000))).length (by kernel_rfl) (Eq.symm (List.length_set.trans rfl))).trans ((Wk.gc [0, 1, 5, 6, 17, 18] [(0, false)] rfl (pKo (iC .u32) (iC_pure _) (out_4.set x_6.toNat (wrapF .u32 ((wrapF .u32 ((wrapF .u32 (v18 + v20)) + carry_5)) - 1000000000))) trivial)).to (by kernel_rfl)))
   ·refine .skip ?_
    obtain ⟨hg24, hr⟩ := gd hr
    refine .r0 fine <| .mu 3 <| .p0 (v := .hp 0 (0 + x_6.toNat * 1)) (tr (ofP_guard hg24)) <| .e0 (v := .unk) (ws := [(0, .own ((out_4.set x_6.toNat (wrapF .u32 ((wrapF .u32 (v18 + v20)) + carry_5))).flatMap (iC .u32)))]) (tr (stO_t (and_t (flat_fits (n := 1) (iC_len .u32) (inR_lt hg24) (Nat.le_of_ble_eq_true rfl) (by omega : 0 + x_6.toNat * 1 = x_6.toNat * 1 + 0))) (congrArg Blk.own (flat_set (xs := [aU32 (wrapF .u32 ((wrapF .u32 (v18 + v20)) + carry_5))]) (iC_len .u32) (inR_lt hg24) (Nat.le_of_ble_eq_true rfl) (by omega : 0 + x_6.toNat * 1 = x_6.toNat * 1 + 0) (by kernel_rfl))))) <| .done <| .pop <| .ru fine ?_
    exact loopF_back (out_4.set x_6.toNat (wrapF .u32 ((wrapF .u32 (v18 + v20)) + carry_5)), 0, wrapF .i64 (x_6 + 1)) hr ((Wk.relen 5 (b := 0) (es := 1) (len := out_4.length) (out_4.set x_6.toNat (wrapF .u32 ((wrapF .u32 (v18 + v20)) + carry_5))).length (by kernel_rfl) (Eq.symm (List.length_set.trans rfl))).trans ((Wk.gc [0, 1, 5, 6, 17, 18] [(0, false)] rfl (pKo (iC .u32) (iC_pure _) (out_4.set x_6.toNat (wrapF .u32 ((wrapF .u32 (v18 + v20)) + carry_5))) trivial)).to (by kernel_rfl)))
  ·refine .leave rfl ?_
   obtain rfl := oi hr
   exact ⟨rfl, ((Wk.gc [5] [(0, false)] rfl (pKo (iC .u32) (iC_pure _) out_4 trivial)).to (by kernel_rfl))⟩
 ·rintro x st' hq27
  clear hL26
  obtain ⟨rfl, hq27⟩ := hq27
  refine CQ_exit _ rfl <| .wk hq27 <| .seq ?_
  obtain ⟨v28, hc29, hr⟩ := bd hr
  refine .g1 fine (callOk_ref (args := [.hs 0 0 out_15.length 1]) (l := [0]) (SnL.cons (Sn.hs rfl (.inl rfl) (SnC.pure (ids_flat (iC_pure _) _)) (fun h => flat_nil0 h)) SnL.nil) (integer_trim_ok n out_15 v28 hc29)) <| .mu 1 <| .ca cf0 <| .mu 1 <| .done <| .ret ?_
  obtain rfl := oi hr
  exact FinQ.r1 [sU32 v28]

theorem integer_minus_ok (n : Nat) (a : List Int) (b : List Int) (r : List Int) (hr : integer_minus n a b = some r) : FnOk Tryz.prog 171 [sU32 a, sU32 b] (sU32 r) := by
 unfold integer_minus at hr
 refine FnOk.bd fine Tryz.func171 [.tmp 4] ?_
 unfold Tryz.f171
 simp only [Option.getD_some]
 refine .seq <| .r4 fine [0, 1] [] <| .seq ?_
 obtain ⟨hg1, hg2, hg3, hr⟩ := gd3 hr
 refine .r0 fine <| .mu 2 <| .e0 (v := .hs 0 0 (List.replicate (a.length : Int).toNat ((0 : Int) : Int)).length 1) (ws := [(0, .own ((List.replicate (a.length : Int).toNat ((0 : Int) : Int)).flatMap (iC .u32)))]) (tr (make_own (c := (iC .u32)) (z := (0 : Int)) (n := (a.length : Int)) (by_ := 4) rfl hg1 hg2 hg3)) <| .mu 1 <| .done <| .nh [0, 1, 5] [.own ((List.replicate (a.length : Int).toNat ((0 : Int) : Int)).flatMap (iC .u32))] <| .seq <| .r4 fine [0, 1, 5] [(6, aU32 0)] <| .seq <| .seq <| .r4 fine [0, 1, 5, 6] [(13, aI64 ((List.replicate (a.length : Int).toNat ((0 : Int) : Int)).length : Int)), (14, aI64 0)] <| .block ?_
 replace hr := bd hr; obtain ⟨out_14, hL24, hr⟩ := hr
 refine .loopO (σ := fun z0 => match z0 with | (out_4, borrow_5, x_6) => ⟨mkS 50 0 [(0, sU32 a), (1, sU32 b), (5, .hs 0 0 out_4.length 1), (6, aU32 borrow_5), (13, aI64 ((List.replicate (a.length : Int).toNat ((0 : Int) : Int)).length : Int)), (14, aI64 x_6)], [.own (out_4.flatMap (iC .u32))]⟩) (Q := fun x st' => x = .exit 0 ∧ Wk 0 st' ⟨mkS 50 0 [(5, .hs 0 0 out_14.length 1)], [.own (out_14.flatMap (iC .u32))]⟩) hL24 ((Wk.gc [0, 1, 5, 6, 13, 14] [(0, false)] rfl (pKo (iC .u32) (iC_pure _) (List.replicate (a.length : Int).toNat ((0 : Int) : Int)) trivial)).to (by kernel_rfl)) ?_ ?_
 ·clear hr
  rintro m ⟨out_4, borrow_5, x_6⟩ hr
  show CQ _ _ _ _ _ ⟨_, _⟩
  refine .seq <| .r4 fine [0, 1, 5, 6, 13, 14] [(15, aB (decide (x_6 < ((List.replicate (a.length : Int).toNat ((0 : Int) : Int)).length : Int))))] <| .seq ?_
  refine .cd hr (fun hb16 hr => ?_) (fun hb16 hr => ?_)
  ·refine .skip <| .seq <| .block <| .seq <| .r4 fine [0, 1, 5, 6, 13, 14] [(7, aI64 x_6)] <| .seq ?_
   obtain ⟨v17, hc18, hr⟩ := bd hr
   refine .g1 fine (ok0 (integer_at_ok n b x_6 v17 hc18)) <| .mu 2 <| .ca cf0 <| .mu 3 <| .done <| .nh [0, 1, 5, 7, 8, 13, 14] [.own (out_4.flatMap (iC .u32))] <| .seq <| .r4 fine [0, 1, 5, 7, 8, 13, 14] [(6, aU32 0)] <| .seq ?_
   obtain ⟨hg19, hr⟩ := gd hr
   refine .r0 fine <| .mu 2 <| .p0 (v := .pp (a.flatMap (iC .u32)) (x_6.toNat * 1)) (tr (ofP_guard hg19)) <| .p0 (v := aU32 (gt a x_6)) (tr (ofP_some (flat_get (iC_len .u32) (inR_lt hg19) (by decide : 0 < 1) (by omega : x_6.toNat * 1 = x_6.toNat * 1 + 0) (by kernel_rfl)))) <| .mu 2 <| .done <| .nh [0, 1, 5, 6, 7, 8, 13, 14, 27] [.own (out_4.flatMap (iC .u32))] ?_
   refine .cd hr (fun hb20 hr => ?_) (fun hb20 hr => ?_)
   ·obtain ⟨hg21, hr⟩ := gd hr
    refine .r0 fine <| .mu 4 <| .p0 (v := .pp (a.flatMap (iC .u32)) (x_6.toNat * 1)) (tr (ofP_guard hg19)) <| .p0 (v := aU32 (gt a x_6)) (tr (ofP_some (flat_get (iC_len .u32) (inR_lt hg19) (by decide : 0 < 1) (by omega : x_6.toNat * 1 = x_6.toNat * 1 + 0) (by kernel_rfl)))) <| .mu 3 <| .p0 (v := .hp 0 (0 + x_6.toNat * 1)) (tr (ofP_guard hg21)) <| .e0 (v := .unk) (ws := [(0, .own ((out_4.set x_6.toNat (wrapF .u32 ((wrapF .u32 ((gt a x_6) + 1000000000)) - (wrapF .u32 (v17 + borrow_5))))).flatMap (iC .u32)))]) (tr (stO_t (and_t (flat_fits (n := 1) (iC_len .u32) (inR_lt hg21) (Nat.le_of_ble_eq_true rfl) (by omega : 0 + x_6.toNat * 1 = x_6.toNat * 1 + 0))) (congrArg Blk.own (flat_set (xs := [aU32 (wrapF .u32 ((wrapF .u32 ((gt a x_6) + 1000000000)) - (wrapF .u32 (v17 + borrow_5))))]) (iC_len .u32) (inR_lt hg21) (Nat.le_of_ble_eq_true rfl) (by omega : 0 + x_6.toNat * 1 = x_6.toNat * 1 + 0) (by kernel_rfl))))) <| .mu 1 <| .done <| .pop <| .ru fine ?_
    exact loopF_back (out_4.set x_6.toNat (wrapF .u32 ((wrapF .u32 ((gt a x_6) + 1000000000)) - (wrapF .u32 (v17 + borrow_5)))), 1, wrapF .i64 (x_6 + 1)) hr ((Wk.relen 5 (b := 0) (es := 1) (len := out_4.length) (out_4.set x_6.toNat (wrapF .u32 ((wrapF .u32 ((gt a x_6) + 1000000000)) - (wrapF .u32 (v17 + borrow_5))))).length (by kernel_rfl) (Eq.symm (List.length_set.trans rfl))).trans ((Wk.gc [0, 1, 5, 6, 13, 14] [(0, false)] rfl (pKo (iC .u32) (iC_pure _) (out_4.set x_6.toNat (wrapF .u32 ((wrapF .u32 ((gt a x_6) + 1000000000)) - (wrapF .u32 (v17 + borrow_5))))) trivial)).to (by kernel_rfl)))
   ·obtain ⟨hg22, hr⟩ := gd hr
    refine .r0 fine <| .mu 4 <| .p0 (v := .pp (a.flatMap (iC .u32)) (x_6.toNat * 1)) (tr (ofP_guard hg19)) <| .p0 (v := aU32 (gt a x_6)) (tr (ofP_some (flat_get (iC_len .u32) (inR_lt hg19) (by decide : 0 < 1) (by omega : x_6.toNat * 1 = x_6.toNat * 1 + 0) (by kernel_rfl)))) <| .mu 2 <| .p0 (v := .hp 0 (0 + x_6.toNat * 1)) (tr (ofP_guard hg22)) <| .e0 (v := .unk) (ws := [(0, .own ((out_4.set x_6.toNat (wrapF .u32 ((gt a x_6) - (wrapF .u32 (v17 + borrow_5))))).flatMap (iC .u32)))]) (tr (stO_t (and_t (flat_fits (n := 1) (iC_len .u32) (inR_lt hg22) (Nat.le_of_ble_eq_true rfl) (by omega : 0 + x_6.toNat * 1 = x_6.toNat * 1 + 0))) (congrArg Blk.own (flat_set (xs := [aU32 (wrapF .u32 ((gt a x_6) - (wrapF .u32 (v17 + borrow_5))))]) (iC_len .u32) (inR_lt hg22) (Nat.le_of_ble_eq_true rfl) (by omega : 0 + x_6.toNat * 1 = x_6.toNat * 1 + 0) (by kernel_rfl))))) <| .done <| .pop <| .ru fine ?_
    exact loopF_back (out_4.set x_6.toNat (wrapF .u32 ((gt a x_6) - (wrapF .u32 (v17 + borrow_5)))), 0, wrapF .i64 (x_6 + 1)) hr ((Wk.relen 5 (b := 0) (es := 1) (len := out_4.length) (out_4.set x_6.toNat (wrapF .u32 ((gt a x_6) - (wrapF .u32 (v17 + borrow_5))))).length (by kernel_rfl) (Eq.symm (List.length_set.trans rfl))).trans ((Wk.gc [0, 1, 5, 6, 13, 14] [(0, false)] rfl (pKo (iC .u32) (iC_pure _) (out_4.set x_6.toNat (wrapF .u32 ((gt a x_6) - (wrapF .u32 (v17 + borrow_5))))) trivial)).to (by kernel_rfl)))
  ·refine .leave rfl ?_
   obtain rfl := oi hr
   exact ⟨rfl, ((Wk.gc [5] [(0, false)] rfl (pKo (iC .u32) (iC_pure _) out_4 trivial)).to (by kernel_rfl))⟩
 ·rintro x st' hq25
  clear hL24
  obtain ⟨rfl, hq25⟩ := hq25
  refine CQ_exit _ rfl <| .wk hq25 <| .seq ?_
  obtain ⟨v26, hc27, hr⟩ := bd hr
  refine .g1 fine (callOk_ref (args := [.hs 0 0 out_14.length 1]) (l := [0]) (SnL.cons (Sn.hs rfl (.inl rfl) (SnC.pure (ids_flat (iC_pure _) _)) (fun h => flat_nil0 h)) SnL.nil) (integer_trim_ok n out_14 v26 hc27)) <| .mu 1 <| .ca cf0 <| .mu 1 <| .done <| .ret ?_
  obtain rfl := oi hr
  exact FinQ.r1 [sU32 v26]

theorem integer_Divide_ok (n : Nat) (x' : api_Int) (y : api_Int) (r : api_Int × api_Int × Int) (hr : integer_Divide n x' y = some r) : FnOk Tryz.prog 130 [.agg (api_Int.c x'), .agg (api_Int.c y)] (.tup [.agg (api_Int.c r.1), .agg (api_Int.c r.2.1), aI64 r.2.2]) := by
 unfold integer_Divide at hr
 refine FnOk.bd fine Tryz.func130 [.cell 4 72, .cell 5 72, .tmp 6] ?_
 unfold Tryz.f130
 simp only [Option.getD_some]
 refine .seq <| .r2 fine 55 [(2, .hp 0 0), (3, .hp 1 0), (4, .hp 2 0), (5, .hp 3 0)] [.own (api_Int.c x'), .own (api_Int.c y), .own [aB false, nS], .own [aB false, nS]] <| .seq ?_
 obtain ⟨v1, hc2, v3, hc4, hr⟩ := bd2 hr
 refine .tn fine (ca1 (ok0 (integer_groups_ok n x' v1 hc2)) (ca3 (ok0 (integer_groups_ok n y v3 hc4)))) <| .mu 1 <| .ca cf0 <| .mu 1 <| .ca (cfA (fun h => by rw [sv hc4 hc2 (integer_groups_cg n h)]) cf0) <| .mu 2 ?_
 refine .done ⟨by kernel_rfl, ?_⟩
 refine .nh [2, 3, 4, 5, 7, 8] [.own (api_Int.c x'), .own (api_Int.c y), .own [aB false, nS], .own [aB false, nS]] <| .seq <| .seq <| .r4 fine [2, 3, 4, 5, 7, 8] [(17, aB (((v3.length : Int) : Int) == 0))] ?_
 refine .cd hr (fun hb5 hr => ?_) (fun hb5 hr => ?_)
 ·refine .seq <| .r4 fine [4, 5] [(6, aI64 14)] <| .ret ?_
  obtain rfl := oi hr
  exact FinQ.ret (vs := [.agg [aB false, nS], .agg [aB false, nS], aI64 14]) (by kernel_rfl) (Sn.tup (SnL.cons (Sn.agg (SnL.cons (Sn.pure rfl) (SnL.cons Sn.nilsl SnL.nil))) (SnL.cons (Sn.agg (SnL.cons (Sn.pure rfl) (SnL.cons Sn.nilsl SnL.nil))) (SnL.cons (Sn.pure rfl) SnL.nil))))
 ·refine .skip <| .seq ?_
  obtain ⟨v6, hc7, hr⟩ := bd hr
  refine .g1 fine (ok0 (integer_over_ok n v1 v3 v6 hc7)) <| .mu 2 <| .ca cf0 <| .mu 5 <| .done <| .nh [2, 3, 4, 5, 8, 9, 10] [.own (api_Int.c x'), .own (api_Int.c y), .own [aB false, nS], .own [aB false, nS]] <| .seq ?_
  obtain ⟨v8, hc9, hr⟩ := bd hr
  refine .g1 fine (ok0 (slices_Clone_uint32_uint32_ok n v6.2 v8 hc9)) <| .mu 1 <| .ca cf0 <| .mu 1 <| .done <| .nh [2, 3, 4, 5, 8, 9, 10] [.own (api_Int.c x'), .own (api_Int.c y), .own [aB false, nS], .own [aB false, nS]] <| .seq <| .seq ?_
  rcases Bool.eq_false_or_eq_true (decide ((v8.length : Int) > 0)) with hb10 | hb10
  ·replace hr := cd_t hb10 hr
   refine .r0 fine <| .mu 2 <| .p0 (v := aB true) (eB hb10) <| .mu 7 <| .done <| .nh [2, 3, 4, 5, 8, 9, 10, 37] [.own (api_Int.c x'), .own (api_Int.c y), .own [aB false, nS], .own [aB false, nS]] ?_
   refine .cd hr (fun hb11 hr => ?_) (fun hb11 hr => ?_)
   ·obtain ⟨v12, hc13, v14, hc15, hr⟩ := bd2 hr
    refine .gn fine (ca2 [.own (api_Int.c x'), .own (api_Int.c y), .own [aB false, nS], .own [aB false, nS], .own [aU32 1]] (callOk_ref (args := [sU32 v6.1, .hs 4 0 1 1]) (l := [4]) (SnL.cons (Sn.pure rfl) (SnL.cons (Sn.hs rfl (.inl rfl) (SnC.cons (Sn.pure rfl) SnC.nil) (fun h => nomatch h)) SnL.nil)) (integer_plus_ok n v6.1 [(1 : Int)] v12 hc13)) (ca4 [.own (api_Int.c x'), .own (api_Int.c y), .own [aB false, nS], .own [aB false, nS], .fix [aU32 1]] (ok0 (integer_minus_ok n v3 v8 v14 hc15)))) <| .mu 2 <| .ca cf0 <| .mu 2 <| .ca (cfF cf0) <| .mu 2 <| .done <| .nh [2, 3, 4, 5, 9, 10] [.own (api_Int.c x'), .own (api_Int.c y), .own [aB false, nS], .own [aB false, nS], .fix [aU32 1]] <| .seq ?_
    obtain ⟨v16, hc17, v18, hc19, hr⟩ := bd2 hr
    refine .tn fine (ca1 (ok0 (integer_made_ok n true v12 v16 hc17)) (ca3 (ok0 (integer_made_ok n y.Negative v14 v18 hc19)))) <| .mu 4 <| .pure (v := aB true) (by kernel_rfl) (eB hb11) (by kernel_rfl) <| .mu 1 <| .ca cf0 <| .mu 3 <| .ca (cfA (fun h => by rw [sv hc19 hc17 (integer_made_cg n h)]) cf0) <| .mu 3 ?_
    refine .done ⟨by kernel_rfl, ?_⟩
    refine .nh [4, 5, 6] [.own (api_Int.c x'), .own (api_Int.c y), .own (api_Int.c v16), .own (api_Int.c v18), .fix [aU32 1]] <| .ret ?_
    obtain rfl := oi hr
    exact FinQ.ret (vs := [.agg (api_Int.c v16), .agg (api_Int.c v18), aI64 0]) (by kernel_rfl) (Sn.tup (SnL.cons (Sn.pure rfl) (SnL.cons (Sn.pure rfl) (SnL.cons (Sn.pure rfl) SnL.nil))))
   ·refine .skip <| .seq ?_
    obtain ⟨v20, hc21, v22, hc23, hr⟩ := bd2 hr
    refine .tn fine (ca1 (ok0 (integer_made_ok n false v6.1 v20 hc21)) (ca3 (ok0 (integer_made_ok n y.Negative v8 v22 hc23)))) <| .mu 4 <| .pure (v := aB false) (by kernel_rfl) (eB hb11) (by kernel_rfl) <| .mu 1 <| .ca cf0 <| .mu 3 <| .ca (cfA (fun h => by rw [sv hc23 hc21 (integer_made_cg n h)]) cf0) <| .mu 3 ?_
    refine .done ⟨by kernel_rfl, ?_⟩
    refine .nh [4, 5, 6] [.own (api_Int.c x'), .own (api_Int.c y), .own (api_Int.c v20), .own (api_Int.c v22)] <| .ret ?_
    obtain rfl := oi hr
    exact FinQ.ret (vs := [.agg (api_Int.c v20), .agg (api_Int.c v22), aI64 0]) (by kernel_rfl) (Sn.tup (SnL.cons (Sn.pure rfl) (SnL.cons (Sn.pure rfl) (SnL.cons (Sn.pure rfl) SnL.nil))))
  ·replace hr := cd_f hb10 hr
   refine .r0 fine <| .mu 2 <| .p0 (v := aB false) (eB hb10) <| .mu 7 <| .done <| .nh [2, 3, 4, 5, 8, 9, 10, 37] [.own (api_Int.c x'), .own (api_Int.c y), .own [aB false, nS], .own [aB false, nS]] <| .cF (by kernel_rfl) <| .skip <| .seq ?_
   obtain ⟨v24, hc25, v26, hc27, hr⟩ := bd2 hr
   refine .tn fine (ca1 (ok0 (integer_made_ok n (x'.Negative != y.Negative) v6.1 v24 hc25)) (ca3 (ok0 (integer_made_ok n y.Negative v8 v26 hc27)))) <| .mu 6 <| .ca cf0 <| .mu 3 <| .ca (cfA (fun h => by rw [sv hc27 hc25 (integer_made_cg n h)]) cf0) <| .mu 3 ?_
   refine .done ⟨by kernel_rfl, ?_⟩
   refine .nh [4, 5, 6] [.own (api_Int.c x'), .own (api_Int.c y), .own (api_Int.c v24), .own (api_Int.c v26)] <| .ret ?_
   obtain rfl := oi hr
   exact FinQ.ret (vs := [.agg (api_Int.c v24), .agg (api_Int.c v26), aI64 0]) (by kernel_rfl) (Sn.tup (SnL.cons (Sn.pure rfl) (SnL.cons (Sn.pure rfl) (SnL.cons (Sn.pure rfl) SnL.nil))))

theorem fraction_reduced_ok (n : Nat) (num : api_Int) (den : api_Int) (r : api_Rat) (hr : fraction_reduced n num den = some r) : FnOk Tryz.prog 131 [.agg (api_Int.c num), .agg (api_Int.c den)] (.agg (api_Rat.c r)) := by
 unfold fraction_reduced at hr
 refine FnOk.bd fine Tryz.func131 [.cell 4 74] ?_
 unfold Tryz.f131
 simp only [Option.getD_some]
 refine .seq <| .r2 fine 33 [(2, .hp 0 0), (3, .hp 1 0), (4, .hp 2 0)] [.own (api_Int.c num), .own (api_Int.c den), .own [aB false, nS, aB false, nS]] <| .seq <| .seq ?_
 obtain ⟨v1, hc2, hr⟩ := bd hr
 refine .g1 fine (ok0 (integer_Sign_ok n den v1 hc2)) <| .mu 1 <| .ca cf0 <| .mu 1 <| .done <| .nh [2, 3, 4, 8] [.own (api_Int.c num), .own (api_Int.c den), .own [aB false, nS, aB false, nS]] ?_
 refine .cd hr (fun hb3 hr => ?_) (fun hb3 hr => ?_)
 ·obtain ⟨v4, hc5, v6, hc7, hr⟩ := bd2 hr
  refine .tn fine (ca1 (ok0 (integer_Neg_ok n num v4 hc5)) (ca3 (ok0 (integer_Neg_ok n den v6 hc7)))) <| .mu 1 <| .ca cf0 <| .mu 1 <| .ca (cfA (fun h => by rw [sv hc7 hc5 (integer_Neg_cg n h)]) cf0) <| .mu 2 ?_
  refine .done ⟨by kernel_rfl, ?_⟩
  refine .nh [2, 3, 4] [.own (api_Int.c v4), .own (api_Int.c v6), .own [aB false, nS, aB false, nS]] <| .seq ?_
  obtain ⟨v8, hc9, hr⟩ := bd hr
  refine .g1 fine (ok0 (integer_Gcd_ok n v4 v6 v8 hc9)) <| .mu 2 <| .ca cf0 <| .mu 2 <| .done <| .nh [2, 3, 4, 5] [.own (api_Int.c v4), .own (api_Int.c v6), .own [aB false, nS, aB false, nS], .own (api_Int.c v8)] <| .seq ?_
  obtain ⟨v10, hc11, hr⟩ := bd hr
  refine .g1 fine (ok0 (integer_Divide_ok n v4 v8 v10 hc11)) <| .mu 2 <| .ca cf0 <| .mu 5 <| .done <| .nh [2, 3, 4, 5] [.own (api_Int.c v10.1), .own (api_Int.c v6), .own [aB false, nS, aB false, nS], .own (api_Int.c v8)] <| .seq ?_
  obtain ⟨v12, hc13, hr⟩ := bd hr
  refine .g1 fine (ok0 (integer_Divide_ok n v6 v8 v12 hc13)) <| .mu 2 <| .ca cf0 <| .mu 5 <| .done <| .nh [2, 3, 4] [.own (api_Int.c v10.1), .own (api_Int.c v12.1), .own [aB false, nS, aB false, nS], .own (api_Int.c v8)] <| .seq <| .r5 fine [4] [] [.own (api_Int.c v10.1), .own (api_Int.c v12.1), .own [aB v10.1.Negative, sU32 v10.1.Groups, aB v12.1.Negative, sU32 v12.1.Groups], .own (api_Int.c v8)] <| .ret ?_
  obtain rfl := oi hr
  exact FinQ.r1 [.agg [aB v10.1.Negative, sU32 v10.1.Groups, aB v12.1.Negative, sU32 v12.1.Groups]]
 ·refine .skip <| .seq ?_
  obtain ⟨v14, hc15, hr⟩ := bd hr
  refine .g1 fine (ok0 (integer_Gcd_ok n num den v14 hc15)) <| .mu 2 <| .ca cf0 <| .mu 2 <| .done <| .nh [2, 3, 4, 5] [.own (api_Int.c num), .own (api_Int.c den), .own [aB false, nS, aB false, nS], .own (api_Int.c v14)] <| .seq ?_
  obtain ⟨v16, hc17, hr⟩ := bd hr
  refine .g1 fine (ok0 (integer_Divide_ok n num v14 v16 hc17)) <| .mu 2 <| .ca cf0 <| .mu 5 <| .done <| .nh [2, 3, 4, 5] [.own (api_Int.c v16.1), .own (api_Int.c den), .own [aB false, nS, aB false, nS], .own (api_Int.c v14)] <| .seq ?_
  obtain ⟨v18, hc19, hr⟩ := bd hr
  refine .g1 fine (ok0 (integer_Divide_ok n den v14 v18 hc19)) <| .mu 2 <| .ca cf0 <| .mu 5 <| .done <| .nh [2, 3, 4] [.own (api_Int.c v16.1), .own (api_Int.c v18.1), .own [aB false, nS, aB false, nS], .own (api_Int.c v14)] <| .seq <| .r5 fine [4] [] [.own (api_Int.c v16.1), .own (api_Int.c v18.1), .own [aB v16.1.Negative, sU32 v16.1.Groups, aB v18.1.Negative, sU32 v18.1.Groups], .own (api_Int.c v14)] <| .ret ?_
  obtain rfl := oi hr
  exact FinQ.r1 [.agg [aB v16.1.Negative, sU32 v16.1.Groups, aB v18.1.Negative, sU32 v18.1.Groups]]

theorem fraction_New_ok (n : Nat) (num : api_Int) (den : api_Int) (r : api_Rat × Int) (hr : fraction_New n num den = some r) : FnOk Tryz.prog 126 [.agg (api_Int.c num), .agg (api_Int.c den)] (.tup [.agg (api_Rat.c r.1), aI64 r.2]) := by
 unfold fraction_New at hr
 refine FnOk.bd fine Tryz.func126 [.cell 4 74, .tmp 5] ?_
 unfold Tryz.f126
 simp only [Option.getD_some]
 refine .seq <| .r2 fine 17 [(2, .hp 0 0), (3, .hp 1 0), (4, .hp 2 0)] [.own (api_Int.c num), .own (api_Int.c den), .own [aB false, nS, aB false, nS]] <| .seq ?_
 obtain ⟨v1, hc2, v3, hc4, hr⟩ := bd2 hr
 refine .tn fine (ca1 (ok0 (fraction_counted_ok n num v1 hc2)) (ca3 (ok0 (fraction_counted_ok n den v3 hc4)))) <| .mu 1 <| .ca cf0 <| .mu 1 <| .ca (cfA (fun h => by rw [sv hc4 hc2 (fraction_counted_cg n h)]) cf0) <| .mu 2 ?_
 refine .done ⟨by kernel_rfl, ?_⟩
 refine .nh [2, 3, 4] [.own (api_Int.c v1), .own (api_Int.c v3), .own [aB false, nS, aB false, nS]] <| .seq <| .seq ?_
 obtain ⟨v5, hc6, hr⟩ := bd hr
 refine .g1 fine (ok0 (integer_Sign_ok n v3 v5 hc6)) <| .mu 1 <| .ca cf0 <| .mu 1 <| .done <| .nh [2, 3, 4, 12] [.own (api_Int.c v1), .own (api_Int.c v3), .own [aB false, nS, aB false, nS]] ?_
 refine .cd hr (fun hb7 hr => ?_) (fun hb7 hr => ?_)
 ·refine .seq <| .r4 fine [4] [(5, aI64 14)] <| .ret ?_
  obtain rfl := oi hr
  exact FinQ.ret (vs := [.agg [aB false, nS, aB false, nS], aI64 14]) (by kernel_rfl) (Sn.tup (SnL.cons (Sn.agg (SnL.cons (Sn.pure rfl) (SnL.cons Sn.nilsl (SnL.cons (Sn.pure rfl) (SnL.cons Sn.nilsl SnL.nil))))) (SnL.cons (Sn.pure rfl) SnL.nil)))
 ·refine .skip <| .seq ?_
  obtain ⟨v8, hc9, hr⟩ := bd hr
  refine .g1 fine (ok0 (fraction_reduced_ok n v1 v3 v8 hc9)) <| .mu 2 <| .ca cf0 <| .mu 2 <| .done <| .nh [4, 5] [.own (api_Int.c v1), .own (api_Int.c v3), .own (api_Rat.c v8)] <| .ret ?_
  obtain rfl := oi hr
  exact FinQ.ret (vs := [.agg (api_Rat.c v8), aI64 0]) (by kernel_rfl) (Sn.tup (SnL.cons (Sn.pure rfl) (SnL.cons (Sn.pure rfl) SnL.nil)))

theorem fraction_Of_ok (n : Nat) (n' : Int) (d : Int) (r : api_Rat × Int) (hr : fraction_Of n n' d = some r) : FnOk Tryz.prog 85 [aI64 n', aI64 d] (.tup [.agg (api_Rat.c r.1), aI64 r.2]) := by
 unfold fraction_Of at hr
 refine FnOk.bd fine Tryz.func85 [.cell 4 74, .tmp 5] ?_
 unfold Tryz.f85
 simp only [Option.getD_some]
 refine .seq <| .r5 fine [0, 1] [(4, .hp 0 0)] [.own [aB false, nS, aB false, nS]] <| .seq ?_
 obtain ⟨v1, hc2, v3, hc4, v5, hc6, hr⟩ := bd3 hr
 refine .gn fine (ca1 (ok0 (integer_Of_ok n n' v1 hc2)) (ca1 (ok0 (integer_Of_ok n d v3 hc4)) (ca3 (ok0 (fraction_New_ok n v1 v3 v5 hc6))))) <| .mu 1 <| .ca cf0 <| .mu 1 <| .ca (cfA (fun h => by rw [sv hc4 hc2 (integer_Of_cg n h)]) cf0) <| .ca (cfF (cfF cf0)) <| .mu 4 <| .done <| .nh [4, 5] [.own (api_Rat.c v5.1)] <| .ret ?_
 obtain rfl := oi hr
 exact FinQ.ret (vs := [.agg (api_Rat.c v5.1), aI64 v5.2]) (by kernel_rfl) (Sn.tup (SnL.cons (Sn.pure rfl) (SnL.cons (Sn.pure rfl) SnL.nil)))

theorem integer_Compare_ok (n : Nat) (x' : api_Int) (y : api_Int) (r : Int) (hr : integer_Compare n x' y = some r) : FnOk Tryz.prog 206 [.agg (api_Int.c x'), .agg (api_Int.c y)] (aI64 r) := by
 unfold integer_Compare at hr
 refine FnOk.bd fine Tryz.func206 [.tmp 4] ?_
 unfold Tryz.f206
 simp only [Option.getD_some]
 refine .seq <| .r2 fine 28 [(2, .hp 0 0), (3, .hp 1 0)] [.own (api_Int.c x'), .own (api_Int.c y)] <| .seq <| .seq ?_
 obtain ⟨v1, hc2, v3, hc4, hr⟩ := bd2 hr
 refine .tn fine (ca1 (ok0 (integer_Sign_ok n x' v1 hc2)) (ca3 (ok0 (integer_Sign_ok n y v3 hc4)))) <| .mu 1 <| .ca cf0 <| .mu 1 <| .ca (cfA (fun h => by rw [sv hc4 hc2 (integer_Sign_cg n h)]) cf0) <| .mu 2 ?_
 refine .done ⟨by kernel_rfl, ?_⟩
 refine .nh [2, 3, 5, 6] [.own (api_Int.c x'), .own (api_Int.c y)] <| .seq <| .r4 fine [2, 3, 5, 6] [(14, aB ((v1 : Int) != v3))] ?_
 refine .cd hr (fun hb5 hr => ?_) (fun hb5 hr => ?_)
 ·refine .seq ?_
  obtain ⟨v6, hc7, hr⟩ := bd hr
  refine .g1 fine (ok0 (cmp_Compare_int_ok n v1 v3 v6 hc7)) <| .mu 2 <| .ca cf0 <| .mu 1 <| .done <| .ret ?_
  obtain rfl := oi hr
  exact FinQ.r1 [aI64 v6]
 ·refine .skip <| .seq ?_
  obtain ⟨v8, hc9, v10, hc11, v12, hc13, hr⟩ := bd3 hr
  refine .tn fine (ca1 (ok0 (integer_groups_ok n x' v8 hc9)) (ca1 (ok0 (integer_groups_ok n y v10 hc11)) (ca3 (ok0 (integer_compare_ok n v8 v10 v12 hc13))))) <| .mu 1 <| .ca cf0 <| .mu 1 <| .ca (cfA (fun h => by rw [sv hc11 hc9 (integer_groups_cg n h)]) cf0) <| .ca (cfF (cfF cf0)) <| .mu 1 ?_
  refine .done ⟨by kernel_rfl, ?_⟩
  refine .nh [2, 7] [.own (api_Int.c x'), .own (api_Int.c y)] <| .seq <| .seq <| .r4 fine [7] [(24, aB x'.Negative)] ?_
  refine .cd hr (fun hb14 hr => ?_) (fun hb14 hr => ?_)
  ·refine .seq <| .r0 fine <| .mu 1 <| .p0 (v := aI64 (wrapF .i64 (0 - v12))) (Eq.trans (b := some (.pure (aI64 (IntKind.wrap .i64 (0 - v12))))) (by kernel_rfl) wrap_at) <| .mu 1 <| .done <| .ret ?_
   obtain rfl := oi hr
   exact FinQ.r1 [aI64 (wrapF .i64 (0 - v12))]
  ·refine .skip <| .seq <| .ru fine <| .ret ?_
   obtain rfl := oi hr
   exact FinQ.r1 [aI64 v12]

theorem fraction_Valid_ok (n : Nat) (x' : api_Rat) (r : Bool) (hr : fraction_Valid n x' = some r) : FnOk Tryz.prog 166 [.agg (api_Rat.c x')] (aB r) := by
 unfold fraction_Valid at hr
 refine FnOk.bd fine Tryz.func166 [.tmp 2] ?_
 unfold Tryz.f166
 simp only [Option.getD_some]
 refine .seq <| .r2 fine 27 [(1, .hp 0 0)] [.own (api_Rat.c x')] <| .seq <| .seq ?_
 obtain ⟨v1, hc2, hr⟩ := bd hr
 rcases Bool.eq_false_or_eq_true (!v1) with hb3 | hb3
 ·replace hr := cd_t hb3 hr
  refine .g1 fine (ok0 (integer_Valid_ok n x'.Num v1 hc2)) <| .mu 2 <| .ca cf0 <| .p0 (v := aB true) (eB hb3) <| .mu 12 <| .done <| .nh [1, 18] [.own (api_Rat.c x')] <| .cT (by kernel_rfl) <| .seq <| .ru fine <| .ret ?_
  obtain rfl := oi hr
  exact FinQ.r1 [aB false]
 ·replace hr := cd_f hb3 hr
  obtain ⟨v4, hc5, hr⟩ := bd hr
  rcases Bool.eq_false_or_eq_true (!v4) with hb6 | hb6
  ·replace hr := cd_t hb6 hr
   refine .gn fine (ca1 (ok0 (integer_Valid_ok n x'.Num v1 hc2)) (ca3 (ok0 (integer_Valid_ok n x'.Den v4 hc5)))) <| .mu 2 <| .ca cf0 <| .p0 (v := aB false) (eB hb3) <| .mu 3 <| .ca (cfA (fun h => by rw [sv hc5 hc2 (integer_Valid_cg n h)]) cf0) <| .pure (v := aB true) (by kernel_rfl) (eB hb6) <| .mu 7 <| .done <| .nh [1, 18] [.own (api_Rat.c x')] <| .cT (by kernel_rfl) <| .seq <| .ru fine <| .ret ?_
   obtain rfl := oi hr
   exact FinQ.r1 [aB false]
  ·replace hr := cd_f hb6 hr
   obtain ⟨v7, hc8, hr⟩ := bd hr
   refine .gn fine (ca1 (ok0 (integer_Valid_ok n x'.Num v1 hc2)) (ca1 (ok0 (integer_Valid_ok n x'.Den v4 hc5)) (ca3 (ok0 (integer_Sign_ok n x'.Den v7 hc8))))) <| .mu 2 <| .ca cf0 <| .p0 (v := aB false) (eB hb3) <| .mu 3 <| .ca (cfA (fun h => by rw [sv hc5 hc2 (integer_Valid_cg n h)]) cf0) <| .pure (v := aB false) (by kernel_rfl) (eB hb6) <| .mu 4 <| .ca (cfF (cfF cf0)) <| .mu 2 <| .done <| .nh [1, 18] [.own (api_Rat.c x')] ?_
   refine .cd hr (fun hb9 hr => ?_) (fun hb9 hr => ?_)
   ·refine .seq <| .ru fine <| .ret ?_
    obtain rfl := oi hr
    exact FinQ.r1 [aB false]
   ·refine .skip <| .seq ?_
    obtain ⟨v10, hc11, v12, hc13, v14, hc15, hr⟩ := bd3 hr
    refine .gn fine (ca1 (ok0 (integer_Gcd_ok n x'.Num x'.Den v10 hc11)) (ca1 (ok0 (integer_Of_ok n 1 v12 hc13)) (ca3 (ok0 (integer_Compare_ok n v10 v12 v14 hc15))))) <| .mu 4 <| .ca cf0 <| .ca (cfF cf0) <| .ca (cfF (cfF cf0)) <| .mu 2 <| .done <| .ret ?_
    obtain rfl := oi hr
    exact FinQ.r1 [aB ((v14 : Int) == 0)]

theorem fraction_copied_ok (n : Nat) (x' : api_Rat) (r : api_Rat) (hr : fraction_copied n x' = some r) : FnOk Tryz.prog 167 [.agg (api_Rat.c x')] (.agg (api_Rat.c r)) := by
 unfold fraction_copied at hr
 refine FnOk.bd fine Tryz.func167 [.cell 2 74] ?_
 unfold Tryz.f167
 simp only [Option.getD_some]
 refine .seq <| .r2 fine 12 [(1, .hp 0 0), (2, .hp 1 0)] [.own (api_Rat.c x'), .own [aB false, nS, aB false, nS]] <| .seq ?_
 obtain ⟨v1, hc2, v3, hc4, v5, hc6, hr⟩ := bd3 hr
 obtain ⟨v7, hc8, hr⟩ := bd hr
 refine .tn fine (ca1 (ok0 (integer_Neg_ok n x'.Num v1 hc2)) (ca1 (ok0 (integer_Neg_ok n v1 v3 hc4)) (ca1 (ok0 (integer_Neg_ok n x'.Den v5 hc6)) (ca3 (ok0 (integer_Neg_ok n v5 v7 hc8)))))) <| .mu 2 <| .ca cf0 <| .ca (cfA (fun h => by rw [sv hc4 hc2 (integer_Neg_cg n h)]) cf0) <| .mu 2 <| .ca (cfA (fun h => by rw [sv hc6 hc2 (integer_Neg_cg n h)]) (cfA (fun h => by rw [sv hc6 hc4 (integer_Neg_cg n h)]) cf0)) <| .ca (cfA (fun h => by rw [sv hc8 hc2 (integer_Neg_cg n h)]) (cfA (fun h => by rw [sv hc8 hc4 (integer_Neg_cg n h)]) (cfA (fun h => by rw [sv hc8 hc6 (integer_Neg_cg n h)]) cf0))) <| .mu 2 ?_
 refine .done ⟨by kernel_rfl, ?_⟩
 refine .nh [2] [.own (api_Rat.c x'), .own [aB v3.Negative, sU32 v3.Groups, aB v7.Negative, sU32 v7.Groups]] <| .ret ?_
 obtain rfl := oi hr
 exact FinQ.r1 [.agg [aB v3.Negative, sU32 v3.Groups, aB v7.Negative, sU32 v7.Groups]]

theorem fraction_Value_inj {x' : api_Rat} {x'_ : api_Rat} (h : ([.agg [.at (.bool x'.Num.Negative), slT (iC .u32) x'.Num.Groups, .at (.bool x'.Den.Negative), slT (iC .u32) x'.Den.Groups]] : List AV) = [.agg [.at (.bool x'_.Num.Negative), slT (iC .u32) x'_.Num.Groups, .at (.bool x'_.Den.Negative), slT (iC .u32) x'_.Den.Groups]]) : x' = x'_ := by
 obtain ⟨⟨_, _⟩, ⟨_, _⟩⟩ := x'
 obtain ⟨⟨_, _⟩, ⟨_, _⟩⟩ := x'_
 simp only [List.cons.injEq, AV.agg.injEq, AV.at.injEq, Value.int.injEq, Value.bool.injEq, AV.fn.injEq, AV.pp.injEq, true_and, and_true, slT_inj_int] at h
 simp_all
theorem fraction_Value_cg (n : Nat) {x' : api_Rat} {x'_ : api_Rat} (h : ([.agg [.at (.bool x'.Num.Negative), slT (iC .u32) x'.Num.Groups, .at (.bool x'.Den.Negative), slT (iC .u32) x'.Den.Groups]] : List AV) = [.agg [.at (.bool x'_.Num.Negative), slT (iC .u32) x'_.Num.Groups, .at (.bool x'_.Den.Negative), slT (iC .u32) x'_.Den.Groups]]) : fraction_Value n x' = fraction_Value n x'_ := by
 obtain rfl := fraction_Value_inj h
 rfl
theorem fraction_Value_ok (n : Nat) (x' : api_Rat) (r : api_Rat) (hr : fraction_Value n x' = some r) : FnOk Tryz.prog 129 [.agg (api_Rat.c x')] (.agg (api_Rat.c r)) := by
 unfold fraction_Value at hr
 refine FnOk.bd fine Tryz.func129 [.cell 2 74] ?_
 unfold Tryz.f129
 simp only [Option.getD_some]
 refine .seq <| .r2 fine 8 [(1, .hp 0 0), (2, .hp 1 0)] [.own (api_Rat.c x'), .own [aB false, nS, aB false, nS]] <| .seq <| .seq ?_
 obtain ⟨v1, hc2, hr⟩ := bd hr
 refine .g1 fine (ok0 (fraction_Valid_ok n x' v1 hc2)) <| .mu 1 <| .ca cf0 <| .done <| .nh [1, 2, 4] [.own (api_Rat.c x'), .own [aB false, nS, aB false, nS]] ?_
 refine .cd hr (fun hb3 hr => ?_) (fun hb3 hr => ?_)
 ·refine .seq ?_
  obtain ⟨v4, hc5, hr⟩ := bd hr
  refine .g1 fine (ok0 (fraction_copied_ok n x' v4 hc5)) <| .mu 1 <| .ca cf0 <| .mu 1 <| .done <| .nh [2] [.own (api_Rat.c x'), .own (api_Rat.c v4)] <| .ret ?_
  obtain rfl := oi hr
  exact FinQ.r1 [.agg (api_Rat.c v4)]
 ·refine .skip <| .seq ?_
  obtain ⟨v6, hc7, hr⟩ := bd hr
  refine .g1 fine (ok0 (fraction_Whole_ok n 0 v6 hc7)) <| .ca cf0 <| .mu 1 <| .done <| .nh [2] [.own (api_Rat.c x'), .own (api_Rat.c v6)] <| .ret ?_
  obtain rfl := oi hr
  exact FinQ.r1 [.agg (api_Rat.c v6)]

theorem integer_Mul_inj {x' : api_Int} {y : api_Int} {x'_ : api_Int} {y_ : api_Int} (h : ([.agg [.at (.bool x'.Negative), slT (iC .u32) x'.Groups], .agg [.at (.bool y.Negative), slT (iC .u32) y.Groups]] : List AV) = [.agg [.at (.bool x'_.Negative), slT (iC .u32) x'_.Groups], .agg [.at (.bool y_.Negative), slT (iC .u32) y_.Groups]]) : x' = x'_ ∧ y = y_ := by
 obtain ⟨_, _⟩ := x'
 obtain ⟨_, _⟩ := x'_
 obtain ⟨_, _⟩ := y
 obtain ⟨_, _⟩ := y_
 simp only [List.cons.injEq, AV.agg.injEq, AV.at.injEq, Value.int.injEq, Value.bool.injEq, AV.fn.injEq, AV.pp.injEq, true_and, and_true, slT_inj_int] at h
 simp_all
theorem integer_Mul_cg (n : Nat) {x' : api_Int} {y : api_Int} {x'_ : api_Int} {y_ : api_Int} (h : ([.agg [.at (.bool x'.Negative), slT (iC .u32) x'.Groups], .agg [.at (.bool y.Negative), slT (iC .u32) y.Groups]] : List AV) = [.agg [.at (.bool x'_.Negative), slT (iC .u32) x'_.Groups], .agg [.at (.bool y_.Negative), slT (iC .u32) y_.Groups]]) : integer_Mul n x' y = integer_Mul n x'_ y_ := by
 obtain ⟨rfl, rfl⟩ := integer_Mul_inj h
 rfl
theorem integer_Mul_ok (n : Nat) (x' : api_Int) (y : api_Int) (r : api_Int) (hr : integer_Mul n x' y = some r) : FnOk Tryz.prog 114 [.agg (api_Int.c x'), .agg (api_Int.c y)] (.agg (api_Int.c r)) := by
 unfold integer_Mul at hr
 refine FnOk.bd fine Tryz.func114 [.cell 4 72] ?_
 unfold Tryz.f114
 simp only [Option.getD_some]
 refine .seq <| .r2 fine 16 [(2, .hp 0 0), (3, .hp 1 0), (4, .hp 2 0)] [.own (api_Int.c x'), .own (api_Int.c y), .own [aB false, nS]] <| .seq ?_
 obtain ⟨v1, hc2, v3, hc4, v5, hc6, hr⟩ := bd3 hr
 obtain ⟨v7, hc8, hr⟩ := bd hr
 refine .tn fine (ca1 (ok0 (integer_groups_ok n x' v1 hc2)) (ca1 (ok0 (integer_groups_ok n y v3 hc4)) (ca1 (ok0 (integer_times_ok n v1 v3 v5 hc6)) (ca3 (ok0 (integer_made_ok n (x'.Negative != y.Negative) v5 v7 hc8)))))) <| .mu 6 <| .ca cf0 <| .mu 1 <| .ca (cfA (fun h => by rw [sv hc4 hc2 (integer_groups_cg n h)]) cf0) <| .ca (cfF (cfF cf0)) <| .ca (cfF (cfF (cfF cf0))) <| .mu 1 ?_
 refine .done ⟨by kernel_rfl, ?_⟩
 refine .nh [4] [.own (api_Int.c x'), .own (api_Int.c y), .own (api_Int.c v7)] <| .ret ?_
 obtain rfl := oi hr
 exact FinQ.r1 [.agg (api_Int.c v7)]

theorem fraction_Mul_ok (n : Nat) (x' : api_Rat) (y : api_Rat) (r : api_Rat) (hr : fraction_Mul n x' y = some r) : FnOk Tryz.prog 110 [.agg (api_Rat.c x'), .agg (api_Rat.c y)] (.agg (api_Rat.c r)) := by
 unfold fraction_Mul at hr
 refine FnOk.bd fine Tryz.func110 [.cell 4 74] ?_
 unfold Tryz.f110
 simp only [Option.getD_some]
 refine .seq <| .r2 fine 20 [(2, .hp 0 0), (3, .hp 1 0), (4, .hp 2 0)] [.own (api_Rat.c x'), .own (api_Rat.c y), .own [aB false, nS, aB false, nS]] <| .seq ?_
 obtain ⟨v1, hc2, v3, hc4, hr⟩ := bd2 hr
 refine .tn fine (ca1 (ok0 (fraction_Value_ok n x' v1 hc2)) (ca3 (ok0 (fraction_Value_ok n y v3 hc4)))) <| .mu 1 <| .ca cf0 <| .mu 1 <| .ca (cfA (fun h => by rw [sv hc4 hc2 (fraction_Value_cg n h)]) cf0) <| .mu 2 ?_
 refine .done ⟨by kernel_rfl, ?_⟩
 refine .nh [2, 3, 4] [.own (api_Rat.c v1), .own (api_Rat.c v3), .own [aB false, nS, aB false, nS]] <| .seq ?_
 obtain ⟨v5, hc6, v7, hc8, v9, hc10, hr⟩ := bd3 hr
 refine .tn fine (ca1 (ok0 (integer_Mul_ok n v1.Num v3.Num v5 hc6)) (ca1 (ok0 (integer_Mul_ok n v1.Den v3.Den v7 hc8)) (ca3 (ok0 (fraction_reduced_ok n v5 v7 v9 hc10))))) <| .mu 4 <| .ca cf0 <| .mu 4 <| .ca (cfA (fun h => by rw [sv hc8 hc6 (integer_Mul_cg n h)]) cf0) <| .ca (cfF (cfF cf0)) <| .mu 1 ?_
 refine .done ⟨by kernel_rfl, ?_⟩
 refine .nh [4] [.own (api_Rat.c v1), .own (api_Rat.c v3), .own (api_Rat.c v9)] <| .ret ?_
 obtain rfl := oi hr
 exact FinQ.r1 [.agg (api_Rat.c v9)]

theorem integer_sum_ok (n : Nat) (negative : Bool) (a : List Int) (other : Bool) (b : List Int) (r : api_Int) (hr : integer_sum n negative a other b = some r) : FnOk Tryz.prog 147 [aB negative, sU32 a, aB other, sU32 b] (.agg (api_Int.c r)) := by
 unfold integer_sum at hr
 refine FnOk.bd fine Tryz.func147 [.cell 8 72] ?_
 unfold Tryz.f147
 simp only [Option.getD_some]
 refine .seq <| .r5 fine [0, 1, 2, 3] [(8, .hp 0 0)] [.own [aB false, nS]] <| .seq <| .block <| .seq <| .r4 fine [0, 1, 2, 3, 8] [(9, aB (negative == other))] ?_
 refine .cd hr (fun hb1 hr => ?_) (fun hb1 hr => ?_)
 ·refine .seq ?_
  obtain ⟨v2, hc3, v4, hc5, hr⟩ := bd2 hr
  refine .gn fine (ca1 (ok0 (integer_plus_ok n a b v2 hc3)) (ca3 (ok0 (integer_made_ok n negative v2 v4 hc5)))) <| .mu 3 <| .ca cf0 <| .ca (cfF cf0) <| .mu 1 <| .done <| .nh [8] [.own (api_Int.c v4)] <| .ret ?_
  obtain rfl := oi hr
  exact FinQ.r1 [.agg (api_Int.c v4)]
 ·refine .seq ?_
  obtain ⟨v6, hc7, hr⟩ := bd hr
  refine .g1 fine (ok0 (integer_compare_ok n a b v6 hc7)) <| .mu 2 <| .ca cf0 <| .mu 2 <| .done <| .nh [0, 1, 2, 3, 8, 18] [.own [aB false, nS]] ?_
  refine .cd hr (fun hb8 hr => ?_) (fun hb8 hr => ?_)
  ·refine .seq ?_
   obtain ⟨v9, hc10, v11, hc12, hr⟩ := bd2 hr
   refine .gn fine (ca1 (ok0 (integer_minus_ok n a b v9 hc10)) (ca3 (ok0 (integer_made_ok n negative v9 v11 hc12)))) <| .mu 3 <| .ca cf0 <| .ca (cfF cf0) <| .mu 1 <| .done <| .nh [8] [.own (api_Int.c v11)] <| .ret ?_
   obtain rfl := oi hr
   exact FinQ.r1 [.agg (api_Int.c v11)]
  ·refine .skip <| .pop <| .seq ?_
   obtain ⟨v13, hc14, v15, hc16, hr⟩ := bd2 hr
   refine .gn fine (ca1 (ok0 (integer_minus_ok n b a v13 hc14)) (ca3 (ok0 (integer_made_ok n other v13 v15 hc16)))) <| .mu 3 <| .ca cf0 <| .ca (cfF cf0) <| .mu 1 <| .done <| .nh [8] [.own (api_Int.c v15)] <| .ret ?_
   obtain rfl := oi hr
   exact FinQ.r1 [.agg (api_Int.c v15)]

theorem integer_Add_ok (n : Nat) (x' : api_Int) (y : api_Int) (r : api_Int) (hr : integer_Add n x' y = some r) : FnOk Tryz.prog 113 [.agg (api_Int.c x'), .agg (api_Int.c y)] (.agg (api_Int.c r)) := by
 unfold integer_Add at hr
 refine FnOk.bd fine Tryz.func113 [.cell 4 72] ?_
 unfold Tryz.f113
 simp only [Option.getD_some]
 refine .seq <| .r2 fine 14 [(2, .hp 0 0), (3, .hp 1 0), (4, .hp 2 0)] [.own (api_Int.c x'), .own (api_Int.c y), .own [aB false, nS]] <| .seq ?_
 obtain ⟨v1, hc2, v3, hc4, v5, hc6, hr⟩ := bd3 hr
 refine .tn fine (ca1 (ok0 (integer_groups_ok n x' v1 hc2)) (ca1 (ok0 (integer_groups_ok n y v3 hc4)) (ca3 (ok0 (integer_sum_ok n x'.Negative v1 y.Negative v3 v5 hc6))))) <| .mu 3 <| .ca cf0 <| .mu 3 <| .ca (cfA (fun h => by rw [sv hc4 hc2 (integer_groups_cg n h)]) cf0) <| .ca (cfF (cfF cf0)) <| .mu 1 ?_
 refine .done ⟨by kernel_rfl, ?_⟩
 refine .nh [4] [.own (api_Int.c x'), .own (api_Int.c y), .own (api_Int.c v5)] <| .ret ?_
 obtain rfl := oi hr
 exact FinQ.r1 [.agg (api_Int.c v5)]

theorem fraction_Add_ok (n : Nat) (x' : api_Rat) (y : api_Rat) (r : api_Rat) (hr : fraction_Add n x' y = some r) : FnOk Tryz.prog 88 [.agg (api_Rat.c x'), .agg (api_Rat.c y)] (.agg (api_Rat.c r)) := by
 unfold fraction_Add at hr
 refine FnOk.bd fine Tryz.func88 [.cell 4 74] ?_
 unfold Tryz.f88
 simp only [Option.getD_some]
 refine .seq <| .r2 fine 26 [(2, .hp 0 0), (3, .hp 1 0), (4, .hp 2 0)] [.own (api_Rat.c x'), .own (api_Rat.c y), .own [aB false, nS, aB false, nS]] <| .seq ?_
 obtain ⟨v1, hc2, v3, hc4, hr⟩ := bd2 hr
 refine .tn fine (ca1 (ok0 (fraction_Value_ok n x' v1 hc2)) (ca3 (ok0 (fraction_Value_ok n y v3 hc4)))) <| .mu 1 <| .ca cf0 <| .mu 1 <| .ca (cfA (fun h => by rw [sv hc4 hc2 (fraction_Value_cg n h)]) cf0) <| .mu 2 ?_
 refine .done ⟨by kernel_rfl, ?_⟩
 refine .nh [2, 3, 4] [.own (api_Rat.c v1), .own (api_Rat.c v3), .own [aB false, nS, aB false, nS]] <| .seq ?_
 obtain ⟨v5, hc6, v7, hc8, v9, hc10, hr⟩ := bd3 hr
 obtain ⟨v11, hc12, v13, hc14, hr⟩ := bd2 hr
 refine .tn fine (ca1 (ok0 (integer_Mul_ok n v1.Num v3.Den v5 hc6)) (ca1 (ok0 (integer_Mul_ok n v3.Num v1.Den v7 hc8)) (ca1 (ok0 (integer_Add_ok n v5 v7 v9 hc10)) (ca1 (ok0 (integer_Mul_ok n v1.Den v3.Den v11 hc12)) (ca3 (ok0 (fraction_reduced_ok n v9 v11 v13 hc14))))))) <| .mu 4 <| .ca cf0 <| .mu 4 <| .ca (cfA (fun h => by rw [sv hc8 hc6 (integer_Mul_cg n h)]) cf0) <| .ca (cfF (cfF cf0)) <| .mu 4 <| .ca (cfA (fun h => by rw [sv hc12 hc6 (integer_Mul_cg n h)]) (cfA (fun h => by rw [sv hc12 hc8 (integer_Mul_cg n h)]) (cfF cf0))) <| .ca (cfF (cfF (cfF (cfF cf0)))) <| .mu 1 ?_
 refine .done ⟨by kernel_rfl, ?_⟩
 refine .nh [4] [.own (api_Rat.c v1), .own (api_Rat.c v3), .own (api_Rat.c v13)] <| .ret ?_
 obtain rfl := oi hr
 exact FinQ.r1 [.agg (api_Rat.c v13)]

theorem predicate_Meet_1_inj {p : Int} {q : Int} {p' : Bool} {p'' : List Int} {p''' : Bool} {p'''' : List Int} {p_ : Int} {q_ : Int} {p'_ : Bool} {p''_ : List Int} {p'''_ : Bool} {p''''_ : List Int} (h : ([.at (.int .i64 p), .at (.int .i64 q), .pp [.at (.bool p'), slT (iC .u32) p'', .at (.bool p'''), slT (iC .u32) p''''] 0] : List AV) = [.at (.int .i64 p_), .at (.int .i64 q_), .pp [.at (.bool p'_), slT (iC .u32) p''_, .at (.bool p'''_), slT (iC .u32) p''''_] 0]) : p = p_ ∧ q = q_ ∧ p' = p'_ ∧ p'' = p''_ ∧ p''' = p'''_ ∧ p'''' = p''''_ := by
 simp only [List.cons.injEq, AV.agg.injEq, AV.at.injEq, Value.int.injEq, Value.bool.injEq, AV.fn.injEq, AV.pp.injEq, true_and, and_true, slT_inj_int] at h
 simp_all
theorem predicate_Meet_1_cg (n : Nat) {p : Int} {q : Int} {p' : Bool} {p'' : List Int} {p''' : Bool} {p'''' : List Int} {p_ : Int} {q_ : Int} {p'_ : Bool} {p''_ : List Int} {p'''_ : Bool} {p''''_ : List Int} (h : ([.at (.int .i64 p), .at (.int .i64 q), .pp [.at (.bool p'), slT (iC .u32) p'', .at (.bool p'''), slT (iC .u32) p''''] 0] : List AV) = [.at (.int .i64 p_), .at (.int .i64 q_), .pp [.at (.bool p'_), slT (iC .u32) p''_, .at (.bool p'''_), slT (iC .u32) p''''_] 0]) : predicate_Meet_1 n p q p' p'' p''' p'''' = predicate_Meet_1 n p_ q_ p'_ p''_ p'''_ p''''_ := by
 obtain ⟨rfl, rfl, rfl, rfl, rfl, rfl⟩ := predicate_Meet_1_inj h
 rfl
theorem predicate_Meet_1_ok (n : Nat) (p : Int) (q : Int) (p' : Bool) (p'' : List Int) (p''' : Bool) (p'''' : List Int) (r : api_Rat) (hr : predicate_Meet_1 n p q p' p'' p''' p'''' = some r) : FnOk Tryz.prog 109 [aI64 p, aI64 q, .pp [aB p', sU32 p'', aB p''', sU32 p''''] 0] (.agg (api_Rat.c r)) := by
 unfold predicate_Meet_1 at hr
 refine FnOk.bd fine Tryz.func109 [.cell 5 74] ?_
 unfold Tryz.f109
 simp only [Option.getD_some]
 refine .seq <| .r5 fine [0, 1, 2] [(5, .hp 0 0)] [.own [aB false, nS, aB false, nS]] <| .seq ?_
 obtain ⟨v1, hc2, v3, hc4, v5, hc6, hr⟩ := bd3 hr
 obtain ⟨v7, hc8, hr⟩ := bd hr
 refine .tn fine (ca1 (ok0 (fraction_Whole_ok n p v1 hc2)) (ca1 (ok0 (fraction_Whole_ok n (wrapF .i64 (q - p)) v3 hc4)) (ca1 (ok0 (fraction_Mul_ok n (api_Rat.mk (api_Int.mk p' p'') (api_Int.mk p''' p'''')) v3 v5 hc6)) (ca3 (ok0 (fraction_Add_ok n v1 v5 v7 hc8)))))) <| .mu 1 <| .ca cf0 <| .mu 4 <| .ca (cfA (fun h => by rw [sv hc4 hc2 (fraction_Whole_cg n h)]) cf0) <| .ca (cfF (cfF cf0)) <| .ca (cfF (cfF (cfF cf0))) <| .mu 1 ?_
 refine .done ⟨by kernel_rfl, ?_⟩
 refine .nh [5] [.own (api_Rat.c v7)] <| .ret ?_
 obtain rfl := oi hr
 exact FinQ.r1 [.agg (api_Rat.c v7)]

theorem predicate_Meet_ok (n : Nat) (a : api_Pix) (b : api_Pix) (c : api_Pix) (d : api_Pix) (r : api_Place × Int) (hr : predicate_Meet n a b c d = some r) : FnOk Tryz.prog 65 [.agg (api_Pix.c a), .agg (api_Pix.c b), .agg (api_Pix.c c), .agg (api_Pix.c d)] (.tup [.agg (api_Place.c r.1), aI64 r.2]) := by
 unfold predicate_Meet at hr
 refine FnOk.bd fine Tryz.func65 [.cell 8 109, .tmp 9] ?_
 unfold Tryz.f65
 simp only [Option.getD_some]
 refine .seq <| .r5 fine [] [(4, .hp 0 0), (5, .hp 1 0), (6, .hp 2 0), (7, .hp 3 0), (8, .hp 4 0)] [.own (api_Pix.c a), .own (api_Pix.c b), .own (api_Pix.c c), .own (api_Pix.c d), .own [aB false, nS, aB false, nS, aB false, nS, aB false, nS]] <| .seq ?_
 obtain ⟨v1, hc2, hr⟩ := bd hr
 refine .g1 fine (ok0 (predicate_Relate_ok n a b c d v1 hc2)) <| .mu 4 <| .ca cf0 <| .mu 5 <| .done <| .nh [4, 5, 6, 7, 8, 10, 11] [.own (api_Pix.c a), .own (api_Pix.c b), .own (api_Pix.c c), .own (api_Pix.c d), .own [aB false, nS, aB false, nS, aB false, nS, aB false, nS]] <| .seq <| .block <| .seq <| .r4 fine [4, 5, 6, 7, 8, 10, 11] [(28, aB ((v1.2 : Int) != 0))] ?_
 refine .cd hr (fun hb3 hr => ?_) (fun hb3 hr => ?_)
 ·refine .seq <| .r4 fine [8] [(9, aI64 v1.2)] <| .ret ?_
  obtain rfl := oi hr
  exact FinQ.ret (vs := [.agg [aB false, nS, aB false, nS, aB false, nS, aB false, nS], aI64 v1.2]) (by kernel_rfl) (Sn.tup (SnL.cons (Sn.agg (SnL.cons (Sn.pure rfl) (SnL.cons Sn.nilsl (SnL.cons (Sn.pure rfl) (SnL.cons Sn.nilsl (SnL.cons (Sn.pure rfl) (SnL.cons Sn.nilsl (SnL.cons (Sn.pure rfl) (SnL.cons Sn.nilsl SnL.nil))))))))) (SnL.cons (Sn.pure rfl) SnL.nil)))
 ·refine .seq <| .r4 fine [4, 5, 6, 7, 8, 10] [(33, aB ((v1.1 : Int) == 0))] ?_
  refine .cd hr (fun hb4 hr => ?_) (fun hb4 hr => ?_)
  ·refine .seq <| .r4 fine [8] [(9, aI64 6)] <| .ret ?_
   obtain rfl := oi hr
   exact FinQ.ret (vs := [.agg [aB false, nS, aB false, nS, aB false, nS, aB false, nS], aI64 6]) (by kernel_rfl) (Sn.tup (SnL.cons (Sn.agg (SnL.cons (Sn.pure rfl) (SnL.cons Sn.nilsl (SnL.cons (Sn.pure rfl) (SnL.cons Sn.nilsl (SnL.cons (Sn.pure rfl) (SnL.cons Sn.nilsl (SnL.cons (Sn.pure rfl) (SnL.cons Sn.nilsl SnL.nil))))))))) (SnL.cons (Sn.pure rfl) SnL.nil)))
  ·refine .seq <| .r4 fine [4, 5, 6, 7, 8, 10] [(37, aB ((v1.1 : Int) == 3))] ?_
   refine .cd hr (fun hb5 hr => ?_) (fun hb5 hr => ?_)
   ·refine .seq <| .r4 fine [8] [(9, aI64 11)] <| .ret ?_
    obtain rfl := oi hr
    exact FinQ.ret (vs := [.agg [aB false, nS, aB false, nS, aB false, nS, aB false, nS], aI64 11]) (by kernel_rfl) (Sn.tup (SnL.cons (Sn.agg (SnL.cons (Sn.pure rfl) (SnL.cons Sn.nilsl (SnL.cons (Sn.pure rfl) (SnL.cons Sn.nilsl (SnL.cons (Sn.pure rfl) (SnL.cons Sn.nilsl (SnL.cons (Sn.pure rfl) (SnL.cons Sn.nilsl SnL.nil))))))))) (SnL.cons (Sn.pure rfl) SnL.nil)))
   ·refine .seq <| .r4 fine [4, 5, 6, 7, 8] [(41, aB ((v1.1 : Int) == 1))] ?_
    refine .cd hr (fun hb6 hr => ?_) (fun hb6 hr => ?_)
    ·refine .seq <| .seq <| .r5 fine [4, 5, 6, 7, 8] [(46, .hs 5 0 2 2), (47, aI64 2), (48, aI64 0)] [.own (api_Pix.c a), .own (api_Pix.c b), .own (api_Pix.c c), .own (api_Pix.c d), .own [aB false, nS, aB false, nS, aB false, nS, aB false, nS], .own [aI64 a.X, aI64 a.Y, aI64 b.X, aI64 b.Y]] <| .block ?_
     replace hr := bd hr; obtain ⟨o27, hL28, hr⟩ := hr
     refine .loopO (σ := fun z0 => match z0 with | x_7 => ⟨mkS 108 0 [(4, .hp 0 0), (5, .hp 1 0), (6, .hp 2 0), (7, .hp 3 0), (8, .hp 4 0), (46, .hs 5 0 ([a, b].length) 2), (47, aI64 2), (48, aI64 x_7)], [.own (api_Pix.c a), .own (api_Pix.c b), .own (api_Pix.c c), .own (api_Pix.c d), .own [aB false, nS, aB false, nS, aB false, nS, aB false, nS], .own ([a, b].flatMap api_Pix.c)]⟩) (Q := fun x st' => match (generalizing := false) o27 with | .inl _ => x = .exit 1 ∧ Wk 0 st' ⟨mkS 108 0 [(4, .hp 0 0), (5, .hp 1 0), (6, .hp 2 0), (7, .hp 3 0), (8, .hp 4 0)], [.own (api_Pix.c a), .own (api_Pix.c b), .own (api_Pix.c c), .own (api_Pix.c d), .own [aB false, nS, aB false, nS, aB false, nS, aB false, nS]]⟩ | .inr (r0) => x = .ret ∧ FinQ Tryz.prog [.cell 8 109, .tmp 9] (.tup [.agg (api_Place.c r0.1), aI64 r0.2]) .ret st') hL28 ((Wk.gc [4, 5, 6, 7, 8, 46, 47, 48] [(0, true), (1, true), (2, true), (3, true), (4, true), (5, false)] rfl (pKt (pKt (pKt (pKt (pKt (pKc trivial))))))).to (by kernel_rfl)) ?_ ?_
     ·clear hr
      rintro m x_7 hr
      show CQ _ _ _ _ _ ⟨_, _⟩
      refine .seq <| .r4 fine [4, 5, 6, 7, 8, 46, 47, 48] [(49, aB (decide (x_7 < 2)))] <| .seq ?_
      refine .cd hr (fun hb18 hr => ?_) (fun hb18 hr => ?_)
      ·refine .skip <| .seq <| .block <| .seq ?_
       obtain ⟨hg19, hr⟩ := gd hr
       refine .r0 fine <| .p0 (v := .hp 5 (0 + x_7.toNat * 2)) (tr (ofP_guard hg19)) <| .p0 (v := .agg (api_Pix.c (gt [a, b] x_7))) (Eq.trans (b := ORes.ofP (guardV (decide (2 ≤ (([a, b].flatMap api_Pix.c).drop (0 + x_7.toNat * 2)).length)) (.agg ((([a, b].flatMap api_Pix.c).drop (0 + x_7.toNat * 2)).take 2)))) (by kernel_rfl) (flat_load api_Pix.len (inR_lt hg19) (by decide) (by omega : 0 + x_7.toNat * 2 = x_7.toNat * 2 + 0) (by kernel_rfl))) <| .mu 2 <| .done <| .nh [4, 5, 6, 7, 8, 13, 46, 47, 48] [.own (api_Pix.c a), .own (api_Pix.c b), .own (api_Pix.c c), .own (api_Pix.c d), .own [aB false, nS, aB false, nS, aB false, nS, aB false, nS], .own ([a, b].flatMap api_Pix.c), .own (api_Pix.c (gt [a, b] x_7))] <| .seq ?_
       obtain ⟨v20, hc21, hr⟩ := bd hr
       refine .g1 fine (ok0 (predicate_on_ok n c d (gt [a, b] x_7) v20 hc21)) <| .mu 3 <| .ca cf0 <| .done <| .nh [4, 5, 6, 7, 8, 13, 46, 47, 48, 55] [.own (api_Pix.c a), .own (api_Pix.c b), .own (api_Pix.c c), .own (api_Pix.c d), .own [aB false, nS, aB false, nS, aB false, nS, aB false, nS], .own ([a, b].flatMap api_Pix.c), .own (api_Pix.c (gt [a, b] x_7))] ?_
       refine .cd hr (fun hb22 hr => ?_) (fun hb22 hr => ?_)
       ·refine .seq ?_
        obtain ⟨v23, hc24, v25, hc26, hr⟩ := bd2 hr
        refine .tn fine (ca1 (ok0 (fraction_Whole_ok n (gt [a, b] x_7).X v23 hc24)) (ca3 (ok0 (fraction_Whole_ok n (gt [a, b] x_7).Y v25 hc26)))) <| .mu 2 <| .ca cf0 <| .mu 2 <| .ca (cfA (fun h => by rw [sv hc26 hc24 (fraction_Whole_cg n h)]) cf0) <| .mu 3 ?_
        refine .done ⟨by kernel_rfl, ?_⟩
        refine .nh [8, 9] [.own (api_Pix.c a), .own (api_Pix.c b), .own (api_Pix.c c), .own (api_Pix.c d), .own [aB v23.Num.Negative, sU32 v23.Num.Groups, aB v23.Den.Negative, sU32 v23.Den.Groups, aB v25.Num.Negative, sU32 v25.Num.Groups, aB v25.Den.Negative, sU32 v25.Den.Groups], .own ([a, b].flatMap api_Pix.c), .own (api_Pix.c (gt [a, b] x_7))] <| .ret ?_
        obtain rfl := oi hr
        exact ⟨rfl, FinQ.ret (vs := [.agg [aB v23.Num.Negative, sU32 v23.Num.Groups, aB v23.Den.Negative, sU32 v23.Den.Groups, aB v25.Num.Negative, sU32 v25.Num.Groups, aB v25.Den.Negative, sU32 v25.Den.Groups], aI64 0]) (by kernel_rfl) (Sn.tup (SnL.cons (Sn.pure rfl) (SnL.cons (Sn.pure rfl) SnL.nil)))⟩
       ·refine .skip <| .pop <| .ru fine ?_
        exact loopF_back (wrapF .i64 (x_7 + 1)) hr ((Wk.gc [4, 5, 6, 7, 8, 46, 47, 48] [(0, true), (1, true), (2, true), (3, true), (4, true), (5, false)] rfl (pKt (pKt (pKt (pKt (pKt (pKo api_Pix.c api_Pix.pure [a, b] trivial))))))).to (by kernel_rfl))
      ·refine .leave rfl ?_
       obtain rfl := oi hr
       exact ⟨rfl, ((Wk.gc [4, 5, 6, 7, 8] [(0, true), (1, true), (2, true), (3, true), (4, true)] rfl trivial).to (by kernel_rfl))⟩
     ·rcases o27 with ⟨⟩ | r0
      ·rintro x st' hq29
       clear hL28
       obtain ⟨rfl, hq29⟩ := hq29
       refine CQ_exit _ rfl <| .wk hq29 <| .seq <| .r5 fine [4, 5, 6, 7, 8] [(14, .hp 5 0)] [.own (api_Pix.c a), .own (api_Pix.c b), .own (api_Pix.c c), .own (api_Pix.c d), .own [aB false, nS, aB false, nS, aB false, nS, aB false, nS], .own (api_Pix.c c)] <| .seq <| .seq ?_
       obtain ⟨v30, hc31, hr⟩ := bd hr
       refine .g1 fine (ok0 (predicate_on_ok n a b c v30 hc31)) <| .mu 3 <| .ca cf0 <| .mu 1 <| .done <| .nh [7, 8, 14, 69] [.own (api_Pix.c a), .own (api_Pix.c b), .own (api_Pix.c c), .own (api_Pix.c d), .own [aB false, nS, aB false, nS, aB false, nS, aB false, nS], .own (api_Pix.c c)] ?_
       refine .cd hr (fun hb32 hr => ?_) (fun hb32 hr => ?_)
       ·refine .r5 fine [8, 14] [] [.own (api_Pix.c a), .own (api_Pix.c b), .own (api_Pix.c c), .own (api_Pix.c d), .own [aB false, nS, aB false, nS, aB false, nS, aB false, nS], .own (api_Pix.c d)] <| .seq ?_
        obtain ⟨v33, hc34, v35, hc36, hr⟩ := bd2 hr
        refine .tn fine (ca1 (ok0 (fraction_Whole_ok n d.X v33 hc34)) (ca3 (ok0 (fraction_Whole_ok n d.Y v35 hc36)))) <| .mu 2 <| .ca cf0 <| .mu 2 <| .ca (cfA (fun h => by rw [sv hc36 hc34 (fraction_Whole_cg n h)]) cf0) <| .mu 3 ?_
        refine .done ⟨by kernel_rfl, ?_⟩
        refine .nh [8, 9] [.own (api_Pix.c a), .own (api_Pix.c b), .own (api_Pix.c c), .own (api_Pix.c d), .own [aB v33.Num.Negative, sU32 v33.Num.Groups, aB v33.Den.Negative, sU32 v33.Den.Groups, aB v35.Num.Negative, sU32 v35.Num.Groups, aB v35.Den.Negative, sU32 v35.Den.Groups], .own (api_Pix.c d)] <| .ret ?_
        obtain rfl := oi hr
        exact FinQ.ret (vs := [.agg [aB v33.Num.Negative, sU32 v33.Num.Groups, aB v33.Den.Negative, sU32 v33.Den.Groups, aB v35.Num.Negative, sU32 v35.Num.Groups, aB v35.Den.Negative, sU32 v35.Den.Groups], aI64 0]) (by kernel_rfl) (Sn.tup (SnL.cons (Sn.pure rfl) (SnL.cons (Sn.pure rfl) SnL.nil)))
       ·refine .skip <| .seq ?_
        obtain ⟨v37, hc38, v39, hc40, hr⟩ := bd2 hr
        refine .tn fine (ca1 (ok0 (fraction_Whole_ok n c.X v37 hc38)) (ca3 (ok0 (fraction_Whole_ok n c.Y v39 hc40)))) <| .mu 2 <| .ca cf0 <| .mu 2 <| .ca (cfA (fun h => by rw [sv hc40 hc38 (fraction_Whole_cg n h)]) cf0) <| .mu 3 ?_
        refine .done ⟨by kernel_rfl, ?_⟩
        refine .nh [8, 9] [.own (api_Pix.c a), .own (api_Pix.c b), .own (api_Pix.c c), .own (api_Pix.c d), .own [aB v37.Num.Negative, sU32 v37.Num.Groups, aB v37.Den.Negative, sU32 v37.Den.Groups, aB v39.Num.Negative, sU32 v39.Num.Groups, aB v39.Den.Negative, sU32 v39.Den.Groups], .own (api_Pix.c c)] <| .ret ?_
        obtain rfl := oi hr
        exact FinQ.ret (vs := [.agg [aB v37.Num.Negative, sU32 v37.Num.Groups, aB v37.Den.Negative, sU32 v37.Den.Groups, aB v39.Num.Negative, sU32 v39.Num.Groups, aB v39.Den.Negative, sU32 v39.Den.Groups], aI64 0]) (by kernel_rfl) (Sn.tup (SnL.cons (Sn.pure rfl) (SnL.cons (Sn.pure rfl) SnL.nil)))
      ·rintro x st' hq29
       clear hL28
       obtain ⟨rfl, hq29⟩ := hq29
       obtain rfl := oi hr
       exact CQ_ret _ hq29
    ·refine .skip <| .pop <| .seq ?_
     obtain ⟨v41, hc42, v43, hc44, hr⟩ := bd2 hr
     refine .tn fine (ca1 (ok0 (predicate_cross_ok n c d a v41 hc42)) (ca3 (ok0 (predicate_cross_ok n c d b v43 hc44)))) <| .mu 3 <| .ca cf0 <| .mu 3 <| .ca (cfA (fun h => by rw [sv hc44 hc42 (predicate_cross_cg n h)]) cf0) <| .mu 2 ?_
     refine .done ⟨by kernel_rfl, ?_⟩
     refine .nh [4, 5, 8, 15, 16] [.own (api_Pix.c a), .own (api_Pix.c b), .own (api_Pix.c c), .own (api_Pix.c d), .own [aB false, nS, aB false, nS, aB false, nS, aB false, nS]] <| .seq ?_
     obtain ⟨v45, hc46, hr⟩ := bd hr
     refine .g1 fine (ok0 (fraction_Of_ok n v41 (wrapF .i64 (v41 - v43)) v45 hc46)) <| .mu 4 <| .ca cf0 <| .mu 6 <| .done <| .nh [4, 5, 8, 17] [.own (api_Pix.c a), .own (api_Pix.c b), .own (api_Pix.c c), .own (api_Pix.c d), .own [aB false, nS, aB false, nS, aB false, nS, aB false, nS], .own (api_Rat.c v45.1)] <| .seq <| .r4 fine [4, 5, 8] [(19, .fn 109 [] [.hp 5 0])] <| .seq <| .wk ((Wk.fix 5 (cs := (api_Rat.c v45.1)) (by kernel_rfl)).to (c := ⟨mkS 108 0 [(4, .hp 0 0), (5, .hp 1 0), (8, .hp 4 0), (19, .fn 109 [] [.hp 5 0])], [.own (api_Pix.c a), .own (api_Pix.c b), .own (api_Pix.c c), .own (api_Pix.c d), .own [aB false, nS, aB false, nS, aB false, nS, aB false, nS], .fix (api_Rat.c v45.1)]⟩) (by kernel_rfl)) ?_
     obtain ⟨v47, hc48, v49, hc50, hr⟩ := bd2 hr
     refine .tn fine (ca1 (callOk_ref (args := [aI64 a.X, aI64 b.X, .hp 5 0]) (l := [5]) (SnL.cons (Sn.pure rfl) (SnL.cons (Sn.pure rfl) (SnL.cons (Sn.hp rfl (.inr rfl) (SnC.cons (Sn.pure rfl) (SnC.cons (Sn.pure rfl) (SnC.cons (Sn.pure rfl) (SnC.cons (Sn.pure rfl) SnC.nil))))) SnL.nil))) (predicate_Meet_1_ok n a.X b.X v45.1.Num.Negative v45.1.Num.Groups v45.1.Den.Negative v45.1.Den.Groups v47 hc48)) (ca3 (callOk_ref (args := [aI64 a.Y, aI64 b.Y, .hp 5 0]) (l := [5]) (SnL.cons (Sn.pure rfl) (SnL.cons (Sn.pure rfl) (SnL.cons (Sn.hp rfl (.inr rfl) (SnC.cons (Sn.pure rfl) (SnC.cons (Sn.pure rfl) (SnC.cons (Sn.pure rfl) (SnC.cons (Sn.pure rfl) SnC.nil))))) SnL.nil))) (predicate_Meet_1_ok n a.Y b.Y v45.1.Num.Negative v45.1.Num.Groups v45.1.Den.Negative v45.1.Den.Groups v49 hc50)))) <| .mu 5 <| .ca cf0 <| .mu 5 <| .ca (cfA (fun h => by rw [sv hc50 hc48 (predicate_Meet_1_cg n (show ([aI64 a.Y, aI64 b.Y, .pp (api_Rat.c v45.1) 0] : List AV) = [aI64 a.X, aI64 b.X, .pp (api_Rat.c v45.1) 0] from (congr (congrArg List.cons (List.cons.inj h).1) (congr (congrArg List.cons (List.cons.inj (List.cons.inj h).2).1) (congr (congrArg List.cons rfl) rfl)))))]) cf0) <| .mu 3 ?_
     refine .done ⟨by kernel_rfl, ?_⟩
     refine .nh [8, 9] [.own (api_Pix.c a), .own (api_Pix.c b), .own (api_Pix.c c), .own (api_Pix.c d), .own [aB v47.Num.Negative, sU32 v47.Num.Groups, aB v47.Den.Negative, sU32 v47.Den.Groups, aB v49.Num.Negative, sU32 v49.Num.Groups, aB v49.Den.Negative, sU32 v49.Den.Groups], .fix (api_Rat.c v45.1)] <| .ret ?_
     obtain rfl := oi hr
     exact FinQ.ret (vs := [.agg [aB v47.Num.Negative, sU32 v47.Num.Groups, aB v47.Den.Negative, sU32 v47.Den.Groups, aB v49.Num.Negative, sU32 v49.Num.Groups, aB v49.Den.Negative, sU32 v49.Den.Groups], aI64 0]) (by kernel_rfl) (Sn.tup (SnL.cons (Sn.pure rfl) (SnL.cons (Sn.pure rfl) SnL.nil)))

theorem predicate_Orient_ok (n : Nat) (a : api_Pix) (b : api_Pix) (c : api_Pix) (r : Int) (hr : predicate_Orient n a b c = some r) : FnOk Tryz.prog 66 [.agg (api_Pix.c a), .agg (api_Pix.c b), .agg (api_Pix.c c)] (aI64 r) := by
 unfold predicate_Orient at hr
 refine FnOk.bd fine Tryz.func66 [.tmp 6] ?_
 unfold Tryz.f66
 simp only [Option.getD_some]
 refine .seq <| .r2 fine 18 [(3, .hp 0 0), (4, .hp 1 0), (5, .hp 2 0)] [.own (api_Pix.c a), .own (api_Pix.c b), .own (api_Pix.c c)] <| .seq <| .seq ?_
 obtain ⟨v1, hc2, hr⟩ := bd hr
 refine .gn fine (ca4 [.own (api_Pix.c a), .own (api_Pix.c b), .own (api_Pix.c c), .own [aI64 a.X, aI64 a.Y, aI64 b.X, aI64 b.Y, aI64 c.X, aI64 c.Y]] (callOk_val (args := [.hs 3 0 3 2]) (l := [3]) rfl (SnL.cons (Sn.hs rfl (.inl rfl) (SnC.cons (Sn.pure rfl) (SnC.cons (Sn.pure rfl) (SnC.cons (Sn.pure rfl) (SnC.cons (Sn.pure rfl) (SnC.cons (Sn.pure rfl) (SnC.cons (Sn.pure rfl) SnC.nil)))))) (fun h => nomatch h)) SnL.nil) (predicate_Check_ok n [a, b, c] v1 hc2))) <| .mu 4 <| .ca cf0 <| .mu 1 <| .done <| .nh [3, 4, 5, 12] [.own (api_Pix.c a), .own (api_Pix.c b), .own (api_Pix.c c), .own [aI64 a.X, aI64 a.Y, aI64 b.X, aI64 b.Y, aI64 c.X, aI64 c.Y]] ?_
 refine .cd hr (fun hb3 hr => ?_) (fun hb3 hr => ?_)
 ·refine .seq <| .ru fine <| .ret ?_
  obtain rfl := oi hr
  exact FinQ.r1 [aI64 0]
 ·refine .skip <| .seq ?_
  obtain ⟨v4, hc5, v6, hc7, hr⟩ := bd2 hr
  refine .gn fine (ca1 (ok0 (predicate_cross_ok n a b c v4 hc5)) (ca3 (ok0 (predicate_sign_ok n v4 v6 hc7)))) <| .mu 3 <| .ca cf0 <| .ca (cfF cf0) <| .mu 1 <| .done <| .ret ?_
  obtain rfl := oi hr
  exact FinQ.r1 [aI64 v6]
end Go.L
