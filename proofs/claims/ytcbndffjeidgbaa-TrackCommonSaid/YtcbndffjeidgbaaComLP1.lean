/- The program's functions compute what the plain Lean programs compute, part 1; printed by a program. -/
import Derived.Test.YtcbndffjeidgbaaComLD
import Derived.Test.YtcbndffjeidgbaaL0khnjpfmp
import Derived.Test.YtcbndffjeidgbaaKn26gnilkign
import Derived.Test.YtcbndffjeidgbaaChecked
import Derived.KernelRfl
set_option linter.all false
set_option maxRecDepth 100000
set_option maxHeartbeats 4000000
namespace Go.L
open Go Go.Eng Go.Proofs
theorem fiduciallaw26_known_ok (n : Nat) (r : Bool) (hr : fiduciallaw26_known n = some r) : FnOk Try.prog 11 [] (aB r) := by
 cases hr
 exact fiduciallaw26_known_run

theorem fiduciallaw26_short_1_ok (n : Nat) (t : List api_Mark) (r : Bool) (hr : fiduciallaw26_short_1 n t = some r) : FnOk Try.prog 63 [slT api_Mark.c t] (aB r) := by
 unfold fiduciallaw26_short_1 at hr
 refine FnOk.bd G Try.func63 [.tmp 2] ?_
 unfold Try.f63
 simp only [Option.getD_some]
 refine .seq (.r4 G [0] [] (.seq (.ru G (.ret ?_))))
 obtain rfl := oi hr
 exact FinQ.r1 [aB (decide ((t.length : Int) > 20))]

theorem slices_IndexFunc_fiducial_api_Mark_fiducial_api_Mark_of_fiduciallaw26_short_1_ok (n : Nat) (s : List (List api_Mark)) (r : Int) (hr : slices_IndexFunc_fiducial_api_Mark_fiducial_api_Mark_of_fiduciallaw26_short_1 n s = some r) : FnOk Try.prog 95 [slT (slC api_Mark.c) s, .fn 63 [] []] (aI64 r) := by
 unfold slices_IndexFunc_fiducial_api_Mark_fiducial_api_Mark_of_fiduciallaw26_short_1 at hr
 refine FnOk.bd G Try.func95 [.tmp 4] ?_
 unfold Try.f95
 simp only [Option.getD_some]
 refine .seq (.r4 G [0, 1] [] (.seq (.seq (.r4 G [0, 1] [(7, aI64 (s.length : Int)), (8, aI64 0)] (.block ?_)))))
 replace hr := bd hr; obtain ⟨o13, hL14, hr⟩ := hr
 refine .loopO (σ := fun z0 => match z0 with | x_1 => ⟨mkS 19 0 [(0, slT (slC api_Mark.c) s), (1, .fn 63 [] []), (7, aI64 (s.length : Int)), (8, aI64 x_1)], []⟩) (Q := fun x st' => match (generalizing := false) o13 with | .inl _ => x = .exit 0 ∧ Wk 0 st' ⟨mkS 19 0 [], []⟩ | .inr (r0) => x = .ret ∧ FinQ Try.prog [.tmp 4] (aI64 r0) .ret st') hL14 ((Wk.gc [0, 1, 7, 8] [] rfl pK0).to) ?_ ?_
 ·clear hr
  rintro m x_1 hr
  show CQ _ _ _ _ _ ⟨_, _⟩
  refine .seq (.r4 G [0, 1, 7, 8] [(9, aB (decide (x_1 < (s.length : Int))))] (.seq ?_))
  refine .cd hr (fun hb8 hr => ?_) (fun hb8 hr => ?_)
  ·refine .skip (.seq (.block (.seq (.r4 G [0, 1, 7, 8] [(5, aI64 x_1)] (.seq ?_)))))
   obtain ⟨hg9, hr⟩ := gd hr
   obtain ⟨v10, hc11, hr⟩ := bd hr
   refine .g1 G (ok0 (fiduciallaw26_short_1_ok n (gt s x_1) v10 hc11)) (.mu 3 (.p0 (v := .pp (s.flatMap (slC api_Mark.c)) (x_1.toNat * 1)) (tr (ofP_guard hg9)) (.p0 (v := slT api_Mark.c (gt s x_1)) (tr (ofP_some (flat_get (slC_len api_Mark.c) (inR_lt hg9) (by decide : 0 < 1) (by omega : x_1.toNat * 1 = x_1.toNat * 1 + 0) (by kernel_rfl)))) (.ca cf0 (.done (.nh [0, 1, 5, 7, 8, 16] [] ?_))))))
   refine .cd hr (fun hb12 hr => ?_) (fun hb12 hr => ?_)
   ·refine .seq (.ru G (.ret ?_))
    obtain rfl := oi hr
    exact ⟨rfl, FinQ.ret (vs := [aI64 x_1]) (by kernel_rfl) (Sn.pure rfl)⟩
   ·refine .skip (.pop (.ru G ?_))
    exact loopF_back (wrapF .i64 (x_1 + 1)) hr ((Wk.gc [0, 1, 7, 8] [] rfl pK0).to)
  ·refine .leave rfl ?_
   obtain rfl := oi hr
   exact ⟨rfl, ((Wk.gc [] [] rfl pK0).to)⟩
 ·rcases o13 with ⟨⟩ | r0
  ·rintro x st' hq15
   clear hL14
   obtain ⟨rfl, hq15⟩ := hq15
   refine CQ_exit _ rfl (.wk hq15 (.seq (.ru G (.ret ?_))))
   obtain rfl := oi hr
   exact FinQ.r1 [aI64 (-1)]
  ·rintro x st' hq15
   clear hL14
   obtain ⟨rfl, hq15⟩ := hq15
   obtain rfl := oi hr
   exact CQ_ret _ hq15

theorem slices_ContainsFunc_fiducial_api_Mark_fiducial_api_Mark_of_fiduciallaw26_short_1_ok (n : Nat) (s : List (List api_Mark)) (r : Bool) (hr : slices_ContainsFunc_fiducial_api_Mark_fiducial_api_Mark_of_fiduciallaw26_short_1 n s = some r) : FnOk Try.prog 62 [slT (slC api_Mark.c) s, .fn 63 [] []] (aB r) := by
 unfold slices_ContainsFunc_fiducial_api_Mark_fiducial_api_Mark_of_fiduciallaw26_short_1 at hr
 refine FnOk.bd G Try.func62 [.tmp 4] ?_
 unfold Try.f62
 simp only [Option.getD_some]
 refine .seq (.r4 G [0, 1] [] (.seq ?_))
 obtain ⟨v1, hc2, hr⟩ := bd hr
 refine .g1 G (ok0 (slices_IndexFunc_fiducial_api_Mark_fiducial_api_Mark_of_fiduciallaw26_short_1_ok n s v1 hc2)) (.mu 2 (.ca cf0 (.mu 2 (.done (.ret ?_)))))
 obtain rfl := oi hr
 exact FinQ.r1 [aB (decide (v1 ≥ 0))]

theorem fiduciallaw26_short_ok (n : Nat) (l : List (List api_Mark)) (r : Bool) (hr : fiduciallaw26_short n l = some r) : FnOk Try.prog 32 [slT (slC api_Mark.c) l] (aB r) := by
 unfold fiduciallaw26_short at hr
 refine FnOk.bd G Try.func32 [.tmp 2] ?_
 unfold Try.f32
 simp only [Option.getD_some]
 refine .seq (.r4 G [0] [] (.seq ?_))
 rcases Bool.eq_false_or_eq_true (decide ((l.length : Int) ≤ 20)) with hb1 | hb1
 ·replace hr := cd_t hb1 hr
  obtain ⟨v2, hc3, hr⟩ := bd hr
  refine .g1 G (ok0 (slices_ContainsFunc_fiducial_api_Mark_fiducial_api_Mark_of_fiduciallaw26_short_1_ok n l v2 hc3)) (.mu 2 (.p0 (v := aB true) (eB hb1) (.mu 12 (.ca cf0 (.mu 3 (.done (.ret ?_)))))))
  obtain rfl := oi hr
  exact FinQ.r1 [aB (!v2)]
 ·replace hr := cd_f hb1 hr
  rcases Bool.eq_false_or_eq_true (decide ((l.length : Int) > 256)) with hb4 | hb4
  ·replace hr := cd_t hb4 hr
   rcases Bool.eq_false_or_eq_true (decide ((l.length : Int) ≤ 300)) with hb5 | hb5
   ·replace hr := cd_t hb5 hr
    obtain ⟨v6, hc7, hr⟩ := bd hr
    refine .g1 G (ok0 (slices_ContainsFunc_fiducial_api_Mark_fiducial_api_Mark_of_fiduciallaw26_short_1_ok n l v6 hc7)) (.mu 2 (.p0 (v := aB false) (eB hb1) (.mu 3 (.pure (v := aB true) (by kernel_rfl) (eB hb4) (.mu 3 (.pure (v := aB true) (by kernel_rfl) (eB hb5) (.mu 4 (.ca cf0 (.mu 3 (.done (.ret ?_)))))))))))
    obtain rfl := oi hr
    exact FinQ.r1 [aB (!v6)]
   ·replace hr := cd_f hb5 hr
    refine .r0 G (.mu 2 (.p0 (v := aB false) (eB hb1) (.mu 3 (.pure (v := aB true) (by kernel_rfl) (eB hb4) (.mu 3 (.pure (v := aB false) (by kernel_rfl) (eB hb5) (.mu 8 (.done (.ret ?_)))))))))
    obtain rfl := oi hr
    exact FinQ.r1 [aB false]
  ·replace hr := cd_f hb4 hr
   refine .r0 G (.mu 2 (.p0 (v := aB false) (eB hb1) (.mu 3 (.pure (v := aB false) (by kernel_rfl) (eB hb4) (.mu 12 (.done (.ret ?_)))))))
   obtain rfl := oi hr
   exact FinQ.r1 [aB false]

theorem fiduciallaw26_images_inj {l : List api_Mark} {l_ : List api_Mark} (h : ([slT api_Mark.c l] : List AV) = [slT api_Mark.c l_]) : l = l_ := by
 simp only [List.cons.injEq, AV.agg.injEq, AV.at.injEq, Value.int.injEq, Value.bool.injEq, AV.fn.injEq, AV.pp.injEq, true_and, and_true, (slT_inj api_Mark.len (by decide) api_Mark.inj)] at h
 simp_all
theorem fiduciallaw26_images_cg (n : Nat) {l : List api_Mark} {l_ : List api_Mark} (h : ([slT api_Mark.c l] : List AV) = [slT api_Mark.c l_]) : fiduciallaw26_images n l = fiduciallaw26_images n l_ := by
 obtain rfl := fiduciallaw26_images_inj h
 rfl
theorem fiduciallaw26_images_ok (n : Nat) (l : List api_Mark) (r : List Int) (hr : fiduciallaw26_images n l = some r) : FnOk Try.prog 34 [slT api_Mark.c l] (sI64 r) := by
 unfold fiduciallaw26_images at hr
 refine FnOk.bd G Try.func34 [.tmp 2] ?_
 unfold Try.f34
 simp only [Option.getD_some]
 refine .seq (.r4 G [0] [] (.seq (.r4 G [0] [(3, nS)] (.seq (.seq (.r4 G [3] [(6, slT api_Mark.c l), (7, aI64 (l.length : Int)), (8, aI64 0)] (.block ?_)))))))
 replace hr := bd hr; obtain ⟨out_8, hL16, hr⟩ := hr
 refine .loopO (σ := fun z0 => match z0 with | (out_1, x_2) => ⟨mkS 19 0 [(3, .hs 0 0 out_1.length 1), (6, slT api_Mark.c l), (7, aI64 (l.length : Int)), (8, aI64 x_2)], [.own (out_1.flatMap (iC .i64))]⟩) (Q := fun x st' => x = .exit 0 ∧ Wk 0 st' ⟨mkS 19 0 [(3, .hs 0 0 out_8.length 1)], [.own (out_8.flatMap (iC .i64))]⟩) hL16 ((Wk.nil 3 1 (by kernel_rfl)).trans ((Wk.gc [3, 6, 7, 8] [(0, false)] rfl (pKc trivial)).to)) ?_ ?_
 ·clear hr
  rintro m ⟨out_1, x_2⟩ hr
  show CQ _ _ _ _ _ ⟨_, _⟩
  refine .seq (.r4 G [3, 6, 7, 8] [(9, aB (decide (x_2 < (l.length : Int))))] (.seq ?_))
  refine .cd hr (fun hb11 hr => ?_) (fun hb11 hr => ?_)
  ·refine .skip (.seq (.block (.seq ?_)))
   obtain ⟨hg12, hr⟩ := gd hr
   refine .r0 G (.p0 (v := .pp (l.flatMap api_Mark.c) (x_2.toNat * 2)) (tr (ofP_guard hg12)) (.p0 (v := .agg (api_Mark.c (gt l x_2))) (Eq.trans (b := ORes.ofP (guardV (decide (2 ≤ ((l.flatMap api_Mark.c).drop (x_2.toNat * 2)).length)) (.agg (((l.flatMap api_Mark.c).drop (x_2.toNat * 2)).take 2)))) (by kernel_rfl) (flat_load api_Mark.len (inR_lt hg12) (by decide) (by omega : x_2.toNat * 2 = x_2.toNat * 2 + 0) (by kernel_rfl))) (.mu 2 (.done (.nh [3, 5, 6, 7, 8] [.own (out_1.flatMap (iC .i64)), .own (api_Mark.c (gt l x_2))] ?_)))))
   obtain ⟨hg13, hg14, hr⟩ := gd2 hr
   refine .r0 G (.mu 4 (.e0 (v := .hs 3 0 (out_1 ++ [(gt l x_2).Image]).length 1) (ws := [(0, .dead), (3, .own ((out_1 ++ [(gt l x_2).Image]).flatMap (iC .i64)))]) (tr (app_own (new := [aI64 (gt l x_2).Image]) (l := out_1) (xs := [(gt l x_2).Image]) (iC_len .i64) rfl rfl (by kernel_rfl) hg13 hg14)) (.mu 1 (.done (.pop (.ru G ?_))))))
   exact loopF_back (out_1 ++ [(gt l x_2).Image], wrapF .i64 (x_2 + 1)) hr ((Wk.gc [3, 6, 7, 8] [(3, false)] rfl (pKo (iC .i64) (iC_pure _) (out_1 ++ [(gt l x_2).Image]) trivial)).to)
  ·refine .leave rfl ?_
   obtain rfl := oi hr
   exact ⟨rfl, ((Wk.gc [3] [(0, false)] rfl (pKo (iC .i64) (iC_pure _) out_1 trivial)).to)⟩
 ·rintro x st' hq17
  clear hL16
  obtain ⟨rfl, hq17⟩ := hq17
  refine CQ_exit _ rfl (.wk hq17 (.seq (.r3 G 19 [(2, .hs 0 0 out_8.length 1)] (.ret ?_))))
  obtain rfl := oi hr
  exact FinQ.ret (vs := [.hs 0 0 out_8.length 1]) (by kernel_rfl) (Sn.hs rfl (.inl rfl) (SnC.pure (ids_flat (iC_pure _) _)) (fun h => flat_nil0 h))

theorem slices_Index_int_int_ok (n : Nat) (s : List Int) (v : Int) (r : Int) (hr : slices_Index_int_int n s v = some r) : FnOk Try.prog 64 [sI64 s, aI64 v] (aI64 r) := by
 unfold slices_Index_int_int at hr
 refine FnOk.bd G Try.func64 [.tmp 4] ?_
 unfold Try.f64
 simp only [Option.getD_some]
 refine .seq (.r4 G [0, 1] [] (.seq (.seq (.r4 G [0, 1] [(7, aI64 (s.length : Int)), (8, aI64 0)] (.block ?_)))))
 replace hr := bd hr; obtain ⟨o9, hL10, hr⟩ := hr
 refine .loopO (σ := fun z0 => match z0 with | x_1 => ⟨mkS 19 0 [(0, sI64 s), (1, aI64 v), (7, aI64 (s.length : Int)), (8, aI64 x_1)], []⟩) (Q := fun x st' => match (generalizing := false) o9 with | .inl _ => x = .exit 0 ∧ Wk 0 st' ⟨mkS 19 0 [], []⟩ | .inr (r0) => x = .ret ∧ FinQ Try.prog [.tmp 4] (aI64 r0) .ret st') hL10 ((Wk.gc [0, 1, 7, 8] [] rfl pK0).to) ?_ ?_
 ·clear hr
  rintro m x_1 hr
  show CQ _ _ _ _ _ ⟨_, _⟩
  refine .seq (.r4 G [0, 1, 7, 8] [(9, aB (decide (x_1 < (s.length : Int))))] (.seq ?_))
  refine .cd hr (fun hb6 hr => ?_) (fun hb6 hr => ?_)
  ·refine .skip (.seq (.block (.seq (.r4 G [0, 1, 7, 8] [(5, aI64 x_1)] (.seq ?_)))))
   obtain ⟨hg7, hr⟩ := gd hr
   refine .r0 G (.mu 3 (.p0 (v := .pp (s.flatMap (iC .i64)) (x_1.toNat * 1)) (tr (ofP_guard hg7)) (.p0 (v := aI64 (gt s x_1)) (tr (ofP_some (flat_get (iC_len .i64) (inR_lt hg7) (by decide : 0 < 1) (by omega : x_1.toNat * 1 = x_1.toNat * 1 + 0) (by kernel_rfl)))) (.mu 1 (.done (.nh [0, 1, 5, 7, 8, 16] [] ?_))))))
   refine .cd hr (fun hb8 hr => ?_) (fun hb8 hr => ?_)
   ·refine .seq (.ru G (.ret ?_))
    obtain rfl := oi hr
    exact ⟨rfl, FinQ.ret (vs := [aI64 x_1]) (by kernel_rfl) (Sn.pure rfl)⟩
   ·refine .skip (.pop (.ru G ?_))
    exact loopF_back (wrapF .i64 (x_1 + 1)) hr ((Wk.gc [0, 1, 7, 8] [] rfl pK0).to)
  ·refine .leave rfl ?_
   obtain rfl := oi hr
   exact ⟨rfl, ((Wk.gc [] [] rfl pK0).to)⟩
 ·rcases o9 with ⟨⟩ | r0
  ·rintro x st' hq11
   clear hL10
   obtain ⟨rfl, hq11⟩ := hq11
   refine CQ_exit _ rfl (.wk hq11 (.seq (.ru G (.ret ?_))))
   obtain rfl := oi hr
   exact FinQ.r1 [aI64 (-1)]
  ·rintro x st' hq11
   clear hL10
   obtain ⟨rfl, hq11⟩ := hq11
   obtain rfl := oi hr
   exact CQ_ret _ hq11

theorem slices_Contains_int_int_inj {s : List Int} {v : Int} {s_ : List Int} {v_ : Int} (h : ([slT (iC .i64) s, .at (.int .i64 v)] : List AV) = [slT (iC .i64) s_, .at (.int .i64 v_)]) : s = s_ ∧ v = v_ := by
 simp only [List.cons.injEq, AV.agg.injEq, AV.at.injEq, Value.int.injEq, Value.bool.injEq, AV.fn.injEq, AV.pp.injEq, true_and, and_true, slT_inj_int] at h
 simp_all
theorem slices_Contains_int_int_cg (n : Nat) {s : List Int} {v : Int} {s_ : List Int} {v_ : Int} (h : ([slT (iC .i64) s, .at (.int .i64 v)] : List AV) = [slT (iC .i64) s_, .at (.int .i64 v_)]) : slices_Contains_int_int n s v = slices_Contains_int_int n s_ v_ := by
 obtain ⟨rfl, rfl⟩ := slices_Contains_int_int_inj h
 rfl
theorem slices_Contains_int_int_ok (n : Nat) (s : List Int) (v : Int) (r : Bool) (hr : slices_Contains_int_int n s v = some r) : FnOk Try.prog 33 [sI64 s, aI64 v] (aB r) := by
 unfold slices_Contains_int_int at hr
 refine FnOk.bd G Try.func33 [.tmp 4] ?_
 unfold Try.f33
 simp only [Option.getD_some]
 refine .seq (.r4 G [0, 1] [] (.seq ?_))
 obtain ⟨v1, hc2, hr⟩ := bd hr
 refine .g1 G (ok0 (slices_Index_int_int_ok n s v v1 hc2)) (.mu 2 (.ca cf0 (.mu 2 (.done (.ret ?_)))))
 obtain rfl := oi hr
 exact FinQ.r1 [aB (decide (v1 ≥ 0))]

theorem track_sees_1_ok (n : Nat) (m' : api_Mark) (p : Int) (r : Bool) (hr : track_sees_1 n m' p = some r) : FnOk Try.prog 96 [.agg (api_Mark.c m'), .pp [aI64 p] 0] (aB r) := by
 unfold track_sees_1 at hr
 refine FnOk.bd G Try.func96 [.tmp 3] ?_
 unfold Try.f96
 simp only [Option.getD_some]
 refine .seq (.r5 G [1] [(2, .hp 0 0)] [.own (api_Mark.c m')] (.seq (.ru G (.ret ?_))))
 obtain rfl := oi hr
 exact FinQ.r1 [aB ((m'.Image : Int) == p)]

theorem slices_IndexFunc_fiducial_api_Mark_fiducial_api_Mark_of_track_sees_1_ok (n : Nat) (s : List api_Mark) (c : Int) (r : Int) (hr : slices_IndexFunc_fiducial_api_Mark_fiducial_api_Mark_of_track_sees_1 n s c = some r) : FnOk Try.prog 55 [slT api_Mark.c s, .fn 96 [] [.pp [aI64 c] 0]] (aI64 r) := by
 unfold slices_IndexFunc_fiducial_api_Mark_fiducial_api_Mark_of_track_sees_1 at hr
 refine FnOk.bd G Try.func55 [.tmp 4] ?_
 unfold Try.f55
 simp only [Option.getD_some]
 refine .seq (.r4 G [0, 1] [] (.seq (.seq (.r4 G [0, 1] [(7, aI64 (s.length : Int)), (8, aI64 0)] (.block ?_)))))
 replace hr := bd hr; obtain ⟨o13, hL14, hr⟩ := hr
 refine .loopO (σ := fun z0 => match z0 with | x_1 => ⟨mkS 19 0 [(0, slT api_Mark.c s), (1, .fn 96 [] [.pp [aI64 c] 0]), (7, aI64 (s.length : Int)), (8, aI64 x_1)], []⟩) (Q := fun x st' => match (generalizing := false) o13 with | .inl _ => x = .exit 0 ∧ Wk 0 st' ⟨mkS 19 0 [], []⟩ | .inr (r0) => x = .ret ∧ FinQ Try.prog [.tmp 4] (aI64 r0) .ret st') hL14 ((Wk.gc [0, 1, 7, 8] [] rfl pK0).to) ?_ ?_
 ·clear hr
  rintro m x_1 hr
  show CQ _ _ _ _ _ ⟨_, _⟩
  refine .seq (.r4 G [0, 1, 7, 8] [(9, aB (decide (x_1 < (s.length : Int))))] (.seq ?_))
  refine .cd hr (fun hb8 hr => ?_) (fun hb8 hr => ?_)
  ·refine .skip (.seq (.block (.seq (.r4 G [0, 1, 7, 8] [(5, aI64 x_1)] (.seq ?_)))))
   obtain ⟨hg9, hr⟩ := gd hr
   obtain ⟨v10, hc11, hr⟩ := bd hr
   refine .g1 G (ok0 (track_sees_1_ok n (gt s x_1) c v10 hc11)) (.mu 3 (.p0 (v := .pp (s.flatMap api_Mark.c) (x_1.toNat * 2)) (tr (ofP_guard hg9)) (.p0 (v := .agg (api_Mark.c (gt s x_1))) (Eq.trans (b := ORes.ofP (guardV (decide (2 ≤ ((s.flatMap api_Mark.c).drop (x_1.toNat * 2)).length)) (.agg (((s.flatMap api_Mark.c).drop (x_1.toNat * 2)).take 2)))) (by kernel_rfl) (flat_load api_Mark.len (inR_lt hg9) (by decide) (by omega : x_1.toNat * 2 = x_1.toNat * 2 + 0) (by kernel_rfl))) (.ca cf0 (.done (.nh [0, 1, 5, 7, 8, 16] [] ?_))))))
   refine .cd hr (fun hb12 hr => ?_) (fun hb12 hr => ?_)
   ·refine .seq (.ru G (.ret ?_))
    obtain rfl := oi hr
    exact ⟨rfl, FinQ.ret (vs := [aI64 x_1]) (by kernel_rfl) (Sn.pure rfl)⟩
   ·refine .skip (.pop (.ru G ?_))
    exact loopF_back (wrapF .i64 (x_1 + 1)) hr ((Wk.gc [0, 1, 7, 8] [] rfl pK0).to)
  ·refine .leave rfl ?_
   obtain rfl := oi hr
   exact ⟨rfl, ((Wk.gc [] [] rfl pK0).to)⟩
 ·rcases o13 with ⟨⟩ | r0
  ·rintro x st' hq15
   clear hL14
   obtain ⟨rfl, hq15⟩ := hq15
   refine CQ_exit _ rfl (.wk hq15 (.seq (.ru G (.ret ?_))))
   obtain rfl := oi hr
   exact FinQ.r1 [aI64 (-1)]
  ·rintro x st' hq15
   clear hL14
   obtain ⟨rfl, hq15⟩ := hq15
   obtain rfl := oi hr
   exact CQ_ret _ hq15

theorem slices_ContainsFunc_fiducial_api_Mark_fiducial_api_Mark_of_track_sees_1_ok (n : Nat) (s : List api_Mark) (c : Int) (r : Bool) (hr : slices_ContainsFunc_fiducial_api_Mark_fiducial_api_Mark_of_track_sees_1 n s c = some r) : FnOk Try.prog 24 [slT api_Mark.c s, .fn 96 [] [.pp [aI64 c] 0]] (aB r) := by
 unfold slices_ContainsFunc_fiducial_api_Mark_fiducial_api_Mark_of_track_sees_1 at hr
 refine FnOk.bd G Try.func24 [.tmp 4] ?_
 unfold Try.f24
 simp only [Option.getD_some]
 refine .seq (.r4 G [0, 1] [] (.seq ?_))
 obtain ⟨v1, hc2, hr⟩ := bd hr
 refine .g1 G (callOk_val (args := [slT api_Mark.c s, .fn 96 [] [.pp [aI64 c] 0]]) (l := []) rfl (SnL.cons (Sn.pure rfl) (SnL.cons (Sn.fn SnL.nil (SnL.cons (Sn.pure rfl) SnL.nil)) SnL.nil)) (slices_IndexFunc_fiducial_api_Mark_fiducial_api_Mark_of_track_sees_1_ok n s c v1 hc2)) (.mu 2 (.ca cf0 (.mu 2 (.done (.ret ?_)))))
 obtain rfl := oi hr
 exact FinQ.r1 [aB (decide (v1 ≥ 0))]

theorem track_sees_inj {t : List api_Mark} {image : Int} {t_ : List api_Mark} {image_ : Int} (h : ([slT api_Mark.c t, .at (.int .i64 image)] : List AV) = [slT api_Mark.c t_, .at (.int .i64 image_)]) : t = t_ ∧ image = image_ := by
 simp only [List.cons.injEq, AV.agg.injEq, AV.at.injEq, Value.int.injEq, Value.bool.injEq, AV.fn.injEq, AV.pp.injEq, true_and, and_true, (slT_inj api_Mark.len (by decide) api_Mark.inj)] at h
 simp_all
theorem track_sees_cg (n : Nat) {t : List api_Mark} {image : Int} {t_ : List api_Mark} {image_ : Int} (h : ([slT api_Mark.c t, .at (.int .i64 image)] : List AV) = [slT api_Mark.c t_, .at (.int .i64 image_)]) : track_sees n t image = track_sees n t_ image_ := by
 obtain ⟨rfl, rfl⟩ := track_sees_inj h
 rfl
theorem track_sees_ok (n : Nat) (t : List api_Mark) (image : Int) (r : Bool) (hr : track_sees n t image = some r) : FnOk Try.prog 65 [slT api_Mark.c t, aI64 image] (aB r) := by
 unfold track_sees at hr
 refine FnOk.bd G Try.func65 [.tmp 4] ?_
 unfold Try.f65
 simp only [Option.getD_some]
 refine .seq (.r5 G [0] [(3, .hp 0 0)] [.own [aI64 image]] (.seq ?_))
 obtain ⟨v1, hc2, hr⟩ := bd hr
 refine .g1 G (callOk_val (args := [slT api_Mark.c t, .fn 96 [] [.hp 0 0]]) (l := [0]) rfl (SnL.cons (Sn.pure rfl) (SnL.cons (Sn.fn SnL.nil (SnL.cons (Sn.hp rfl (.inl rfl) (SnC.cons (Sn.pure rfl) SnC.nil)) SnL.nil)) SnL.nil)) (slices_ContainsFunc_fiducial_api_Mark_fiducial_api_Mark_of_track_sees_1_ok n t image v1 hc2)) (.mu 2 (.ca cf0 (.mu 1 (.done (.ret ?_)))))
 obtain rfl := oi hr
 exact FinQ.r1 [aB v1]

theorem track_Common_ok (n : Nat) (tracks : List (List api_Mark)) (a : Int) (b : Int) (r : List Int) (hr : track_Common n tracks a b = some r) : FnOk Try.prog 36 [slT (slC api_Mark.c) tracks, aI64 a, aI64 b] (sI64 r) := by
 unfold track_Common at hr
 refine FnOk.bd G Try.func36 [.tmp 6] ?_
 unfold Try.f36
 simp only [Option.getD_some]
 refine .seq (.r4 G [0, 1, 2] [] (.seq (.r4 G [0, 1, 2] [(7, nS)] (.seq (.seq (.r4 G [1, 2, 7] [(10, slT (slC api_Mark.c) tracks), (11, aI64 (tracks.length : Int)), (12, aI64 0)] (.block ?_)))))))
 replace hr := bd hr; obtain ⟨out_14, hL28, hr⟩ := hr
 refine .loopO (σ := fun z0 => match z0 with | (out_1, x_2) => ⟨mkS 31 0 [(1, aI64 a), (2, aI64 b), (7, .hs 0 0 out_1.length 1), (10, slT (slC api_Mark.c) tracks), (11, aI64 (tracks.length : Int)), (12, aI64 x_2)], [.own (out_1.flatMap (iC .i64))]⟩) (Q := fun x st' => x = .exit 0 ∧ Wk 0 st' ⟨mkS 31 0 [(7, .hs 0 0 out_14.length 1)], [.own (out_14.flatMap (iC .i64))]⟩) hL28 ((Wk.nil 7 1 (by kernel_rfl)).trans ((Wk.gc [1, 2, 7, 10, 11, 12] [(0, false)] rfl (pKc trivial)).to)) ?_ ?_
 ·clear hr
  rintro m ⟨out_1, x_2⟩ hr
  show CQ _ _ _ _ _ ⟨_, _⟩
  refine .seq (.r4 G [1, 2, 7, 10, 11, 12] [(13, aB (decide (x_2 < (tracks.length : Int))))] (.seq ?_))
  refine .cd hr (fun hb17 hr => ?_) (fun hb17 hr => ?_)
  ·refine .skip (.seq (.block (.seq ?_)))
   obtain ⟨hg18, hr⟩ := gd hr
   refine .r0 G (.mu 1 (.p0 (v := .pp (tracks.flatMap (slC api_Mark.c)) (x_2.toNat * 1)) (tr (ofP_guard hg18)) (.p0 (v := slT api_Mark.c (gt tracks x_2)) (tr (ofP_some (flat_get (slC_len api_Mark.c) (inR_lt hg18) (by decide : 0 < 1) (by omega : x_2.toNat * 1 = x_2.toNat * 1 + 0) (by kernel_rfl)))) (.mu 2 (.done (.nh [1, 2, 7, 8, 9, 10, 11, 12] [.own (out_1.flatMap (iC .i64))] (.seq ?_)))))))
   obtain ⟨v19, hc20, hr⟩ := bd hr
   rcases Bool.eq_false_or_eq_true v19 with hb21 | hb21
   ·subst hb21
    replace hr := cd_t rfl hr
    obtain ⟨v22, hc23, hr⟩ := bd hr
    refine .gn G (ca1 (ok0 (track_sees_ok n (gt tracks x_2) a true hc20)) (ca3 (ok0 (track_sees_ok n (gt tracks x_2) b v22 hc23)))) (.mu 2 (.ca cf0 (.mu 3 (.ca (cfA (fun h => by rw [sv hc23 hc20 (track_sees_cg n h)]) cf0) (.mu 1 (.done (.nh [1, 2, 7, 8, 10, 11, 12, 24] [.own (out_1.flatMap (iC .i64))] ?_)))))))
    refine .cd hr (fun hb24 hr => ?_) (fun hb24 hr => ?_)
    ·obtain ⟨hg25, hg26, hr⟩ := gd2 hr
     refine .r0 G (.mu 3 (.e0 (v := .hs 2 0 (out_1 ++ [x_2]).length 1) (ws := [(0, .dead), (2, .own ((out_1 ++ [x_2]).flatMap (iC .i64)))]) (tr (app_own (new := [aI64 x_2]) (l := out_1) (xs := [x_2]) (iC_len .i64) rfl rfl (by kernel_rfl) hg25 hg26)) (.mu 1 (.done (.pop (.ru G ?_))))))
     exact loopF_back (out_1 ++ [x_2], wrapF .i64 (x_2 + 1)) hr ((Wk.gc [1, 2, 7, 10, 11, 12] [(2, false)] rfl (pKo (iC .i64) (iC_pure _) (out_1 ++ [x_2]) trivial)).to)
    ·refine .skip (.pop (.ru G ?_))
     exact loopF_back (out_1, wrapF .i64 (x_2 + 1)) hr ((Wk.gc [1, 2, 7, 10, 11, 12] [(0, false)] rfl (pKo (iC .i64) (iC_pure _) out_1 trivial)).to)
   ·subst hb21
    replace hr := cd_f rfl hr
    refine .g1 G (ok0 (track_sees_ok n (gt tracks x_2) a false hc20)) (.mu 2 (.ca cf0 (.mu 5 (.done (.nh [1, 2, 7, 8, 10, 11, 12, 24] [.own (out_1.flatMap (iC .i64))] (.cF (by kernel_rfl) (.skip (.pop (.ru G ?_)))))))))
    exact loopF_back (out_1, wrapF .i64 (x_2 + 1)) hr ((Wk.gc [1, 2, 7, 10, 11, 12] [(0, false)] rfl (pKo (iC .i64) (iC_pure _) out_1 trivial)).to)
  ·refine .leave rfl ?_
   obtain rfl := oi hr
   exact ⟨rfl, ((Wk.gc [7] [(0, false)] rfl (pKo (iC .i64) (iC_pure _) out_1 trivial)).to)⟩
 ·rintro x st' hq29
  clear hL28
  obtain ⟨rfl, hq29⟩ := hq29
  refine CQ_exit _ rfl (.wk hq29 (.seq (.r3 G 31 [(6, .hs 0 0 out_14.length 1)] (.ret ?_))))
  obtain rfl := oi hr
  exact FinQ.ret (vs := [.hs 0 0 out_14.length 1]) (by kernel_rfl) (Sn.hs rfl (.inl rfl) (SnC.pure (ids_flat (iC_pure _) _)) (fun h => flat_nil0 h))

theorem slices_Equal_int_int_ok (n : Nat) (s1 : List Int) (s2 : List Int) (r : Bool) (hr : slices_Equal_int_int n s1 s2 = some r) : FnOk Try.prog 35 [sI64 s1, sI64 s2] (aB r) := by
 unfold slices_Equal_int_int at hr
 refine FnOk.bd G Try.func35 [.tmp 4] ?_
 unfold Try.f35
 simp only [Option.getD_some]
 refine .seq (.r4 G [0, 1] [] (.seq (.seq (.r4 G [0, 1] [(10, aB (((s1.length : Int) : Int) != (s2.length : Int)))] ?_))))
 refine .cd hr (fun hb1 hr => ?_) (fun hb1 hr => ?_)
 ·refine .seq (.ru G (.ret ?_))
  obtain rfl := oi hr
  exact FinQ.r1 [aB false]
 ·refine .skip (.seq (.seq (.r4 G [0, 1] [(12, aI64 (s1.length : Int)), (13, aI64 0)] (.block ?_))))
  replace hr := bd hr; obtain ⟨o12, hL13, hr⟩ := hr
  refine .loopO (σ := fun z0 => match z0 with | x_2 => ⟨mkS 26 0 [(0, sI64 s1), (1, sI64 s2), (12, aI64 (s1.length : Int)), (13, aI64 x_2)], []⟩) (Q := fun x st' => match (generalizing := false) o12 with | .inl _ => x = .exit 0 ∧ Wk 0 st' ⟨mkS 26 0 [], []⟩ | .inr (r0) => x = .ret ∧ FinQ Try.prog [.tmp 4] (aB r0) .ret st') hL13 ((Wk.gc [0, 1, 12, 13] [] rfl pK0).to) ?_ ?_
  ·clear hr
   rintro m x_2 hr
   show CQ _ _ _ _ _ ⟨_, _⟩
   refine .seq (.r4 G [0, 1, 12, 13] [(14, aB (decide (x_2 < (s1.length : Int))))] (.seq ?_))
   refine .cd hr (fun hb8 hr => ?_) (fun hb8 hr => ?_)
   ·refine .skip (.seq (.block (.seq (.r4 G [0, 1, 12, 13] [(5, aI64 x_2)] (.seq ?_)))))
    obtain ⟨hg9, hg10, hr⟩ := gd2 hr
    refine .regionT G callOf_nil (.mu 2 (.pure (v := .pp (s1.flatMap (iC .i64)) (x_2.toNat * 1)) (by kernel_rfl) (tr (ofP_guard hg9)) (by kernel_rfl) (.pure (v := aI64 (gt s1 x_2)) (by kernel_rfl) (tr (ofP_some (flat_get (iC_len .i64) (inR_lt hg9) (by decide : 0 < 1) (by omega : x_2.toNat * 1 = x_2.toNat * 1 + 0) (by kernel_rfl)))) (by kernel_rfl) (.mu 2 (.pure (v := .pp (s2.flatMap (iC .i64)) (x_2.toNat * 1)) (by kernel_rfl) (tr (ofP_guard hg10)) (by kernel_rfl) (.pure (v := aI64 (gt s2 x_2)) (by kernel_rfl) (tr (ofP_some (flat_get (iC_len .i64) (inR_lt hg10) (by decide : 0 < 1) (by omega : x_2.toNat * 1 = x_2.toNat * 1 + 0) (by kernel_rfl)))) (by kernel_rfl) (.mu 1 ?_)))))))
    refine .done ⟨by kernel_rfl, ?_⟩
    refine .nh [0, 1, 12, 13, 24] [] ?_
    refine .cd hr (fun hb11 hr => ?_) (fun hb11 hr => ?_)
    ·refine .seq (.ru G (.ret ?_))
     obtain rfl := oi hr
     exact ⟨rfl, FinQ.ret (vs := [aB false]) (by kernel_rfl) (Sn.pure rfl)⟩
    ·refine .skip (.pop (.ru G ?_))
     exact loopF_back (wrapF .i64 (x_2 + 1)) hr ((Wk.gc [0, 1, 12, 13] [] rfl pK0).to)
   ·refine .leave rfl ?_
    obtain rfl := oi hr
    exact ⟨rfl, ((Wk.gc [] [] rfl pK0).to)⟩
  ·rcases o12 with ⟨⟩ | r0
   ·rintro x st' hq14
    clear hL13
    obtain ⟨rfl, hq14⟩ := hq14
    refine CQ_exit _ rfl (.wk hq14 (.seq (.ru G (.ret ?_))))
    obtain rfl := oi hr
    exact FinQ.r1 [aB true]
   ·rintro x st' hq14
    clear hL13
    obtain ⟨rfl, hq14⟩ := hq14
    obtain rfl := oi hr
    exact CQ_ret _ hq14

theorem slices_Clone_fiducial_api_Mark_fiducial_api_Mark_ok (n : Nat) (s : List api_Mark) (r : List api_Mark) (hr : slices_Clone_fiducial_api_Mark_fiducial_api_Mark n s = some r) : FnOk Try.prog 17 [slT api_Mark.c s] (slT api_Mark.c r) := by
 unfold slices_Clone_fiducial_api_Mark_fiducial_api_Mark at hr
 refine FnOk.bd G Try.func17 [.tmp 2] ?_
 unfold Try.f17
 simp only [Option.getD_some]
 refine .seq (.r4 G [0] [] (.seq (.seq ?_)))
 refine .nilcase (t := 0) (cs := s.flatMap api_Mark.c) (len := s.length) (by kernel_rfl) (fun hn3 => ?_) ?_
 ·obtain rfl : s = [] := List.length_eq_zero_iff.1 hn3
  have hx := gd hr; clear hr; obtain ⟨_, hr⟩ := hx
  have hx := gd hr; clear hr; obtain ⟨_, hr⟩ := hx
  refine .r4 G [0] [(4, aB true)] (.cT (by kernel_rfl) (.seq (.r3 G 8 [(2, nS)] (.ret ?_))))
  obtain rfl := oi hr
  exact FinQ.ret (vs := [nS]) (by kernel_rfl) Sn.nilsl
 ·refine .r4 G [0] [(4, aB false)] (.cF (by kernel_rfl) (.skip (.seq ?_)))
  obtain ⟨hg1, hg2, hr⟩ := gd2 hr
  refine .r0 G (.mu 2 (.e0 (v := .hs 1 0 s.length 2) (ws := [(0, .dead), (1, .own (s.flatMap api_Mark.c))]) (Eq.trans (b := appS (decide (((s.flatMap api_Mark.c)).length = s.length * 2)) (s.flatMap api_Mark.c) s.length (fun z1 z2 => guardO (decide (0 + 0 * 2 ≤ (([] : List api_Mark).flatMap api_Mark.c).length) && decide ((0 + z2) * 16 ≤ 140737488355328) && decide (0 + z2 ≤ 4611686018427387904)) (some (.eff (.hs 1 0 (0 + z2) 2) [(0, .dead), (1, .own (((([] : List api_Mark).flatMap api_Mark.c).drop 0).take (0 * 2) ++ z1))])))) (by kernel_rfl) (appS_t (flat_lenB api_Mark.len) rfl (app_own (l := ([] : List api_Mark)) (xs := s) api_Mark.len rfl rfl rfl hg1 hg2))) (.mu 1 (.done (.nh [2] [.dead, .own (s.flatMap api_Mark.c)] (.ret ?_))))))
  obtain rfl := oi hr
  exact FinQ.ret (vs := [.hs 1 0 s.length 2]) (by kernel_rfl) (Sn.hs rfl (.inl rfl) (SnC.pure (ids_flat api_Mark.pure _)) (fun h => flat_nil0 h))

theorem track_Prune_ok (n : Nat) (tracks : List (List api_Mark)) (least : Int) (r : List (List api_Mark)) (hr : track_Prune n tracks least = some r) : FnOk Try.prog 37 [slT (slC api_Mark.c) tracks, aI64 least] (slT (slC api_Mark.c) r) := by
 unfold track_Prune at hr
 refine FnOk.bd G Try.func37 [.tmp 4] ?_
 unfold Try.f37
 simp only [Option.getD_some]
 refine .seq (.r4 G [0, 1] [] (.seq (.r4 G [0, 1] [(5, nS)] (.seq (.seq (.r4 G [1, 5] [(8, slT (slC api_Mark.c) tracks), (9, aI64 (tracks.length : Int)), (10, aI64 0)] (.block ?_)))))))
 replace hr := bd hr; obtain ⟨out_11, hL22, hr⟩ := hr
 refine .loopO (σ := fun z0 => match z0 with | (out_1, x_2) => ⟨mkS 25 0 [(1, aI64 least), (5, .hs 0 0 out_1.length 1), (8, slT (slC api_Mark.c) tracks), (9, aI64 (tracks.length : Int)), (10, aI64 x_2)], [.own (out_1.flatMap (slC api_Mark.c))]⟩) (Q := fun x st' => x = .exit 0 ∧ Wk 0 st' ⟨mkS 25 0 [(5, .hs 0 0 out_11.length 1)], [.own (out_11.flatMap (slC api_Mark.c))]⟩) hL22 ((Wk.nil 5 1 (by kernel_rfl)).trans ((Wk.gc [1, 5, 8, 9, 10] [(0, false)] rfl (pKc trivial)).to)) ?_ ?_
 ·clear hr
  rintro m ⟨out_1, x_2⟩ hr
  show CQ _ _ _ _ _ ⟨_, _⟩
  refine .seq (.r4 G [1, 5, 8, 9, 10] [(11, aB (decide (x_2 < (tracks.length : Int))))] (.seq ?_))
  refine .cd hr (fun hb14 hr => ?_) (fun hb14 hr => ?_)
  ·refine .skip (.seq (.block (.seq ?_)))
   obtain ⟨hg15, hr⟩ := gd hr
   refine .r0 G (.p0 (v := .pp (tracks.flatMap (slC api_Mark.c)) (x_2.toNat * 1)) (tr (ofP_guard hg15)) (.p0 (v := slT api_Mark.c (gt tracks x_2)) (tr (ofP_some (flat_get (slC_len api_Mark.c) (inR_lt hg15) (by decide : 0 < 1) (by omega : x_2.toNat * 1 = x_2.toNat * 1 + 0) (by kernel_rfl)))) (.mu 1 (.done (.nh [1, 5, 7, 8, 9, 10] [.own (out_1.flatMap (slC api_Mark.c))] (.seq (.r4 G [1, 5, 7, 8, 9, 10] [(17, aB (decide (((gt tracks x_2).length : Int) ≥ least)))] ?_)))))))
   refine .cd hr (fun hb16 hr => ?_) (fun hb16 hr => ?_)
   ·obtain ⟨v17, hc18, hr⟩ := bd hr
    obtain ⟨hg19, hg20, hr⟩ := gd2 hr
    refine .g1 G (ok0 (slices_Clone_fiducial_api_Mark_fiducial_api_Mark_ok n (gt tracks x_2) v17 hc18)) (.mu 2 (.ca cf0 (.mu 1 (.e0 (v := .hs 2 0 (out_1 ++ [v17]).length 1) (ws := [(0, .dead), (2, .own ((out_1 ++ [v17]).flatMap (slC api_Mark.c)))]) (tr (app_own (new := [slT api_Mark.c v17]) (l := out_1) (xs := [v17]) (slC_len api_Mark.c) rfl rfl (by kernel_rfl) hg19 hg20)) (.mu 1 (.done (.pop (.ru G ?_))))))))
    exact loopF_back (out_1 ++ [v17], wrapF .i64 (x_2 + 1)) hr ((Wk.gc [1, 5, 8, 9, 10] [(2, false)] rfl (pKo (slC api_Mark.c) (slC_pure _) (out_1 ++ [v17]) trivial)).to)
   ·refine .skip (.pop (.ru G ?_))
    exact loopF_back (out_1, wrapF .i64 (x_2 + 1)) hr ((Wk.gc [1, 5, 8, 9, 10] [(0, false)] rfl (pKo (slC api_Mark.c) (slC_pure _) out_1 trivial)).to)
  ·refine .leave rfl ?_
   obtain rfl := oi hr
   exact ⟨rfl, ((Wk.gc [5] [(0, false)] rfl (pKo (slC api_Mark.c) (slC_pure _) out_1 trivial)).to)⟩
 ·rintro x st' hq23
  clear hL22
  obtain ⟨rfl, hq23⟩ := hq23
  refine CQ_exit _ rfl (.wk hq23 (.seq (.r3 G 25 [(4, .hs 0 0 out_11.length 1)] (.ret ?_))))
  obtain rfl := oi hr
  exact FinQ.ret (vs := [.hs 0 0 out_11.length 1]) (by kernel_rfl) (Sn.hs rfl (.inl rfl) (SnC.pure (ids_flat (slC_pure _) _)) (fun h => flat_nil0 h))

theorem slices_Equal_fiducial_api_Mark_fiducial_api_Mark_ok (n : Nat) (s1 : List api_Mark) (s2 : List api_Mark) (r : Bool) (hr : slices_Equal_fiducial_api_Mark_fiducial_api_Mark n s1 s2 = some r) : FnOk Try.prog 52 [slT api_Mark.c s1, slT api_Mark.c s2] (aB r) := by
 unfold slices_Equal_fiducial_api_Mark_fiducial_api_Mark at hr
 refine FnOk.bd G Try.func52 [.tmp 4] ?_
 unfold Try.f52
 simp only [Option.getD_some]
 refine .seq (.r4 G [0, 1] [] (.seq (.seq (.r4 G [0, 1] [(10, aB (((s1.length : Int) : Int) != (s2.length : Int)))] ?_))))
 refine .cd hr (fun hb1 hr => ?_) (fun hb1 hr => ?_)
 ·refine .seq (.ru G (.ret ?_))
  obtain rfl := oi hr
  exact FinQ.r1 [aB false]
 ·refine .skip (.seq (.seq (.r4 G [0, 1] [(12, aI64 (s1.length : Int)), (13, aI64 0)] (.block ?_))))
  replace hr := bd hr; obtain ⟨o12, hL13, hr⟩ := hr
  refine .loopO (σ := fun z0 => match z0 with | x_2 => ⟨mkS 26 0 [(0, slT api_Mark.c s1), (1, slT api_Mark.c s2), (12, aI64 (s1.length : Int)), (13, aI64 x_2)], []⟩) (Q := fun x st' => match (generalizing := false) o12 with | .inl _ => x = .exit 0 ∧ Wk 0 st' ⟨mkS 26 0 [], []⟩ | .inr (r0) => x = .ret ∧ FinQ Try.prog [.tmp 4] (aB r0) .ret st') hL13 ((Wk.gc [0, 1, 12, 13] [] rfl pK0).to) ?_ ?_
  ·clear hr
   rintro m x_2 hr
   show CQ _ _ _ _ _ ⟨_, _⟩
   refine .seq (.r4 G [0, 1, 12, 13] [(14, aB (decide (x_2 < (s1.length : Int))))] (.seq ?_))
   refine .cd hr (fun hb8 hr => ?_) (fun hb8 hr => ?_)
   ·refine .skip (.seq (.block (.seq (.r4 G [0, 1, 12, 13] [(5, aI64 x_2)] (.seq ?_)))))
    obtain ⟨hg9, hg10, hr⟩ := gd2 hr
    refine .regionT G callOf_nil (.mu 2 (.pure (v := .pp (s1.flatMap api_Mark.c) (x_2.toNat * 2)) (by kernel_rfl) (tr (ofP_guard hg9)) (by kernel_rfl) (.pure (v := .agg (api_Mark.c (gt s1 x_2))) (by kernel_rfl) (Eq.trans (b := ORes.ofP (guardV (decide (2 ≤ ((s1.flatMap api_Mark.c).drop (x_2.toNat * 2)).length)) (.agg (((s1.flatMap api_Mark.c).drop (x_2.toNat * 2)).take 2)))) (by kernel_rfl) (flat_load api_Mark.len (inR_lt hg9) (by decide) (by omega : x_2.toNat * 2 = x_2.toNat * 2 + 0) (by kernel_rfl))) (by kernel_rfl) (.mu 2 (.pure (v := .pp (s2.flatMap api_Mark.c) (x_2.toNat * 2)) (by kernel_rfl) (tr (ofP_guard hg10)) (by kernel_rfl) (.pure (v := .agg (api_Mark.c (gt s2 x_2))) (by kernel_rfl) (Eq.trans (b := ORes.ofP (guardV (decide (2 ≤ ((s2.flatMap api_Mark.c).drop (x_2.toNat * 2)).length)) (.agg (((s2.flatMap api_Mark.c).drop (x_2.toNat * 2)).take 2)))) (by kernel_rfl) (flat_load api_Mark.len (inR_lt hg10) (by decide) (by omega : x_2.toNat * 2 = x_2.toNat * 2 + 0) (by kernel_rfl))) (by kernel_rfl) (.mu 1 ?_)))))))
    refine .done ⟨by kernel_rfl, ?_⟩
    refine .nh [0, 1, 12, 13, 24] [] ?_
    refine .cd hr (fun hb11 hr => ?_) (fun hb11 hr => ?_)
    ·refine .seq (.ru G (.ret ?_))
     obtain rfl := oi hr
     exact ⟨rfl, FinQ.ret (vs := [aB false]) (by kernel_rfl) (Sn.pure rfl)⟩
    ·refine .skip (.pop (.ru G ?_))
     exact loopF_back (wrapF .i64 (x_2 + 1)) hr ((Wk.gc [0, 1, 12, 13] [] rfl pK0).to)
   ·refine .leave rfl ?_
    obtain rfl := oi hr
    exact ⟨rfl, ((Wk.gc [] [] rfl pK0).to)⟩
  ·rcases o12 with ⟨⟩ | r0
   ·rintro x st' hq14
    clear hL13
    obtain ⟨rfl, hq14⟩ := hq14
    refine CQ_exit _ rfl (.wk hq14 (.seq (.ru G (.ret ?_))))
    obtain rfl := oi hr
    exact FinQ.r1 [aB true]
   ·rintro x st' hq14
    clear hL13
    obtain ⟨rfl, hq14⟩ := hq14
    obtain rfl := oi hr
    exact CQ_ret _ hq14

theorem fiduciallaw26_Same_1_ok (n : Nat) (x' : List api_Mark) (y : List api_Mark) (r : Bool) (hr : fiduciallaw26_Same_1 n x' y = some r) : FnOk Try.prog 51 [slT api_Mark.c x', slT api_Mark.c y] (aB r) := by
 unfold fiduciallaw26_Same_1 at hr
 refine FnOk.bd G Try.func51 [.tmp 4] ?_
 unfold Try.f51
 simp only [Option.getD_some]
 refine .seq (.r4 G [0, 1] [] (.seq ?_))
 obtain ⟨v1, hc2, hr⟩ := bd hr
 refine .g1 G (ok0 (slices_Equal_fiducial_api_Mark_fiducial_api_Mark_ok n x' y v1 hc2)) (.mu 2 (.ca cf0 (.mu 1 (.done (.ret ?_)))))
 obtain rfl := oi hr
 exact FinQ.r1 [aB v1]

theorem slices_EqualFunc_fiducial_api_Mark_fiducial_api_Mark_fiducial_api_Mark_fiducial_api_Mark_of_fiduciallaw26_Same_1_ok (n : Nat) (s1 : List (List api_Mark)) (s2 : List (List api_Mark)) (r : Bool) (hr : slices_EqualFunc_fiducial_api_Mark_fiducial_api_Mark_fiducial_api_Mark_fiducial_api_Mark_of_fiduciallaw26_Same_1 n s1 s2 = some r) : FnOk Try.prog 50 [slT (slC api_Mark.c) s1, slT (slC api_Mark.c) s2, .fn 51 [] []] (aB r) := by
 unfold slices_EqualFunc_fiducial_api_Mark_fiducial_api_Mark_fiducial_api_Mark_fiducial_api_Mark_of_fiduciallaw26_Same_1 at hr
 refine FnOk.bd G Try.func50 [.tmp 6] ?_
 unfold Try.f50
 simp only [Option.getD_some]
 refine .seq (.r4 G [0, 1, 2] [] (.seq (.seq (.r4 G [0, 1, 2] [(14, aB (((s1.length : Int) : Int) != (s2.length : Int)))] ?_))))
 refine .cd hr (fun hb1 hr => ?_) (fun hb1 hr => ?_)
 ·refine .seq (.ru G (.ret ?_))
  obtain rfl := oi hr
  exact FinQ.r1 [aB false]
 ·refine .skip (.seq (.seq (.r4 G [1, 2] [(15, slT (slC api_Mark.c) s1), (16, aI64 (s1.length : Int)), (17, aI64 0)] (.block ?_))))
  replace hr := bd hr; obtain ⟨o16, hL17, hr⟩ := hr
  refine .loopO (σ := fun z0 => match z0 with | x_2 => ⟨mkS 32 0 [(1, slT (slC api_Mark.c) s2), (2, .fn 51 [] []), (15, slT (slC api_Mark.c) s1), (16, aI64 (s1.length : Int)), (17, aI64 x_2)], []⟩) (Q := fun x st' => match (generalizing := false) o16 with | .inl _ => x = .exit 0 ∧ Wk 0 st' ⟨mkS 32 0 [], []⟩ | .inr (r0) => x = .ret ∧ FinQ Try.prog [.tmp 6] (aB r0) .ret st') hL17 ((Wk.gc [1, 2, 15, 16, 17] [] rfl pK0).to) ?_ ?_
  ·clear hr
   rintro m x_2 hr
   show CQ _ _ _ _ _ ⟨_, _⟩
   refine .seq (.r4 G [1, 2, 15, 16, 17] [(18, aB (decide (x_2 < (s1.length : Int))))] (.seq ?_))
   refine .cd hr (fun hb10 hr => ?_) (fun hb10 hr => ?_)
   ·refine .skip (.seq (.block (.seq ?_)))
    obtain ⟨hg11, hr⟩ := gd hr
    refine .r0 G (.mu 1 (.p0 (v := .pp (s1.flatMap (slC api_Mark.c)) (x_2.toNat * 1)) (tr (ofP_guard hg11)) (.p0 (v := slT api_Mark.c (gt s1 x_2)) (tr (ofP_some (flat_get (slC_len api_Mark.c) (inR_lt hg11) (by decide : 0 < 1) (by omega : x_2.toNat * 1 = x_2.toNat * 1 + 0) (by kernel_rfl)))) (.mu 2 (.done (.nh [1, 2, 7, 8, 15, 16, 17] [] (.seq ?_)))))))
    obtain ⟨hg12, hr⟩ := gd hr
    refine .r0 G (.mu 2 (.p0 (v := .pp (s2.flatMap (slC api_Mark.c)) (x_2.toNat * 1)) (tr (ofP_guard hg12)) (.p0 (v := slT api_Mark.c (gt s2 x_2)) (tr (ofP_some (flat_get (slC_len api_Mark.c) (inR_lt hg12) (by decide : 0 < 1) (by omega : x_2.toNat * 1 = x_2.toNat * 1 + 0) (by kernel_rfl)))) (.mu 1 (.done (.nh [1, 2, 8, 9, 15, 16, 17] [] (.seq ?_)))))))
    obtain ⟨v13, hc14, hr⟩ := bd hr
    refine .g1 G (ok0 (fiduciallaw26_Same_1_ok n (gt s1 x_2) (gt s2 x_2) v13 hc14)) (.mu 3 (.ca cf0 (.mu 1 (.done (.nh [1, 2, 15, 16, 17, 30] [] ?_)))))
    refine .cd hr (fun hb15 hr => ?_) (fun hb15 hr => ?_)
    ·refine .seq (.ru G (.ret ?_))
     obtain rfl := oi hr
     exact ⟨rfl, FinQ.ret (vs := [aB false]) (by kernel_rfl) (Sn.pure rfl)⟩
    ·refine .skip (.pop (.ru G ?_))
     exact loopF_back (wrapF .i64 (x_2 + 1)) hr ((Wk.gc [1, 2, 15, 16, 17] [] rfl pK0).to)
   ·refine .leave rfl ?_
    obtain rfl := oi hr
    exact ⟨rfl, ((Wk.gc [] [] rfl pK0).to)⟩
  ·rcases o16 with ⟨⟩ | r0
   ·rintro x st' hq18
    clear hL17
    obtain ⟨rfl, hq18⟩ := hq18
    refine CQ_exit _ rfl (.wk hq18 (.seq (.ru G (.ret ?_))))
    obtain rfl := oi hr
    exact FinQ.r1 [aB true]
   ·rintro x st' hq18
    clear hL17
    obtain ⟨rfl, hq18⟩ := hq18
    obtain rfl := oi hr
    exact CQ_ret _ hq18

theorem fiduciallaw26_Same_ok (n : Nat) (a : List (List api_Mark)) (b : List (List api_Mark)) (r : Bool) (hr : fiduciallaw26_Same n a b = some r) : FnOk Try.prog 18 [slT (slC api_Mark.c) a, slT (slC api_Mark.c) b] (aB r) := by
 unfold fiduciallaw26_Same at hr
 refine FnOk.bd G Try.func18 [.tmp 4] ?_
 unfold Try.f18
 simp only [Option.getD_some]
 refine .seq (.r4 G [0, 1] [] (.seq ?_))
 obtain ⟨v1, hc2, hr⟩ := bd hr
 refine .g1 G (ok0 (slices_EqualFunc_fiducial_api_Mark_fiducial_api_Mark_fiducial_api_Mark_fiducial_api_Mark_of_fiduciallaw26_Same_1_ok n a b v1 hc2)) (.mu 2 (.ca cf0 (.mu 1 (.done (.ret ?_)))))
 obtain rfl := oi hr
 exact FinQ.r1 [aB v1]

theorem fiduciallaw26_TrackCommon_ok (n : Nat) (tracks : List (List api_Mark)) (a : Int) (b : Int) (r : Bool) (hr : fiduciallaw26_TrackCommon n tracks a b = some r) : FnOk Try.prog 7 [slT (slC api_Mark.c) tracks, aI64 a, aI64 b] (aB r) := by
 unfold fiduciallaw26_TrackCommon at hr
 refine FnOk.bd G Try.func7 [.tmp 6] ?_
 unfold Try.f7
 simp only [Option.getD_some]
 refine .seq (.r4 G [0, 1, 2] [] (.seq (.seq ?_)))
 obtain ⟨v1, hc2, hr⟩ := bd hr
 refine .g1 G (ok0 (fiduciallaw26_known_ok n v1 hc2)) (.ca cf0 (.mu 1 (.done (.nh [0, 1, 2, 12] [] ?_))))
 refine .cd hr (fun hb4 hr => ?_) (fun hb4 hr => ?_)
 ·refine .seq (.ru G (.ret ?_))
  obtain rfl := oi hr
  exact FinQ.r1 [aB false]
 ·refine .skip (.seq (.seq ?_))
  obtain ⟨v5, hc6, hr⟩ := bd hr
  refine .g1 G (ok0 (fiduciallaw26_short_ok n tracks v5 hc6)) (.mu 1 (.ca cf0 (.mu 1 (.done (.nh [0, 1, 2, 15] [] ?_)))))
  refine .cd hr (fun hb8 hr => ?_) (fun hb8 hr => ?_)
  ·refine .seq (.ru G (.ret ?_))
   obtain rfl := oi hr
   exact FinQ.r1 [aB true]
  ·refine .skip (.seq (.r4 G [0, 1, 2] [(7, nS)] (.seq (.r4 G [0, 1, 2, 7] [(8, nS)] (.seq (.seq (.r4 G [0, 1, 2, 7, 8] [(16, slT (slC api_Mark.c) tracks), (17, aI64 (tracks.length : Int)), (18, aI64 0)] (.block ?_))))))))
   replace hr := bd hr; obtain ⟨o128, hL129, hr⟩ := hr
   refine .loopO (σ := fun z0 => match z0 with | (both_70, long_71, x_72) => ⟨mkS 59 0 [(0, slT (slC api_Mark.c) tracks), (1, aI64 a), (2, aI64 b), (7, .hs 0 0 both_70.length 1), (8, .hs 1 0 long_71.length 1), (16, slT (slC api_Mark.c) tracks), (17, aI64 (tracks.length : Int)), (18, aI64 x_72)], [.own (both_70.flatMap (iC .i64)), .own (long_71.flatMap (slC api_Mark.c))]⟩) (Q := fun x st' => match (generalizing := false) o128 with | (both_99, long_100) => x = .exit 0 ∧ Wk 0 st' ⟨mkS 59 0 [(0, slT (slC api_Mark.c) tracks), (1, aI64 a), (2, aI64 b), (7, .hs 0 0 both_99.length 1), (8, .hs 1 0 long_100.length 1)], [.own (both_99.flatMap (iC .i64)), .own (long_100.flatMap (slC api_Mark.c))]⟩) hL129 ((Wk.nil 7 1 (by kernel_rfl)).trans ((Wk.nil 8 1 (by kernel_rfl)).trans ((Wk.gc [0, 1, 2, 7, 8, 16, 17, 18] [(0, false), (1, false)] rfl (pKc (pKc trivial))).to))) ?_ ?_
   ·clear hr
    rintro m ⟨both_70, long_71, x_72⟩ hr
    show CQ _ _ _ _ _ ⟨_, _⟩
    refine .seq (.r4 G [0, 1, 2, 7, 8, 16, 17, 18] [(19, aB (decide (x_72 < (tracks.length : Int))))] (.seq ?_))
    refine .cd hr (fun hb103 hr => ?_) (fun hb103 hr => ?_)
    ·refine .skip (.seq (.block (.seq ?_)))
     obtain ⟨hg104, hr⟩ := gd hr
     refine .r0 G (.mu 1 (.p0 (v := .pp (tracks.flatMap (slC api_Mark.c)) (x_72.toNat * 1)) (tr (ofP_guard hg104)) (.p0 (v := slT api_Mark.c (gt tracks x_72)) (tr (ofP_some (flat_get (slC_len api_Mark.c) (inR_lt hg104) (by decide : 0 < 1) (by omega : x_72.toNat * 1 = x_72.toNat * 1 + 0) (by kernel_rfl)))) (.mu 2 (.done (.nh [0, 1, 2, 7, 8, 9, 10, 16, 17, 18] [.own (both_70.flatMap (iC .i64)), .own (long_71.flatMap (slC api_Mark.c))] (.seq (.seq ?_))))))))
     replace hr := bd hr; obtain ⟨both_109, hL123, hr⟩ := hr
     refine .app2 (Q := fun x st' => x = .normal ∧ Wk 0 st' ⟨mkS 59 0 [(0, slT (slC api_Mark.c) tracks), (1, aI64 a), (2, aI64 b), (7, .hs 0 0 both_109.length 1), (8, .hs 1 0 long_71.length 1), (10, slT api_Mark.c (gt tracks x_72)), (16, slT (slC api_Mark.c) tracks), (17, aI64 (tracks.length : Int)), (18, aI64 x_72)], [.own (both_109.flatMap (iC .i64)), .own (long_71.flatMap (slC api_Mark.c))]⟩) ?_ ?_
     ·clear hr
      have hr := hL123
      clear hL123
      obtain ⟨v110, hc111, v112, hc113, hr⟩ := bd2 hr
      rcases Bool.eq_false_or_eq_true v112 with hb114 | hb114
      ·subst hb114
       replace hr := cd_t rfl hr
       obtain ⟨v115, hc116, v117, hc118, hr⟩ := bd2 hr
       refine .gn G (ca1 (ok0 (fiduciallaw26_images_ok n (gt tracks x_72) v110 hc111)) (ca1 (ok0 (slices_Contains_int_int_ok n v110 a true hc113)) (ca1 (ok0 (fiduciallaw26_images_ok n (gt tracks x_72) v115 hc116)) (ca3 (ok0 (slices_Contains_int_int_ok n v115 b v117 hc118)))))) (.mu 1 (.ca cf0 (.mu 1 (.ca (cfF cf0) (.mu 2 (.ca (cfA (fun h => by rw [sv hc116 hc111 (fiduciallaw26_images_cg n h)]) (cfF cf0)) (.mu 1 (.ca (cfF (cfA (fun h => by rw [sv hc118 hc113 (slices_Contains_int_int_cg n h)]) (cfF cf0))) (.mu 1 (.done (.nh [0, 1, 2, 7, 8, 9, 10, 16, 17, 18, 32] [.own (both_70.flatMap (iC .i64)), .own (long_71.flatMap (slC api_Mark.c))] ?_)))))))))))
       refine .cd hr (fun hb119 hr => ?_) (fun hb119 hr => ?_)
       ·obtain ⟨hg120, hg121, hr⟩ := gd2 hr
        refine .r0 G (.mu 3 (.e0 (v := .hs 3 0 (both_70 ++ [x_72]).length 1) (ws := [(0, .dead), (3, .own ((both_70 ++ [x_72]).flatMap (iC .i64)))]) (tr (app_own (new := [aI64 x_72]) (l := both_70) (xs := [x_72]) (iC_len .i64) rfl rfl (by kernel_rfl) hg120 hg121)) (.mu 1 (.done ?_))))
        obtain rfl := oi hr
        exact ⟨rfl, ((Wk.gc [0, 1, 2, 7, 8, 10, 16, 17, 18] [(3, false), (1, false)] rfl (pKo (iC .i64) (iC_pure _) (both_70 ++ [x_72]) (pKo (slC api_Mark.c) (slC_pure _) long_71 trivial))).to)⟩
       ·refine .skip ?_
        obtain rfl := oi hr
        exact ⟨rfl, ((Wk.gc [0, 1, 2, 7, 8, 10, 16, 17, 18] [(0, false), (1, false)] rfl (pKo (iC .i64) (iC_pure _) both_70 (pKo (slC api_Mark.c) (slC_pure _) long_71 trivial))).to)⟩
      ·subst hb114
       replace hr := cd_f rfl hr
       refine .gn G (ca1 (ok0 (fiduciallaw26_images_ok n (gt tracks x_72) v110 hc111)) (ca3 (ok0 (slices_Contains_int_int_ok n v110 a false hc113)))) (.mu 1 (.ca cf0 (.mu 1 (.ca (cfF cf0) (.mu 6 (.done (.nh [0, 1, 2, 7, 8, 9, 10, 16, 17, 18, 32] [.own (both_70.flatMap (iC .i64)), .own (long_71.flatMap (slC api_Mark.c))] (.cF (by kernel_rfl) (.skip ?_)))))))))
       obtain rfl := oi hr
       exact ⟨rfl, ((Wk.gc [0, 1, 2, 7, 8, 10, 16, 17, 18] [(0, false), (1, false)] rfl (pKo (iC .i64) (iC_pure _) both_70 (pKo (slC api_Mark.c) (slC_pure _) long_71 trivial))).to)⟩
     ·rintro x st' hq124
      clear hL123
      obtain ⟨rfl, hq124⟩ := hq124
      refine .wk hq124 (.seq (.r4 G [0, 1, 2, 7, 8, 10, 16, 17, 18] [(40, aB (decide (((gt tracks x_72).length : Int) ≥ a)))] ?_))
      refine .cd hr (fun hb125 hr => ?_) (fun hb125 hr => ?_)
      ·obtain ⟨hg126, hg127, hr⟩ := gd2 hr
       refine .r0 G (.mu 3 (.e0 (v := .hs 3 0 (long_71 ++ [(gt tracks x_72)]).length 1) (ws := [(1, .dead), (3, .own ((long_71 ++ [(gt tracks x_72)]).flatMap (slC api_Mark.c)))]) (tr (app_own (new := [slT api_Mark.c (gt tracks x_72)]) (l := long_71) (xs := [(gt tracks x_72)]) (slC_len api_Mark.c) rfl rfl (by kernel_rfl) hg126 hg127)) (.mu 1 (.done (.pop (.ru G ?_))))))
       exact loopF_back (both_109, long_71 ++ [(gt tracks x_72)], wrapF .i64 (x_72 + 1)) hr ((Wk.gc [0, 1, 2, 7, 8, 16, 17, 18] [(0, false), (3, false)] rfl (pKo (iC .i64) (iC_pure _) both_109 (pKo (slC api_Mark.c) (slC_pure _) (long_71 ++ [(gt tracks x_72)]) trivial))).to)
      ·refine .skip (.pop (.ru G ?_))
       exact loopF_back (both_109, long_71, wrapF .i64 (x_72 + 1)) hr ((Wk.gc [0, 1, 2, 7, 8, 16, 17, 18] [(0, false), (1, false)] rfl (pKo (iC .i64) (iC_pure _) both_109 (pKo (slC api_Mark.c) (slC_pure _) long_71 trivial))).to)
    ·refine .leave rfl ?_
     obtain rfl := oi hr
     exact ⟨rfl, ((Wk.gc [0, 1, 2, 7, 8] [(0, false), (1, false)] rfl (pKo (iC .i64) (iC_pure _) both_70 (pKo (slC api_Mark.c) (slC_pure _) long_71 trivial))).to)⟩
   ·rcases o128 with ⟨both_99, long_100⟩
    rintro x st' hq130
    clear hL129
    obtain ⟨rfl, hq130⟩ := hq130
    refine CQ_exit _ rfl (.wk hq130 (.seq ?_))
    obtain ⟨v131, hc132, v133, hc134, hr⟩ := bd2 hr
    rcases Bool.eq_false_or_eq_true v133 with hb135 | hb135
    ·subst hb135
     replace hr := cd_t rfl hr
     obtain ⟨v136, hc137, v138, hc139, hr⟩ := bd2 hr
     refine .gn G (ca1 (ok0 (track_Common_ok n tracks a b v131 hc132)) (ca1 (callOk_val (args := [sI64 v131, .hs 0 0 both_99.length 1]) (l := [0]) rfl (SnL.cons (Sn.pure rfl) (SnL.cons (Sn.hs rfl (.inl rfl) (SnC.pure (ids_flat (iC_pure _) _)) (fun h => flat_nil0 h)) SnL.nil)) (slices_Equal_int_int_ok n v131 both_99 true hc134)) (ca1 (ok0 (track_Prune_ok n tracks a v136 hc137)) (ca3 (callOk_val (args := [slT (slC api_Mark.c) v136, .hs 1 0 long_100.length 1]) (l := [1]) rfl (SnL.cons (Sn.pure rfl) (SnL.cons (Sn.hs rfl (.inl rfl) (SnC.pure (ids_flat (slC_pure _) _)) (fun h => flat_nil0 h)) SnL.nil)) (fiduciallaw26_Same_ok n v136 long_100 v138 hc139)))))) (.mu 3 (.ca cf0 (.mu 1 (.ca (cfF cf0) (.mu 3 (.ca (cfF (cfF cf0)) (.mu 1 (.ca (cfF (cfF (cfF cf0))) (.mu 2 (.done (.ret ?_)))))))))))
     obtain rfl := oi hr
     exact FinQ.r1 [aB v138]
    ·subst hb135
     replace hr := cd_f rfl hr
     refine .gn G (ca1 (ok0 (track_Common_ok n tracks a b v131 hc132)) (ca3 (callOk_val (args := [sI64 v131, .hs 0 0 both_99.length 1]) (l := [0]) rfl (SnL.cons (Sn.pure rfl) (SnL.cons (Sn.hs rfl (.inl rfl) (SnC.pure (ids_flat (iC_pure _) _)) (fun h => flat_nil0 h)) SnL.nil)) (slices_Equal_int_int_ok n v131 both_99 false hc134)))) (.mu 3 (.ca cf0 (.mu 1 (.ca (cfF cf0) (.mu 8 (.done (.ret ?_)))))))
     obtain rfl := oi hr
     exact FinQ.r1 [aB false]
end Go.L
