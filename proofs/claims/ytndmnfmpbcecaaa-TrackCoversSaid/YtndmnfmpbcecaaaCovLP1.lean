/- The program's functions compute what the plain Lean programs compute, part 1; printed by a program. -/
import Derived.Test.YtndmnfmpbcecaaaCovLD
import Derived.Test.YtndmnfmpbcecaaaL0eopfcgeb
import Derived.Test.YtndmnfmpbcecaaaKn26ombiggmg
import Derived.Test.YtndmnfmpbcecaaaChecked
import Derived.KernelRfl
set_option linter.all false
set_option maxRecDepth 100000
set_option maxHeartbeats 4000000
namespace Go.L
open Go Go.Eng Go.Proofs
theorem fiduciallaw26_known_ok (n : Nat) (r : Bool) (hr : fiduciallaw26_known n = some r) : FnOk Try.prog 11 [] (aB r) := by
 cases hr
 exact fiduciallaw26_known_run

theorem fiduciallaw26_short_1_ok (n : Nat) (t : List api_Mark) (r : Bool) (hr : fiduciallaw26_short_1 n t = some r) : FnOk Try.prog 63 [slT api_Mark.c t] (aB r) := by
 unfold fiduciallaw26_short_1 at hr
 refine FnOk.bd G Try.func63 [.tmp 2] ?_
 unfold Try.f63
 simp only [Option.getD_some]
 refine .seq (.r4 G [0] [] (.seq (.ru G (.ret ?_))))
 obtain rfl := oi hr
 exact FinQ.r1 [aB (decide ((t.length : Int) > 20))]

theorem slices_IndexFunc_fiducial_api_Mark_fiducial_api_Mark_of_fiduciallaw26_short_1_ok (n : Nat) (s : List (List api_Mark)) (r : Int) (hr : slices_IndexFunc_fiducial_api_Mark_fiducial_api_Mark_of_fiduciallaw26_short_1 n s = some r) : FnOk Try.prog 95 [slT (slC api_Mark.c) s, .fn 63 [] []] (aI64 r) := by
 unfold slices_IndexFunc_fiducial_api_Mark_fiducial_api_Mark_of_fiduciallaw26_short_1 at hr
 refine FnOk.bd G Try.func95 [.tmp 4] ?_
 unfold Try.f95
 simp only [Option.getD_some]
 refine .seq (.r4 G [0, 1] [] (.seq (.seq (.r4 G [0, 1] [(7, aI64 (s.length : Int)), (8, aI64 0)] (.block ?_)))))
 replace hr := bd hr; obtain ⟨o13, hL14, hr⟩ := hr
 refine .loopO (σ := fun z0 => match z0 with | x_1 => ⟨mkS 19 0 [(0, slT (slC api_Mark.c) s), (1, .fn 63 [] []), (7, aI64 (s.length : Int)), (8, aI64 x_1)], []⟩) (Q := fun x st' => match (generalizing := false) o13 with | .inl _ => x = .exit 0 ∧ Wk 0 st' ⟨mkS 19 0 [], []⟩ | .inr (r0) => x = .ret ∧ FinQ Try.prog [.tmp 4] (aI64 r0) .ret st') hL14 ((Wk.gc [0, 1, 7, 8] [] rfl pK0).to) ?_ ?_
 ·clear hr
  rintro m x_1 hr
  show CQ _ _ _ _ _ ⟨_, _⟩
  refine .seq (.r4 G [0, 1, 7, 8] [(9, aB (decide (x_1 < (s.length : Int))))] (.seq ?_))
  refine .cd hr (fun hb8 hr => ?_) (fun hb8 hr => ?_)
  ·refine .skip (.seq (.block (.seq (.r4 G [0, 1, 7, 8] [(5, aI64 x_1)] (.seq ?_)))))
   obtain ⟨hg9, hr⟩ := gd hr
   obtain ⟨v10, hc11, hr⟩ := bd hr
   refine .g1 G (ok0 (fiduciallaw26_short_1_ok n (gt s x_1) v10 hc11)) (.mu 3 (.p0 (v := .pp (s.flatMap (slC api_Mark.c)) (x_1.toNat * 1)) (tr (ofP_guard hg9)) (.p0 (v := slT api_Mark.c (gt s x_1)) (tr (ofP_some (flat_get (slC_len api_Mark.c) (inR_lt hg9) (by decide : 0 < 1) (by omega : x_1.toNat * 1 = x_1.toNat * 1 + 0) (by kernel_rfl)))) (.ca cf0 (.done (.nh [0, 1, 5, 7, 8, 16] [] ?_))))))
   refine .cd hr (fun hb12 hr => ?_) (fun hb12 hr => ?_)
   ·refine .seq (.ru G (.ret ?_))
    obtain rfl := oi hr
    exact ⟨rfl, FinQ.ret (vs := [aI64 x_1]) (by kernel_rfl) (Sn.pure rfl)⟩
   ·refine .skip (.pop (.ru G ?_))
    exact loopF_back (wrapF .i64 (x_1 + 1)) hr ((Wk.gc [0, 1, 7, 8] [] rfl pK0).to)
  ·refine .leave rfl ?_
   obtain rfl := oi hr
   exact ⟨rfl, ((Wk.gc [] [] rfl pK0).to)⟩
 ·rcases o13 with ⟨⟩ | r0
  ·rintro x st' hq15
   clear hL14
   obtain ⟨rfl, hq15⟩ := hq15
   refine CQ_exit _ rfl (.wk hq15 (.seq (.ru G (.ret ?_))))
   obtain rfl := oi hr
   exact FinQ.r1 [aI64 (-1)]
  ·rintro x st' hq15
   clear hL14
   obtain ⟨rfl, hq15⟩ := hq15
   obtain rfl := oi hr
   exact CQ_ret _ hq15

theorem slices_ContainsFunc_fiducial_api_Mark_fiducial_api_Mark_of_fiduciallaw26_short_1_ok (n : Nat) (s : List (List api_Mark)) (r : Bool) (hr : slices_ContainsFunc_fiducial_api_Mark_fiducial_api_Mark_of_fiduciallaw26_short_1 n s = some r) : FnOk Try.prog 62 [slT (slC api_Mark.c) s, .fn 63 [] []] (aB r) := by
 unfold slices_ContainsFunc_fiducial_api_Mark_fiducial_api_Mark_of_fiduciallaw26_short_1 at hr
 refine FnOk.bd G Try.func62 [.tmp 4] ?_
 unfold Try.f62
 simp only [Option.getD_some]
 refine .seq (.r4 G [0, 1] [] (.seq ?_))
 obtain ⟨v1, hc2, hr⟩ := bd hr
 refine .g1 G (ok0 (slices_IndexFunc_fiducial_api_Mark_fiducial_api_Mark_of_fiduciallaw26_short_1_ok n s v1 hc2)) (.mu 2 (.ca cf0 (.mu 2 (.done (.ret ?_)))))
 obtain rfl := oi hr
 exact FinQ.r1 [aB (decide (v1 ≥ 0))]

theorem fiduciallaw26_short_ok (n : Nat) (l : List (List api_Mark)) (r : Bool) (hr : fiduciallaw26_short n l = some r) : FnOk Try.prog 32 [slT (slC api_Mark.c) l] (aB r) := by
 unfold fiduciallaw26_short at hr
 refine FnOk.bd G Try.func32 [.tmp 2] ?_
 unfold Try.f32
 simp only [Option.getD_some]
 refine .seq (.r4 G [0] [] (.seq ?_))
 rcases Bool.eq_false_or_eq_true (decide ((l.length : Int) ≤ 20)) with hb1 | hb1
 ·replace hr := cd_t hb1 hr
  obtain ⟨v2, hc3, hr⟩ := bd hr
  refine .g1 G (ok0 (slices_ContainsFunc_fiducial_api_Mark_fiducial_api_Mark_of_fiduciallaw26_short_1_ok n l v2 hc3)) (.mu 2 (.p0 (v := aB true) (eB hb1) (.mu 12 (.ca cf0 (.mu 3 (.done (.ret ?_)))))))
  obtain rfl := oi hr
  exact FinQ.r1 [aB (!v2)]
 ·replace hr := cd_f hb1 hr
  rcases Bool.eq_false_or_eq_true (decide ((l.length : Int) > 256)) with hb4 | hb4
  ·replace hr := cd_t hb4 hr
   rcases Bool.eq_false_or_eq_true (decide ((l.length : Int) ≤ 300)) with hb5 | hb5
   ·replace hr := cd_t hb5 hr
    obtain ⟨v6, hc7, hr⟩ := bd hr
    refine .g1 G (ok0 (slices_ContainsFunc_fiducial_api_Mark_fiducial_api_Mark_of_fiduciallaw26_short_1_ok n l v6 hc7)) (.mu 2 (.p0 (v := aB false) (eB hb1) (.mu 3 (.pure (v := aB true) (by kernel_rfl) (eB hb4) (.mu 3 (.pure (v := aB true) (by kernel_rfl) (eB hb5) (.mu 4 (.ca cf0 (.mu 3 (.done (.ret ?_)))))))))))
    obtain rfl := oi hr
    exact FinQ.r1 [aB (!v6)]
   ·replace hr := cd_f hb5 hr
    refine .r0 G (.mu 2 (.p0 (v := aB false) (eB hb1) (.mu 3 (.pure (v := aB true) (by kernel_rfl) (eB hb4) (.mu 3 (.pure (v := aB false) (by kernel_rfl) (eB hb5) (.mu 8 (.done (.ret ?_)))))))))
    obtain rfl := oi hr
    exact FinQ.r1 [aB false]
  ·replace hr := cd_f hb4 hr
   refine .r0 G (.mu 2 (.p0 (v := aB false) (eB hb1) (.mu 3 (.pure (v := aB false) (by kernel_rfl) (eB hb4) (.mu 12 (.done (.ret ?_)))))))
   obtain rfl := oi hr
   exact FinQ.r1 [aB false]

theorem track_sees_1_ok (n : Nat) (m' : api_Mark) (p : Int) (r : Bool) (hr : track_sees_1 n m' p = some r) : FnOk Try.prog 96 [.agg (api_Mark.c m'), .pp [aI64 p] 0] (aB r) := by
 unfold track_sees_1 at hr
 refine FnOk.bd G Try.func96 [.tmp 3] ?_
 unfold Try.f96
 simp only [Option.getD_some]
 refine .seq (.r5 G [1] [(2, .hp 0 0)] [.own (api_Mark.c m')] (.seq (.ru G (.ret ?_))))
 obtain rfl := oi hr
 exact FinQ.r1 [aB ((m'.Image : Int) == p)]

theorem slices_IndexFunc_fiducial_api_Mark_fiducial_api_Mark_of_track_sees_1_ok (n : Nat) (s : List api_Mark) (c : Int) (r : Int) (hr : slices_IndexFunc_fiducial_api_Mark_fiducial_api_Mark_of_track_sees_1 n s c = some r) : FnOk Try.prog 55 [slT api_Mark.c s, .fn 96 [] [.pp [aI64 c] 0]] (aI64 r) := by
 unfold slices_IndexFunc_fiducial_api_Mark_fiducial_api_Mark_of_track_sees_1 at hr
 refine FnOk.bd G Try.func55 [.tmp 4] ?_
 unfold Try.f55
 simp only [Option.getD_some]
 refine .seq (.r4 G [0, 1] [] (.seq (.seq (.r4 G [0, 1] [(7, aI64 (s.length : Int)), (8, aI64 0)] (.block ?_)))))
 replace hr := bd hr; obtain ⟨o13, hL14, hr⟩ := hr
 refine .loopO (σ := fun z0 => match z0 with | x_1 => ⟨mkS 19 0 [(0, slT api_Mark.c s), (1, .fn 96 [] [.pp [aI64 c] 0]), (7, aI64 (s.length : Int)), (8, aI64 x_1)], []⟩) (Q := fun x st' => match (generalizing := false) o13 with | .inl _ => x = .exit 0 ∧ Wk 0 st' ⟨mkS 19 0 [], []⟩ | .inr (r0) => x = .ret ∧ FinQ Try.prog [.tmp 4] (aI64 r0) .ret st') hL14 ((Wk.gc [0, 1, 7, 8] [] rfl pK0).to) ?_ ?_
 ·clear hr
  rintro m x_1 hr
  show CQ _ _ _ _ _ ⟨_, _⟩
  refine .seq (.r4 G [0, 1, 7, 8] [(9, aB (decide (x_1 < (s.length : Int))))] (.seq ?_))
  refine .cd hr (fun hb8 hr => ?_) (fun hb8 hr => ?_)
  ·refine .skip (.seq (.block (.seq (.r4 G [0, 1, 7, 8] [(5, aI64 x_1)] (.seq ?_)))))
   obtain ⟨hg9, hr⟩ := gd hr
   obtain ⟨v10, hc11, hr⟩ := bd hr
   refine .g1 G (ok0 (track_sees_1_ok n (gt s x_1) c v10 hc11)) (.mu 3 (.p0 (v := .pp (s.flatMap api_Mark.c) (x_1.toNat * 2)) (tr (ofP_guard hg9)) (.p0 (v := .agg (api_Mark.c (gt s x_1))) (Eq.trans (b := ORes.ofP (guardV (decide (2 ≤ ((s.flatMap api_Mark.c).drop (x_1.toNat * 2)).length)) (.agg (((s.flatMap api_Mark.c).drop (x_1.toNat * 2)).take 2)))) (by kernel_rfl) (flat_load api_Mark.len (inR_lt hg9) (by decide) (by omega : x_1.toNat * 2 = x_1.toNat * 2 + 0) (by kernel_rfl))) (.ca cf0 (.done (.nh [0, 1, 5, 7, 8, 16] [] ?_))))))
   refine .cd hr (fun hb12 hr => ?_) (fun hb12 hr => ?_)
   ·refine .seq (.ru G (.ret ?_))
    obtain rfl := oi hr
    exact ⟨rfl, FinQ.ret (vs := [aI64 x_1]) (by kernel_rfl) (Sn.pure rfl)⟩
   ·refine .skip (.pop (.ru G ?_))
    exact loopF_back (wrapF .i64 (x_1 + 1)) hr ((Wk.gc [0, 1, 7, 8] [] rfl pK0).to)
  ·refine .leave rfl ?_
   obtain rfl := oi hr
   exact ⟨rfl, ((Wk.gc [] [] rfl pK0).to)⟩
 ·rcases o13 with ⟨⟩ | r0
  ·rintro x st' hq15
   clear hL14
   obtain ⟨rfl, hq15⟩ := hq15
   refine CQ_exit _ rfl (.wk hq15 (.seq (.ru G (.ret ?_))))
   obtain rfl := oi hr
   exact FinQ.r1 [aI64 (-1)]
  ·rintro x st' hq15
   clear hL14
   obtain ⟨rfl, hq15⟩ := hq15
   obtain rfl := oi hr
   exact CQ_ret _ hq15

theorem slices_ContainsFunc_fiducial_api_Mark_fiducial_api_Mark_of_track_sees_1_ok (n : Nat) (s : List api_Mark) (c : Int) (r : Bool) (hr : slices_ContainsFunc_fiducial_api_Mark_fiducial_api_Mark_of_track_sees_1 n s c = some r) : FnOk Try.prog 24 [slT api_Mark.c s, .fn 96 [] [.pp [aI64 c] 0]] (aB r) := by
 unfold slices_ContainsFunc_fiducial_api_Mark_fiducial_api_Mark_of_track_sees_1 at hr
 refine FnOk.bd G Try.func24 [.tmp 4] ?_
 unfold Try.f24
 simp only [Option.getD_some]
 refine .seq (.r4 G [0, 1] [] (.seq ?_))
 obtain ⟨v1, hc2, hr⟩ := bd hr
 refine .g1 G (callOk_val (args := [slT api_Mark.c s, .fn 96 [] [.pp [aI64 c] 0]]) (l := []) rfl (SnL.cons (Sn.pure rfl) (SnL.cons (Sn.fn SnL.nil (SnL.cons (Sn.pure rfl) SnL.nil)) SnL.nil)) (slices_IndexFunc_fiducial_api_Mark_fiducial_api_Mark_of_track_sees_1_ok n s c v1 hc2)) (.mu 2 (.ca cf0 (.mu 2 (.done (.ret ?_)))))
 obtain rfl := oi hr
 exact FinQ.r1 [aB (decide (v1 ≥ 0))]

theorem track_sees_inj {t : List api_Mark} {image : Int} {t_ : List api_Mark} {image_ : Int} (h : ([slT api_Mark.c t, .at (.int .i64 image)] : List AV) = [slT api_Mark.c t_, .at (.int .i64 image_)]) : t = t_ ∧ image = image_ := by
 simp only [List.cons.injEq, AV.agg.injEq, AV.at.injEq, Value.int.injEq, Value.bool.injEq, AV.fn.injEq, AV.pp.injEq, true_and, and_true, (slT_inj api_Mark.len (by decide) api_Mark.inj)] at h
 simp_all
theorem track_sees_cg (n : Nat) {t : List api_Mark} {image : Int} {t_ : List api_Mark} {image_ : Int} (h : ([slT api_Mark.c t, .at (.int .i64 image)] : List AV) = [slT api_Mark.c t_, .at (.int .i64 image_)]) : track_sees n t image = track_sees n t_ image_ := by
 obtain ⟨rfl, rfl⟩ := track_sees_inj h
 rfl
theorem track_sees_ok (n : Nat) (t : List api_Mark) (image : Int) (r : Bool) (hr : track_sees n t image = some r) : FnOk Try.prog 65 [slT api_Mark.c t, aI64 image] (aB r) := by
 unfold track_sees at hr
 refine FnOk.bd G Try.func65 [.tmp 4] ?_
 unfold Try.f65
 simp only [Option.getD_some]
 refine .seq (.r5 G [0] [(3, .hp 0 0)] [.own [aI64 image]] (.seq ?_))
 obtain ⟨v1, hc2, hr⟩ := bd hr
 refine .g1 G (callOk_val (args := [slT api_Mark.c t, .fn 96 [] [.hp 0 0]]) (l := [0]) rfl (SnL.cons (Sn.pure rfl) (SnL.cons (Sn.fn SnL.nil (SnL.cons (Sn.hp rfl (.inl rfl) (SnC.cons (Sn.pure rfl) SnC.nil)) SnL.nil)) SnL.nil)) (slices_ContainsFunc_fiducial_api_Mark_fiducial_api_Mark_of_track_sees_1_ok n t image v1 hc2)) (.mu 2 (.ca cf0 (.mu 1 (.done (.ret ?_)))))
 obtain rfl := oi hr
 exact FinQ.r1 [aB v1]

theorem track_Common_ok (n : Nat) (tracks : List (List api_Mark)) (a : Int) (b : Int) (r : List Int) (hr : track_Common n tracks a b = some r) : FnOk Try.prog 36 [slT (slC api_Mark.c) tracks, aI64 a, aI64 b] (sI64 r) := by
 unfold track_Common at hr
 refine FnOk.bd G Try.func36 [.tmp 6] ?_
 unfold Try.f36
 simp only [Option.getD_some]
 refine .seq (.r4 G [0, 1, 2] [] (.seq (.r4 G [0, 1, 2] [(7, nS)] (.seq (.seq (.r4 G [1, 2, 7] [(10, slT (slC api_Mark.c) tracks), (11, aI64 (tracks.length : Int)), (12, aI64 0)] (.block ?_)))))))
 replace hr := bd hr; obtain ⟨out_14, hL28, hr⟩ := hr
 refine .loopO (σ := fun z0 => match z0 with | (out_1, x_2) => ⟨mkS 31 0 [(1, aI64 a), (2, aI64 b), (7, .hs 0 0 out_1.length 1), (10, slT (slC api_Mark.c) tracks), (11, aI64 (tracks.length : Int)), (12, aI64 x_2)], [.own (out_1.flatMap (iC .i64))]⟩) (Q := fun x st' => x = .exit 0 ∧ Wk 0 st' ⟨mkS 31 0 [(7, .hs 0 0 out_14.length 1)], [.own (out_14.flatMap (iC .i64))]⟩) hL28 ((Wk.nil 7 1 (by kernel_rfl)).trans ((Wk.gc [1, 2, 7, 10, 11, 12] [(0, false)] rfl (pKc trivial)).to)) ?_ ?_
 ·clear hr
  rintro m ⟨out_1, x_2⟩ hr
  show CQ _ _ _ _ _ ⟨_, _⟩
  refine .seq (.r4 G [1, 2, 7, 10, 11, 12] [(13, aB (decide (x_2 < (tracks.length : Int))))] (.seq ?_))
  refine .cd hr (fun hb17 hr => ?_) (fun hb17 hr => ?_)
  ·refine .skip (.seq (.block (.seq ?_)))
   obtain ⟨hg18, hr⟩ := gd hr
   refine .r0 G (.mu 1 (.p0 (v := .pp (tracks.flatMap (slC api_Mark.c)) (x_2.toNat * 1)) (tr (ofP_guard hg18)) (.p0 (v := slT api_Mark.c (gt tracks x_2)) (tr (ofP_some (flat_get (slC_len api_Mark.c) (inR_lt hg18) (by decide : 0 < 1) (by omega : x_2.toNat * 1 = x_2.toNat * 1 + 0) (by kernel_rfl)))) (.mu 2 (.done (.nh [1, 2, 7, 8, 9, 10, 11, 12] [.own (out_1.flatMap (iC .i64))] (.seq ?_)))))))
   obtain ⟨v19, hc20, hr⟩ := bd hr
   rcases Bool.eq_false_or_eq_true v19 with hb21 | hb21
   ·subst hb21
    replace hr := cd_t rfl hr
    obtain ⟨v22, hc23, hr⟩ := bd hr
    refine .gn G (ca1 (ok0 (track_sees_ok n (gt tracks x_2) a true hc20)) (ca3 (ok0 (track_sees_ok n (gt tracks x_2) b v22 hc23)))) (.mu 2 (.ca cf0 (.mu 3 (.ca (cfA (fun h => by rw [sv hc23 hc20 (track_sees_cg n h)]) cf0) (.mu 1 (.done (.nh [1, 2, 7, 8, 10, 11, 12, 24] [.own (out_1.flatMap (iC .i64))] ?_)))))))
    refine .cd hr (fun hb24 hr => ?_) (fun hb24 hr => ?_)
    ·obtain ⟨hg25, hg26, hr⟩ := gd2 hr
     refine .r0 G (.mu 3 (.e0 (v := .hs 2 0 (out_1 ++ [x_2]).length 1) (ws := [(0, .dead), (2, .own ((out_1 ++ [x_2]).flatMap (iC .i64)))]) (tr (app_own (new := [aI64 x_2]) (l := out_1) (xs := [x_2]) (iC_len .i64) rfl rfl (by kernel_rfl) hg25 hg26)) (.mu 1 (.done (.pop (.ru G ?_))))))
     exact loopF_back (out_1 ++ [x_2], wrapF .i64 (x_2 + 1)) hr ((Wk.gc [1, 2, 7, 10, 11, 12] [(2, false)] rfl (pKo (iC .i64) (iC_pure _) (out_1 ++ [x_2]) trivial)).to)
    ·refine .skip (.pop (.ru G ?_))
     exact loopF_back (out_1, wrapF .i64 (x_2 + 1)) hr ((Wk.gc [1, 2, 7, 10, 11, 12] [(0, false)] rfl (pKo (iC .i64) (iC_pure _) out_1 trivial)).to)
   ·subst hb21
    replace hr := cd_f rfl hr
    refine .g1 G (ok0 (track_sees_ok n (gt tracks x_2) a false hc20)) (.mu 2 (.ca cf0 (.mu 5 (.done (.nh [1, 2, 7, 8, 10, 11, 12, 24] [.own (out_1.flatMap (iC .i64))] (.cF (by kernel_rfl) (.skip (.pop (.ru G ?_)))))))))
    exact loopF_back (out_1, wrapF .i64 (x_2 + 1)) hr ((Wk.gc [1, 2, 7, 10, 11, 12] [(0, false)] rfl (pKo (iC .i64) (iC_pure _) out_1 trivial)).to)
  ·refine .leave rfl ?_
   obtain rfl := oi hr
   exact ⟨rfl, ((Wk.gc [7] [(0, false)] rfl (pKo (iC .i64) (iC_pure _) out_1 trivial)).to)⟩
 ·rintro x st' hq29
  clear hL28
  obtain ⟨rfl, hq29⟩ := hq29
  refine CQ_exit _ rfl (.wk hq29 (.seq (.r3 G 31 [(6, .hs 0 0 out_14.length 1)] (.ret ?_))))
  obtain rfl := oi hr
  exact FinQ.ret (vs := [.hs 0 0 out_14.length 1]) (by kernel_rfl) (Sn.hs rfl (.inl rfl) (SnC.pure (ids_flat (iC_pure _) _)) (fun h => flat_nil0 h))

theorem track_Cover_ok (n : Nat) (tracks : List (List api_Mark)) (images : Int) (r : List (List Int) × Int) (hr : track_Cover n tracks images = some r) : FnOk Try.prog 43 [slT (slC api_Mark.c) tracks, aI64 images] (.tup [slT (slC (iC .i64)) r.1, aI64 r.2]) := by
 unfold track_Cover at hr
 refine FnOk.bd G Try.func43 [.tmp 4, .tmp 5] ?_
 unfold Try.f43
 simp only [Option.getD_some]
 refine .seq (.r4 G [0, 1] [] (.seq (.seq ?_)))
 rcases Bool.eq_false_or_eq_true (decide (images < 1)) with hb1 | hb1
 ·replace hr := cd_t hb1 hr
  refine .r0 G (.mu 1 (.p0 (v := aB true) (eB hb1) (.mu 9 (.done (.nh [0, 1, 23] [] (.cT (by kernel_rfl) (.seq (.r3 G 81 [(4, nS), (5, aI64 3)] (.ret ?_)))))))))
  obtain rfl := oi hr
  exact FinQ.ret (vs := [nS, aI64 3]) (by kernel_rfl) (Sn.tup (SnL.cons Sn.nilsl (SnL.cons (Sn.pure rfl) SnL.nil)))
 ·replace hr := cd_f hb1 hr
  rcases Bool.eq_false_or_eq_true (decide (images > 64)) with hb2 | hb2
  ·replace hr := cd_t hb2 hr
   refine .r0 G (.mu 1 (.p0 (v := aB false) (eB hb1) (.mu 2 (.pure (v := aB true) (by kernel_rfl) (eB hb2) (.mu 6 (.done (.nh [0, 1, 23] [] (.cT (by kernel_rfl) (.seq (.r3 G 81 [(4, nS), (5, aI64 3)] (.ret ?_)))))))))))
   obtain rfl := oi hr
   exact FinQ.ret (vs := [nS, aI64 3]) (by kernel_rfl) (Sn.tup (SnL.cons Sn.nilsl (SnL.cons (Sn.pure rfl) SnL.nil)))
  ·replace hr := cd_f hb2 hr
   refine .r0 G (.mu 1 (.p0 (v := aB false) (eB hb1) (.mu 2 (.pure (v := aB false) (by kernel_rfl) (eB hb2) (.mu 6 (.done (.nh [0, 1, 23] [] ?_)))))))
   refine .cd hr (fun hb4 hr => ?_) (fun hb4 hr => ?_)
   ·refine .seq (.r3 G 81 [(4, nS), (5, aI64 3)] (.ret ?_))
    obtain rfl := oi hr
    exact FinQ.ret (vs := [nS, aI64 3]) (by kernel_rfl) (Sn.tup (SnL.cons Sn.nilsl (SnL.cons (Sn.pure rfl) SnL.nil)))
   ·refine .skip (.seq (.seq (.r4 G [0, 1] [(24, slT (slC api_Mark.c) tracks), (25, aI64 (tracks.length : Int)), (26, aI64 0)] (.block ?_))))
    replace hr := bd hr; obtain ⟨o84, hL85, hr⟩ := hr
    refine .loopO (σ := fun z0 => match z0 with | x_46 => ⟨mkS 81 0 [(0, slT (slC api_Mark.c) tracks), (1, aI64 images), (24, slT (slC api_Mark.c) tracks), (25, aI64 (tracks.length : Int)), (26, aI64 x_46)], []⟩) (Q := fun x st' => match (generalizing := false) o84 with | .inl _ => x = .exit 0 ∧ Wk 0 st' ⟨mkS 81 0 [(0, slT (slC api_Mark.c) tracks), (1, aI64 images)], []⟩ | .inr (r0) => x = .ret ∧ FinQ Try.prog [.tmp 4, .tmp 5] (.tup [slT (slC (iC .i64)) r0.1, aI64 r0.2]) .ret st') hL85 ((Wk.gc [0, 1, 24, 25, 26] [] rfl pK0).to) ?_ ?_
    ·clear hr
     rintro m x_46 hr
     show CQ _ _ _ _ _ ⟨_, _⟩
     refine .seq (.r4 G [0, 1, 24, 25, 26] [(27, aB (decide (x_46 < (tracks.length : Int))))] (.seq ?_))
     refine .cd hr (fun hb67 hr => ?_) (fun hb67 hr => ?_)
     ·refine .skip (.seq (.block (.seq ?_)))
      obtain ⟨hg68, hr⟩ := gd hr
      refine .r0 G (.p0 (v := .pp (tracks.flatMap (slC api_Mark.c)) (x_46.toNat * 1)) (tr (ofP_guard hg68)) (.p0 (v := slT api_Mark.c (gt tracks x_46)) (tr (ofP_some (flat_get (slC_len api_Mark.c) (inR_lt hg68) (by decide : 0 < 1) (by omega : x_46.toNat * 1 = x_46.toNat * 1 + 0) (by kernel_rfl)))) (.mu 1 (.done (.nh [0, 1, 7, 24, 25, 26] [] (.seq (.r4 G [0, 1, 24, 25, 26] [(30, slT api_Mark.c (gt tracks x_46)), (31, aI64 ((gt tracks x_46).length : Int)), (32, aI64 0)] (.block ?_))))))))
      replace hr := bd hr; obtain ⟨o81, hL82, hr⟩ := hr
      refine .loopO (σ := fun z0 => match z0 with | x_69 => ⟨mkS 81 0 [(0, slT (slC api_Mark.c) tracks), (1, aI64 images), (24, slT (slC api_Mark.c) tracks), (25, aI64 (tracks.length : Int)), (26, aI64 x_46), (30, slT api_Mark.c (gt tracks x_46)), (31, aI64 ((gt tracks x_46).length : Int)), (32, aI64 x_69)], []⟩) (Q := fun x st' => match (generalizing := false) o81 with | .inl _ => x = .exit 2 ∧ Wk 0 st' ⟨mkS 81 0 [(0, slT (slC api_Mark.c) tracks), (1, aI64 images), (24, slT (slC api_Mark.c) tracks), (25, aI64 (tracks.length : Int)), (26, aI64 x_46)], []⟩ | .inr (r0) => x = .ret ∧ FinQ Try.prog [.tmp 4, .tmp 5] (.tup [slT (slC (iC .i64)) r0.1, aI64 r0.2]) .ret st') hL82 ((Wk.gc [0, 1, 24, 25, 26, 30, 31, 32] [] rfl pK0).to) ?_ ?_
      ·clear hr
       rintro m x_69 hr
       show CQ _ _ _ _ _ ⟨_, _⟩
       refine .seq (.r4 G [0, 1, 24, 25, 26, 30, 31, 32] [(33, aB (decide (x_69 < ((gt tracks x_46).length : Int))))] (.seq ?_))
       refine .cd hr (fun hb77 hr => ?_) (fun hb77 hr => ?_)
       ·refine .skip (.seq (.block (.seq ?_)))
        obtain ⟨hg78, hr⟩ := gd hr
        refine .r0 G (.p0 (v := .pp ((gt tracks x_46).flatMap api_Mark.c) (x_69.toNat * 2)) (tr (ofP_guard hg78)) (.p0 (v := .agg (api_Mark.c (gt (gt tracks x_46) x_69))) (Eq.trans (b := ORes.ofP (guardV (decide (2 ≤ (((gt tracks x_46).flatMap api_Mark.c).drop (x_69.toNat * 2)).length)) (.agg ((((gt tracks x_46).flatMap api_Mark.c).drop (x_69.toNat * 2)).take 2)))) (by kernel_rfl) (flat_load api_Mark.len (inR_lt hg78) (by decide) (by omega : x_69.toNat * 2 = x_69.toNat * 2 + 0) (by kernel_rfl))) (.mu 2 (.done (.nh [0, 1, 9, 24, 25, 26, 30, 31, 32] [.own (api_Mark.c (gt (gt tracks x_46) x_69))] (.seq ?_))))))
        rcases Bool.eq_false_or_eq_true (decide ((gt (gt tracks x_46) x_69).Image < 0)) with hb79 | hb79
        ·replace hr := cd_t hb79 hr
         refine .r0 G (.mu 2 (.p0 (v := aB true) (eB hb79) (.mu 6 (.done (.nh [0, 1, 24, 25, 26, 30, 31, 32, 44] [.own (api_Mark.c (gt (gt tracks x_46) x_69))] (.cT (by kernel_rfl) (.seq (.r3 G 81 [(4, nS), (5, aI64 2)] (.ret ?_)))))))))
         obtain rfl := oi hr
         exact ⟨rfl, FinQ.ret (vs := [nS, aI64 2]) (by kernel_rfl) (Sn.tup (SnL.cons Sn.nilsl (SnL.cons (Sn.pure rfl) SnL.nil)))⟩
        ·replace hr := cd_f hb79 hr
         refine .r0 G (.mu 2 (.p0 (v := aB false) (eB hb79) (.mu 6 (.done (.nh [0, 1, 24, 25, 26, 30, 31, 32, 44] [.own (api_Mark.c (gt (gt tracks x_46) x_69))] ?_)))))
         refine .cd hr (fun hb80 hr => ?_) (fun hb80 hr => ?_)
         ·refine .seq (.r3 G 81 [(4, nS), (5, aI64 2)] (.ret ?_))
          obtain rfl := oi hr
          exact ⟨rfl, FinQ.ret (vs := [nS, aI64 2]) (by kernel_rfl) (Sn.tup (SnL.cons Sn.nilsl (SnL.cons (Sn.pure rfl) SnL.nil)))⟩
         ·refine .skip (.pop (.ru G ?_))
          exact loopF_back (wrapF .i64 (x_69 + 1)) hr ((Wk.gc [0, 1, 24, 25, 26, 30, 31, 32] [] rfl pK0).to)
       ·refine .leave rfl ?_
        obtain rfl := oi hr
        exact ⟨rfl, ((Wk.gc [0, 1, 24, 25, 26] [] rfl pK0).to)⟩
      ·rcases o81 with ⟨⟩ | r0
       ·rintro x st' hq83
        clear hL82
        obtain ⟨rfl, hq83⟩ := hq83
        refine CQ_exit _ rfl (.pop (.wk hq83 (.ru G ?_)))
        exact loopF_back (wrapF .i64 (x_46 + 1)) hr ((Wk.gc [0, 1, 24, 25, 26] [] rfl pK0).to)
       ·rintro x st' hq83
        clear hL82
        obtain ⟨rfl, hq83⟩ := hq83
        obtain rfl := oi hr
        exact CQ_ret _ ⟨rfl, hq83⟩
     ·refine .leave rfl ?_
      obtain rfl := oi hr
      exact ⟨rfl, ((Wk.gc [0, 1] [] rfl pK0).to)⟩
    ·rcases o84 with ⟨⟩ | r0
     ·rintro x st' hq86
      clear hL85
      obtain ⟨rfl, hq86⟩ := hq86
      refine CQ_exit _ rfl (.wk hq86 (.seq ?_))
      obtain ⟨hg87, hg88, hg89, hr⟩ := gd3 hr
      refine .r0 G (.mu 1 (.e0 (v := .hs 0 0 images.toNat 1) (ws := [(0, .own (zerosA [nS] images.toNat))]) (Eq.trans (b := guardO (decide (0 ≤ images) && decide (images ≤ images) && decide ((24 : Int) * images ≤ 281474976710656) && decide (images ≤ 9223372036854775807) && true && true && true) (some (.eff (.hs 0 0 images.toNat 1) [(0, .own (zerosA [nS] images.toNat))]))) (by kernel_rfl) (make_z hg87 hg88 hg89)) (.mu 1 (.done (.nh [0, 1, 10] [.own (zerosA [nS] images.toNat)] (.wk ((Wk.mkT 0 (n := images.toNat) 1 (iC .i64)).to (c := ⟨mkS 81 0 [(0, slT (slC api_Mark.c) tracks), (1, aI64 images), (10, .hs 0 0 images.toNat 1)], [.rows (rws 1 (iC .i64) (List.replicate images.toNat ([] : List Int)))]⟩) (by kernel_rfl)) (.wk ((Wk.relen 10 (b := 0) (es := 1) (len := images.toNat) (List.replicate images.toNat ([] : List Int)).length (by kernel_rfl) (by simp)).to (c := ⟨mkS 81 0 [(0, slT (slC api_Mark.c) tracks), (1, aI64 images), (10, .hs 0 0 (List.replicate images.toNat ([] : List Int)).length 1)], [.rows (rws 1 (iC .i64) (List.replicate images.toNat ([] : List Int)))]⟩) (by kernel_rfl)) (.seq (.seq (.r4 G [0, 1, 10] [(50, aI64 ((List.replicate images.toNat ([] : List Int)).length : Int)), (51, aI64 0)] (.block ?_)))))))))))
      replace hr := bd hr; obtain ⟨out_116, hL143, hr⟩ := hr
      refine .loopO (σ := fun z0 => match z0 with | (out_90, x_91) => ⟨mkS 81 0 [(0, slT (slC api_Mark.c) tracks), (1, aI64 images), (10, .hs 0 0 out_90.length 1), (50, aI64 ((List.replicate images.toNat ([] : List Int)).length : Int)), (51, aI64 x_91)], [.rows (rws 1 (iC .i64) out_90)]⟩) (Q := fun x st' => x = .exit 4 ∧ Wk 0 st' ⟨mkS 81 0 [(10, .hs 0 0 out_116.length 1)], [.rows (rws 1 (iC .i64) out_116)]⟩) hL143 ((Wk.gc [0, 1, 10, 50, 51] [(0, false)] rfl (pKr 1 (iC .i64) (List.replicate images.toNat ([] : List Int)) trivial)).to) ?_ ?_
      ·clear hr
       rintro m ⟨out_90, x_91⟩ hr
       show CQ _ _ _ _ _ ⟨_, _⟩
       refine .seq (.r4 G [0, 1, 10, 50, 51] [(52, aB (decide (x_91 < ((List.replicate images.toNat ([] : List Int)).length : Int))))] (.seq ?_))
       refine .cd hr (fun hb119 hr => ?_) (fun hb119 hr => ?_)
       ·refine .skip (.seq (.block (.seq (.r4 G [0, 1, 10, 50, 51] [(11, aI64 x_91)] (.seq ?_)))))
        obtain ⟨hg120, hg121, hr⟩ := gd2 hr
        refine .r0 G (.mu 3 (.e0 (v := .hs 1 0 (List.replicate images.toNat ((0 : Int) : Int)).length 1) (ws := [(1, .own ((List.replicate images.toNat ((0 : Int) : Int)).flatMap (iC .i64)))]) (tr (make_own (c := (iC .i64)) (z := (0 : Int)) (n := images) (by_ := 8) rfl hg87 hg120 hg89)) (.p0 (v := .hp 0 (0 + x_91.toNat * 1)) (tr (ofP_guard hg121)) (.e0 (v := .unk) (ws := [(0, .rows ((rws 1 (iC .i64) out_90).set x_91.toNat (.av (.hs 1 0 (List.replicate images.toNat ((0 : Int) : Int)).length 1))))]) (Eq.trans (b := stO (decide (0 + x_91.toNat * 1 < (rws 1 (iC .i64) out_90).length) && true) [(0, .rows ((rws 1 (iC .i64) out_90).set (0 + x_91.toNat * 1) (.av (.hs 1 0 (List.replicate images.toNat ((0 : Int) : Int)).length 1))))]) (by kernel_rfl) (rst0 hg121 (by omega))) (.done (.nh [0, 1, 10, 11, 50, 51] [.rows ((rws 1 (iC .i64) out_90).set x_91.toNat (.av (.hs 1 0 (List.replicate images.toNat ((0 : Int) : Int)).length 1))), .own ((List.replicate images.toNat ((0 : Int) : Int)).flatMap (iC .i64))] (.wk ((Wk.closeT 0 1 (x := List.replicate images.toNat ((0 : Int) : Int)) (es := 1) (c := (iC .i64)) (e := out_90) (i := x_91) (len := (List.replicate images.toNat ((0 : Int) : Int)).length) (iC_pure _) hg121 rfl).to (c := ⟨mkS 81 0 [(0, slT (slC api_Mark.c) tracks), (1, aI64 images), (10, .hs 0 0 out_90.length 1), (11, aI64 x_91), (50, aI64 ((List.replicate images.toNat ([] : List Int)).length : Int)), (51, aI64 x_91)], [.rows (rws 1 (iC .i64) (out_90.set x_91.toNat (List.replicate images.toNat ((0 : Int) : Int)))), .dead]⟩) (by kernel_rfl)) (.seq ?_))))))))
        obtain ⟨hg122, hr⟩ := gd hr
        refine .wk ((Wk.openT 0 (es := 1) (c := (iC .i64)) (e := out_90.set x_91.toNat (List.replicate images.toNat ((0 : Int) : Int))) hg122).to (c := ⟨mkS 81 0 [(0, slT (slC api_Mark.c) tracks), (1, aI64 images), (10, .hs 0 0 out_90.length 1), (11, aI64 x_91), (50, aI64 ((List.replicate images.toNat ([] : List Int)).length : Int)), (51, aI64 x_91)], [.rows ((rws 1 (iC .i64) (out_90.set x_91.toNat (List.replicate images.toNat ((0 : Int) : Int)))).set x_91.toNat (.av (.hs 2 0 (gt (out_90.set x_91.toNat (List.replicate images.toNat ((0 : Int) : Int))) x_91).length 1))), .dead, .own ((gt (out_90.set x_91.toNat (List.replicate images.toNat ((0 : Int) : Int))) x_91).flatMap (iC .i64))]⟩) (by kernel_rfl)) (.r0 G (.mu 2 (.p0 (v := .hp 0 (0 + x_91.toNat * 1)) (tr (ofP_guard hg121)) (.p0 (v := .hs 2 0 (gt (out_90.set x_91.toNat (List.replicate images.toNat ((0 : Int) : Int))) x_91).length 1) (Eq.trans (b := ORes.ofP (rcAt ((rws 1 (iC .i64) (out_90.set x_91.toNat (List.replicate images.toNat ((0 : Int) : Int)))).set x_91.toNat (.av (.hs 2 0 (gt (out_90.set x_91.toNat (List.replicate images.toNat ((0 : Int) : Int))) x_91).length 1)))[0 + x_91.toNat * 1]?)) (by kernel_rfl) (rld hg122 (by omega))) (.mu 2 (.done (.nh [0, 1, 10, 11, 50, 51, 63, 64] [.rows ((rws 1 (iC .i64) (out_90.set x_91.toNat (List.replicate images.toNat ((0 : Int) : Int)))).set x_91.toNat (.av (.hs 2 0 (gt (out_90.set x_91.toNat (List.replicate images.toNat ((0 : Int) : Int))) x_91).length 1))), .dead, .own ((gt (out_90.set x_91.toNat (List.replicate images.toNat ((0 : Int) : Int))) x_91).flatMap (iC .i64))] (.wk ((Wk.closeT 0 2 (x := gt (out_90.set x_91.toNat (List.replicate images.toNat ((0 : Int) : Int))) x_91) (es := 1) (c := (iC .i64)) (e := out_90.set x_91.toNat (List.replicate images.toNat ((0 : Int) : Int))) (i := x_91) (len := (gt (out_90.set x_91.toNat (List.replicate images.toNat ((0 : Int) : Int))) x_91).length) (iC_pure _) hg122 rfl).to (c := ⟨mkS 81 0 [(0, slT (slC api_Mark.c) tracks), (1, aI64 images), (10, .hs 0 0 out_90.length 1), (11, aI64 x_91), (50, aI64 ((List.replicate images.toNat ([] : List Int)).length : Int)), (51, aI64 x_91), (63, aI64 ((gt (out_90.set x_91.toNat (List.replicate images.toNat ((0 : Int) : Int))) x_91).length : Int)), (64, aI64 0)], [.rows (rws 1 (iC .i64) ((out_90.set x_91.toNat (List.replicate images.toNat ((0 : Int) : Int))).set x_91.toNat (gt (out_90.set x_91.toNat (List.replicate images.toNat ((0 : Int) : Int))) x_91))), .dead, .dead]⟩) (by kernel_rfl)) (.block ?_)))))))))
        replace hr := bd hr; obtain ⟨out_131, hL140, hr⟩ := hr
        refine .loopO (σ := fun z0 => match z0 with | (out_123, x_124) => ⟨mkS 81 0 [(0, slT (slC api_Mark.c) tracks), (1, aI64 images), (10, .hs 0 0 out_123.length 1), (11, aI64 x_91), (50, aI64 ((List.replicate images.toNat ([] : List Int)).length : Int)), (51, aI64 x_91), (63, aI64 ((gt (out_90.set x_91.toNat (List.replicate images.toNat ((0 : Int) : Int))) x_91).length : Int)), (64, aI64 x_124)], [.rows (rws 1 (iC .i64) out_123)]⟩) (Q := fun x st' => x = .exit 6 ∧ Wk 0 st' ⟨mkS 81 0 [(0, slT (slC api_Mark.c) tracks), (1, aI64 images), (10, .hs 0 0 out_131.length 1), (50, aI64 ((List.replicate images.toNat ([] : List Int)).length : Int)), (51, aI64 x_91)], [.rows (rws 1 (iC .i64) out_131)]⟩) hL140 ((Wk.relen 10 (b := 0) (es := 1) (len := out_90.length) ((out_90.set x_91.toNat (List.replicate images.toNat ((0 : Int) : Int))).set x_91.toNat (gt (out_90.set x_91.toNat (List.replicate images.toNat ((0 : Int) : Int))) x_91)).length (by kernel_rfl) (Eq.symm (List.length_set.trans (List.length_set.trans rfl)))).trans ((Wk.gc [0, 1, 10, 11, 50, 51, 63, 64] [(0, false)] rfl (pKr 1 (iC .i64) ((out_90.set x_91.toNat (List.replicate images.toNat ((0 : Int) : Int))).set x_91.toNat (gt (out_90.set x_91.toNat (List.replicate images.toNat ((0 : Int) : Int))) x_91)) trivial)).to)) ?_ ?_
        ·clear hr
         rintro m ⟨out_123, x_124⟩ hr
         show CQ _ _ _ _ _ ⟨_, _⟩
         refine .seq (.r4 G [0, 1, 10, 11, 50, 51, 63, 64] [(65, aB (decide (x_124 < ((gt (out_90.set x_91.toNat (List.replicate images.toNat ((0 : Int) : Int))) x_91).length : Int))))] (.seq ?_))
         refine .cd hr (fun hb134 hr => ?_) (fun hb134 hr => ?_)
         ·refine .skip (.seq (.block (.seq (.r4 G [0, 1, 10, 11, 50, 51, 63, 64] [(12, aI64 x_124)] ?_))))
          obtain ⟨hg135, hr⟩ := gd hr
          refine .wk ((Wk.openT 0 (es := 1) (c := (iC .i64)) (e := out_123) hg135).to (c := ⟨mkS 81 0 [(0, slT (slC api_Mark.c) tracks), (1, aI64 images), (10, .hs 0 0 out_123.length 1), (11, aI64 x_91), (12, aI64 x_124), (50, aI64 ((List.replicate images.toNat ([] : List Int)).length : Int)), (51, aI64 x_91), (63, aI64 ((gt (out_90.set x_91.toNat (List.replicate images.toNat ((0 : Int) : Int))) x_91).length : Int)), (64, aI64 x_124)], [.rows ((rws 1 (iC .i64) out_123).set x_91.toNat (.av (.hs 1 0 (gt out_123 x_91).length 1))), .own ((gt out_123 x_91).flatMap (iC .i64))]⟩) (by kernel_rfl)) ?_
          obtain ⟨v136, hc137, hr⟩ := bd hr
          obtain ⟨hg138, hr⟩ := gd hr
          refine .t1 G (ok0 (track_Common_ok n tracks x_91 x_124 v136 hc137)) (.mu 2 (.pure (v := .hp 0 (0 + x_91.toNat * 1)) (by kernel_rfl) (tr (ofP_guard hg135)) (by kernel_rfl) (.pure (v := .hs 1 0 (gt out_123 x_91).length 1) (by kernel_rfl) (Eq.trans (b := ORes.ofP (rcAt ((rws 1 (iC .i64) out_123).set x_91.toNat (.av (.hs 1 0 (gt out_123 x_91).length 1)))[0 + x_91.toNat * 1]?)) (by kernel_rfl) (rld hg135 (by omega))) (by kernel_rfl) (.mu 4 (.ca cf0 (.mu 1 (.pure (v := .hp 1 (0 + x_124.toNat * 1)) (by kernel_rfl) (tr (ofP_guard hg138)) (by kernel_rfl) (.eff (v := .unk) (ws := [(1, .own (((gt out_123 x_91).set x_124.toNat (v136.length : Int)).flatMap (iC .i64)))]) (by kernel_rfl) (tr (stO_t (and_t (flat_fits (n := 1) (iC_len .i64) (inR_lt hg138) (Nat.le_of_ble_eq_true rfl) (by omega : 0 + x_124.toNat * 1 = x_124.toNat * 1 + 0))) (congrArg Blk.own (flat_set (xs := [aI64 (v136.length : Int)]) (iC_len .i64) (inR_lt hg138) (Nat.le_of_ble_eq_true rfl) (by omega : 0 + x_124.toNat * 1 = x_124.toNat * 1 + 0) (by kernel_rfl))))) (by kernel_rfl) ?_))))))))
          refine .done ⟨by kernel_rfl, ?_⟩
          refine .pop (.ru G ?_)
          exact loopF_back (out_123.set x_91.toNat ((gt out_123 x_91).set x_124.toNat (v136.length : Int)), wrapF .i64 (x_124 + 1)) hr ((Wk.closeT 0 1 (x := (gt out_123 x_91).set x_124.toNat (v136.length : Int)) (es := 1) (c := (iC .i64)) (e := out_123) (i := x_91) (len := (gt out_123 x_91).length) (iC_pure _) hg135 (List.length_set.trans rfl)).trans ((Wk.relen 10 (b := 0) (es := 1) (len := out_123.length) (out_123.set x_91.toNat ((gt out_123 x_91).set x_124.toNat (v136.length : Int))).length (by kernel_rfl) (Eq.symm (List.length_set.trans rfl))).trans ((Wk.gc [0, 1, 10, 11, 50, 51, 63, 64] [(0, false)] rfl (pKr 1 (iC .i64) (out_123.set x_91.toNat ((gt out_123 x_91).set x_124.toNat (v136.length : Int))) trivial)).to)))
         ·refine .leave rfl ?_
          obtain rfl := oi hr
          exact ⟨rfl, ((Wk.gc [0, 1, 10, 50, 51] [(0, false)] rfl (pKr 1 (iC .i64) out_123 trivial)).to)⟩
        ·rintro x st' hq141
         clear hL140
         obtain ⟨rfl, hq141⟩ := hq141
         refine CQ_exit _ rfl (.pop (.wk hq141 (.ru G ?_)))
         exact loopF_back (out_131, wrapF .i64 (x_91 + 1)) hr ((Wk.gc [0, 1, 10, 50, 51] [(0, false)] rfl (pKr 1 (iC .i64) out_131 trivial)).to)
       ·refine .leave rfl ?_
        obtain rfl := oi hr
        exact ⟨rfl, ((Wk.gc [10] [(0, false)] rfl (pKr 1 (iC .i64) out_90 trivial)).to)⟩
      ·rintro x st' hq144
       clear hL143
       obtain ⟨rfl, hq144⟩ := hq144
       refine CQ_exit _ rfl (.wk hq144 (.seq (.r3 G 81 [(4, .hs 0 0 out_116.length 1), (5, aI64 0)] (.ret ?_))))
       obtain rfl := oi hr
       exact FinQ.ret (vs := [.hs 0 0 out_116.length 1, aI64 0]) (by kernel_rfl) (Sn.tup (SnL.cons (Sn.rw (es := 1) (c := (iC .i64)) (e := out_116)) (SnL.cons (Sn.pure rfl) SnL.nil)))
     ·rintro x st' hq86
      clear hL85
      obtain ⟨rfl, hq86⟩ := hq86
      obtain rfl := oi hr
      exact CQ_ret _ hq86

theorem fiduciallaw26_TrackCovers_1_ok (n : Nat) (x' : api_Mark) (p : Int) (r : Bool) (hr : fiduciallaw26_TrackCovers_1 n x' p = some r) : FnOk Try.prog 44 [.agg (api_Mark.c x'), .pp [aI64 p] 0] (aB r) := by
 unfold fiduciallaw26_TrackCovers_1 at hr
 refine FnOk.bd G Try.func44 [.tmp 3] ?_
 unfold Try.f44
 simp only [Option.getD_some]
 refine .seq (.r5 G [1] [(2, .hp 0 0)] [.own (api_Mark.c x')] (.seq ?_))
 rcases Bool.eq_false_or_eq_true (decide (x'.Image < 0)) with hb1 | hb1
 ·replace hr := cd_t hb1 hr
  refine .r0 G (.mu 2 (.p0 (v := aB true) (eB hb1) (.mu 7 (.done (.ret ?_)))))
  obtain rfl := oi hr
  exact FinQ.r1 [aB true]
 ·replace hr := cd_f hb1 hr
  refine .r0 G (.mu 2 (.p0 (v := aB false) (eB hb1) (.mu 7 (.done (.ret ?_)))))
  obtain rfl := oi hr
  exact FinQ.r1 [aB (decide (x'.Image ≥ p))]

theorem slices_IndexFunc_fiducial_api_Mark_fiducial_api_Mark_of_fiduciallaw26_TrackCovers_1_ok (n : Nat) (s : List api_Mark) (c : Int) (r : Int) (hr : slices_IndexFunc_fiducial_api_Mark_fiducial_api_Mark_of_fiduciallaw26_TrackCovers_1 n s c = some r) : FnOk Try.prog 55 [slT api_Mark.c s, .fn 44 [] [.pp [aI64 c] 0]] (aI64 r) := by
 unfold slices_IndexFunc_fiducial_api_Mark_fiducial_api_Mark_of_fiduciallaw26_TrackCovers_1 at hr
 refine FnOk.bd G Try.func55 [.tmp 4] ?_
 unfold Try.f55
 simp only [Option.getD_some]
 refine .seq (.r4 G [0, 1] [] (.seq (.seq (.r4 G [0, 1] [(7, aI64 (s.length : Int)), (8, aI64 0)] (.block ?_)))))
 replace hr := bd hr; obtain ⟨o13, hL14, hr⟩ := hr
 refine .loopO (σ := fun z0 => match z0 with | x_1 => ⟨mkS 19 0 [(0, slT api_Mark.c s), (1, .fn 44 [] [.pp [aI64 c] 0]), (7, aI64 (s.length : Int)), (8, aI64 x_1)], []⟩) (Q := fun x st' => match (generalizing := false) o13 with | .inl _ => x = .exit 0 ∧ Wk 0 st' ⟨mkS 19 0 [], []⟩ | .inr (r0) => x = .ret ∧ FinQ Try.prog [.tmp 4] (aI64 r0) .ret st') hL14 ((Wk.gc [0, 1, 7, 8] [] rfl pK0).to) ?_ ?_
 ·clear hr
  rintro m x_1 hr
  show CQ _ _ _ _ _ ⟨_, _⟩
  refine .seq (.r4 G [0, 1, 7, 8] [(9, aB (decide (x_1 < (s.length : Int))))] (.seq ?_))
  refine .cd hr (fun hb8 hr => ?_) (fun hb8 hr => ?_)
  ·refine .skip (.seq (.block (.seq (.r4 G [0, 1, 7, 8] [(5, aI64 x_1)] (.seq ?_)))))
   obtain ⟨hg9, hr⟩ := gd hr
   obtain ⟨v10, hc11, hr⟩ := bd hr
   refine .g1 G (ok0 (fiduciallaw26_TrackCovers_1_ok n (gt s x_1) c v10 hc11)) (.mu 3 (.p0 (v := .pp (s.flatMap api_Mark.c) (x_1.toNat * 2)) (tr (ofP_guard hg9)) (.p0 (v := .agg (api_Mark.c (gt s x_1))) (Eq.trans (b := ORes.ofP (guardV (decide (2 ≤ ((s.flatMap api_Mark.c).drop (x_1.toNat * 2)).length)) (.agg (((s.flatMap api_Mark.c).drop (x_1.toNat * 2)).take 2)))) (by kernel_rfl) (flat_load api_Mark.len (inR_lt hg9) (by decide) (by omega : x_1.toNat * 2 = x_1.toNat * 2 + 0) (by kernel_rfl))) (.ca cf0 (.done (.nh [0, 1, 5, 7, 8, 16] [] ?_))))))
   refine .cd hr (fun hb12 hr => ?_) (fun hb12 hr => ?_)
   ·refine .seq (.ru G (.ret ?_))
    obtain rfl := oi hr
    exact ⟨rfl, FinQ.ret (vs := [aI64 x_1]) (by kernel_rfl) (Sn.pure rfl)⟩
   ·refine .skip (.pop (.ru G ?_))
    exact loopF_back (wrapF .i64 (x_1 + 1)) hr ((Wk.gc [0, 1, 7, 8] [] rfl pK0).to)
  ·refine .leave rfl ?_
   obtain rfl := oi hr
   exact ⟨rfl, ((Wk.gc [] [] rfl pK0).to)⟩
 ·rcases o13 with ⟨⟩ | r0
  ·rintro x st' hq15
   clear hL14
   obtain ⟨rfl, hq15⟩ := hq15
   refine CQ_exit _ rfl (.wk hq15 (.seq (.ru G (.ret ?_))))
   obtain rfl := oi hr
   exact FinQ.r1 [aI64 (-1)]
  ·rintro x st' hq15
   clear hL14
   obtain ⟨rfl, hq15⟩ := hq15
   obtain rfl := oi hr
   exact CQ_ret _ hq15

theorem slices_ContainsFunc_fiducial_api_Mark_fiducial_api_Mark_of_fiduciallaw26_TrackCovers_1_ok (n : Nat) (s : List api_Mark) (c : Int) (r : Bool) (hr : slices_ContainsFunc_fiducial_api_Mark_fiducial_api_Mark_of_fiduciallaw26_TrackCovers_1 n s c = some r) : FnOk Try.prog 24 [slT api_Mark.c s, .fn 44 [] [.pp [aI64 c] 0]] (aB r) := by
 unfold slices_ContainsFunc_fiducial_api_Mark_fiducial_api_Mark_of_fiduciallaw26_TrackCovers_1 at hr
 refine FnOk.bd G Try.func24 [.tmp 4] ?_
 unfold Try.f24
 simp only [Option.getD_some]
 refine .seq (.r4 G [0, 1] [] (.seq ?_))
 obtain ⟨v1, hc2, hr⟩ := bd hr
 refine .g1 G (callOk_val (args := [slT api_Mark.c s, .fn 44 [] [.pp [aI64 c] 0]]) (l := []) rfl (SnL.cons (Sn.pure rfl) (SnL.cons (Sn.fn SnL.nil (SnL.cons (Sn.pure rfl) SnL.nil)) SnL.nil)) (slices_IndexFunc_fiducial_api_Mark_fiducial_api_Mark_of_fiduciallaw26_TrackCovers_1_ok n s c v1 hc2)) (.mu 2 (.ca cf0 (.mu 2 (.done (.ret ?_)))))
 obtain rfl := oi hr
 exact FinQ.r1 [aB (decide (v1 ≥ 0))]

theorem fiduciallaw26_images_inj {l : List api_Mark} {l_ : List api_Mark} (h : ([slT api_Mark.c l] : List AV) = [slT api_Mark.c l_]) : l = l_ := by
 simp only [List.cons.injEq, AV.agg.injEq, AV.at.injEq, Value.int.injEq, Value.bool.injEq, AV.fn.injEq, AV.pp.injEq, true_and, and_true, (slT_inj api_Mark.len (by decide) api_Mark.inj)] at h
 simp_all
theorem fiduciallaw26_images_cg (n : Nat) {l : List api_Mark} {l_ : List api_Mark} (h : ([slT api_Mark.c l] : List AV) = [slT api_Mark.c l_]) : fiduciallaw26_images n l = fiduciallaw26_images n l_ := by
 obtain rfl := fiduciallaw26_images_inj h
 rfl
theorem fiduciallaw26_images_ok (n : Nat) (l : List api_Mark) (r : List Int) (hr : fiduciallaw26_images n l = some r) : FnOk Try.prog 34 [slT api_Mark.c l] (sI64 r) := by
 unfold fiduciallaw26_images at hr
 refine FnOk.bd G Try.func34 [.tmp 2] ?_
 unfold Try.f34
 simp only [Option.getD_some]
 refine .seq (.r4 G [0] [] (.seq (.r4 G [0] [(3, nS)] (.seq (.seq (.r4 G [3] [(6, slT api_Mark.c l), (7, aI64 (l.length : Int)), (8, aI64 0)] (.block ?_)))))))
 replace hr := bd hr; obtain ⟨out_8, hL16, hr⟩ := hr
 refine .loopO (σ := fun z0 => match z0 with | (out_1, x_2) => ⟨mkS 19 0 [(3, .hs 0 0 out_1.length 1), (6, slT api_Mark.c l), (7, aI64 (l.length : Int)), (8, aI64 x_2)], [.own (out_1.flatMap (iC .i64))]⟩) (Q := fun x st' => x = .exit 0 ∧ Wk 0 st' ⟨mkS 19 0 [(3, .hs 0 0 out_8.length 1)], [.own (out_8.flatMap (iC .i64))]⟩) hL16 ((Wk.nil 3 1 (by kernel_rfl)).trans ((Wk.gc [3, 6, 7, 8] [(0, false)] rfl (pKc trivial)).to)) ?_ ?_
 ·clear hr
  rintro m ⟨out_1, x_2⟩ hr
  show CQ _ _ _ _ _ ⟨_, _⟩
  refine .seq (.r4 G [3, 6, 7, 8] [(9, aB (decide (x_2 < (l.length : Int))))] (.seq ?_))
  refine .cd hr (fun hb11 hr => ?_) (fun hb11 hr => ?_)
  ·refine .skip (.seq (.block (.seq ?_)))
   obtain ⟨hg12, hr⟩ := gd hr
   refine .r0 G (.p0 (v := .pp (l.flatMap api_Mark.c) (x_2.toNat * 2)) (tr (ofP_guard hg12)) (.p0 (v := .agg (api_Mark.c (gt l x_2))) (Eq.trans (b := ORes.ofP (guardV (decide (2 ≤ ((l.flatMap api_Mark.c).drop (x_2.toNat * 2)).length)) (.agg (((l.flatMap api_Mark.c).drop (x_2.toNat * 2)).take 2)))) (by kernel_rfl) (flat_load api_Mark.len (inR_lt hg12) (by decide) (by omega : x_2.toNat * 2 = x_2.toNat * 2 + 0) (by kernel_rfl))) (.mu 2 (.done (.nh [3, 5, 6, 7, 8] [.own (out_1.flatMap (iC .i64)), .own (api_Mark.c (gt l x_2))] ?_)))))
   obtain ⟨hg13, hg14, hr⟩ := gd2 hr
   refine .r0 G (.mu 4 (.e0 (v := .hs 3 0 (out_1 ++ [(gt l x_2).Image]).length 1) (ws := [(0, .dead), (3, .own ((out_1 ++ [(gt l x_2).Image]).flatMap (iC .i64)))]) (tr (app_own (new := [aI64 (gt l x_2).Image]) (l := out_1) (xs := [(gt l x_2).Image]) (iC_len .i64) rfl rfl (by kernel_rfl) hg13 hg14)) (.mu 1 (.done (.pop (.ru G ?_))))))
   exact loopF_back (out_1 ++ [(gt l x_2).Image], wrapF .i64 (x_2 + 1)) hr ((Wk.gc [3, 6, 7, 8] [(3, false)] rfl (pKo (iC .i64) (iC_pure _) (out_1 ++ [(gt l x_2).Image]) trivial)).to)
  ·refine .leave rfl ?_
   obtain rfl := oi hr
   exact ⟨rfl, ((Wk.gc [3] [(0, false)] rfl (pKo (iC .i64) (iC_pure _) out_1 trivial)).to)⟩
 ·rintro x st' hq17
  clear hL16
  obtain ⟨rfl, hq17⟩ := hq17
  refine CQ_exit _ rfl (.wk hq17 (.seq (.r3 G 19 [(2, .hs 0 0 out_8.length 1)] (.ret ?_))))
  obtain rfl := oi hr
  exact FinQ.ret (vs := [.hs 0 0 out_8.length 1]) (by kernel_rfl) (Sn.hs rfl (.inl rfl) (SnC.pure (ids_flat (iC_pure _) _)) (fun h => flat_nil0 h))

theorem slices_Index_int_int_ok (n : Nat) (s : List Int) (v : Int) (r : Int) (hr : slices_Index_int_int n s v = some r) : FnOk Try.prog 64 [sI64 s, aI64 v] (aI64 r) := by
 unfold slices_Index_int_int at hr
 refine FnOk.bd G Try.func64 [.tmp 4] ?_
 unfold Try.f64
 simp only [Option.getD_some]
 refine .seq (.r4 G [0, 1] [] (.seq (.seq (.r4 G [0, 1] [(7, aI64 (s.length : Int)), (8, aI64 0)] (.block ?_)))))
 replace hr := bd hr; obtain ⟨o9, hL10, hr⟩ := hr
 refine .loopO (σ := fun z0 => match z0 with | x_1 => ⟨mkS 19 0 [(0, sI64 s), (1, aI64 v), (7, aI64 (s.length : Int)), (8, aI64 x_1)], []⟩) (Q := fun x st' => match (generalizing := false) o9 with | .inl _ => x = .exit 0 ∧ Wk 0 st' ⟨mkS 19 0 [], []⟩ | .inr (r0) => x = .ret ∧ FinQ Try.prog [.tmp 4] (aI64 r0) .ret st') hL10 ((Wk.gc [0, 1, 7, 8] [] rfl pK0).to) ?_ ?_
 ·clear hr
  rintro m x_1 hr
  show CQ _ _ _ _ _ ⟨_, _⟩
  refine .seq (.r4 G [0, 1, 7, 8] [(9, aB (decide (x_1 < (s.length : Int))))] (.seq ?_))
  refine .cd hr (fun hb6 hr => ?_) (fun hb6 hr => ?_)
  ·refine .skip (.seq (.block (.seq (.r4 G [0, 1, 7, 8] [(5, aI64 x_1)] (.seq ?_)))))
   obtain ⟨hg7, hr⟩ := gd hr
   refine .r0 G (.mu 3 (.p0 (v := .pp (s.flatMap (iC .i64)) (x_1.toNat * 1)) (tr (ofP_guard hg7)) (.p0 (v := aI64 (gt s x_1)) (tr (ofP_some (flat_get (iC_len .i64) (inR_lt hg7) (by decide : 0 < 1) (by omega : x_1.toNat * 1 = x_1.toNat * 1 + 0) (by kernel_rfl)))) (.mu 1 (.done (.nh [0, 1, 5, 7, 8, 16] [] ?_))))))
   refine .cd hr (fun hb8 hr => ?_) (fun hb8 hr => ?_)
   ·refine .seq (.ru G (.ret ?_))
    obtain rfl := oi hr
    exact ⟨rfl, FinQ.ret (vs := [aI64 x_1]) (by kernel_rfl) (Sn.pure rfl)⟩
   ·refine .skip (.pop (.ru G ?_))
    exact loopF_back (wrapF .i64 (x_1 + 1)) hr ((Wk.gc [0, 1, 7, 8] [] rfl pK0).to)
  ·refine .leave rfl ?_
   obtain rfl := oi hr
   exact ⟨rfl, ((Wk.gc [] [] rfl pK0).to)⟩
 ·rcases o9 with ⟨⟩ | r0
  ·rintro x st' hq11
   clear hL10
   obtain ⟨rfl, hq11⟩ := hq11
   refine CQ_exit _ rfl (.wk hq11 (.seq (.ru G (.ret ?_))))
   obtain rfl := oi hr
   exact FinQ.r1 [aI64 (-1)]
  ·rintro x st' hq11
   clear hL10
   obtain ⟨rfl, hq11⟩ := hq11
   obtain rfl := oi hr
   exact CQ_ret _ hq11

theorem slices_Contains_int_int_inj {s : List Int} {v : Int} {s_ : List Int} {v_ : Int} (h : ([slT (iC .i64) s, .at (.int .i64 v)] : List AV) = [slT (iC .i64) s_, .at (.int .i64 v_)]) : s = s_ ∧ v = v_ := by
 simp only [List.cons.injEq, AV.agg.injEq, AV.at.injEq, Value.int.injEq, Value.bool.injEq, AV.fn.injEq, AV.pp.injEq, true_and, and_true, slT_inj_int] at h
 simp_all
theorem slices_Contains_int_int_cg (n : Nat) {s : List Int} {v : Int} {s_ : List Int} {v_ : Int} (h : ([slT (iC .i64) s, .at (.int .i64 v)] : List AV) = [slT (iC .i64) s_, .at (.int .i64 v_)]) : slices_Contains_int_int n s v = slices_Contains_int_int n s_ v_ := by
 obtain ⟨rfl, rfl⟩ := slices_Contains_int_int_inj h
 rfl
theorem slices_Contains_int_int_ok (n : Nat) (s : List Int) (v : Int) (r : Bool) (hr : slices_Contains_int_int n s v = some r) : FnOk Try.prog 33 [sI64 s, aI64 v] (aB r) := by
 unfold slices_Contains_int_int at hr
 refine FnOk.bd G Try.func33 [.tmp 4] ?_
 unfold Try.f33
 simp only [Option.getD_some]
 refine .seq (.r4 G [0, 1] [] (.seq ?_))
 obtain ⟨v1, hc2, hr⟩ := bd hr
 refine .g1 G (ok0 (slices_Index_int_int_ok n s v v1 hc2)) (.mu 2 (.ca cf0 (.mu 2 (.done (.ret ?_)))))
 obtain rfl := oi hr
 exact FinQ.r1 [aB (decide (v1 ≥ 0))]

theorem fiduciallaw26_TrackCovers_ok (n : Nat) (tracks : List (List api_Mark)) (n' : Int) (r : Bool) (hr : fiduciallaw26_TrackCovers n tracks n' = some r) : FnOk Try.prog 10 [slT (slC api_Mark.c) tracks, aI64 n'] (aB r) := by
 unfold fiduciallaw26_TrackCovers at hr
 refine FnOk.bd G Try.func10 [.tmp 4] ?_
 unfold Try.f10
 simp only [Option.getD_some]
 refine .seq (.r5 G [0] [(3, .hp 0 0)] [.own [aI64 n']] (.seq (.seq ?_)))
 obtain ⟨v1, hc2, hr⟩ := bd hr
 refine .g1 G (ok0 (fiduciallaw26_known_ok n v1 hc2)) (.ca cf0 (.mu 1 (.done (.nh [0, 3, 16] [.own [aI64 n']] ?_))))
 refine .cd hr (fun hb4 hr => ?_) (fun hb4 hr => ?_)
 ·refine .seq (.ru G (.ret ?_))
  obtain rfl := oi hr
  exact FinQ.r1 [aB false]
 ·refine .skip (.seq (.seq ?_))
  obtain ⟨v5, hc6, hr⟩ := bd hr
  refine .g1 G (ok0 (fiduciallaw26_short_ok n tracks v5 hc6)) (.mu 1 (.ca cf0 (.mu 1 (.done (.nh [0, 3, 19] [.own [aI64 n']] ?_)))))
  refine .cd hr (fun hb8 hr => ?_) (fun hb8 hr => ?_)
  ·refine .seq (.ru G (.ret ?_))
   obtain rfl := oi hr
   exact FinQ.r1 [aB true]
  ·refine .skip (.seq ?_)
   obtain ⟨v9, hc10, hr⟩ := bd hr
   refine .g1 G (ok0 (track_Cover_ok n tracks n' v9 hc10)) (.mu 2 (.ca cf0 (.mu 5 (.done (.nh [0, 3, 5, 6] [.own [aI64 n']] (.seq (.r4 G [0, 3, 5, 6] [(7, aI64 0)] (.seq (.seq ?_)))))))))
   replace hr := bd hr; obtain ⟨want_11, hL33, hr⟩ := hr
   refine .app2 (Q := fun x st' => x = .normal ∧ Wk 0 st' ⟨mkS 110 0 [(0, slT (slC api_Mark.c) tracks), (3, .hp 0 0), (5, slT (slC (iC .i64)) v9.1), (6, aI64 v9.2), (7, aI64 want_11)], [.own [aI64 n']]⟩) ?_ ?_
   ·clear hr
    have hr := hL33
    clear hL33
    rcases Bool.eq_false_or_eq_true (decide (n' < 1)) with hb12 | hb12
    ·replace hr := cd_t hb12 hr
     refine .r0 G (.mu 1 (.p0 (v := aB true) (eB hb12) (.mu 9 (.done (.nh [0, 3, 5, 6, 7, 36] [.own [aI64 n']] (.cT (by kernel_rfl) (.ru G ?_)))))))
     obtain rfl := oi hr
     exact ⟨rfl, ((Wk.gc [0, 3, 5, 6, 7] [(0, true)] rfl trivial).to)⟩
    ·replace hr := cd_f hb12 hr
     rcases Bool.eq_false_or_eq_true (decide (n' > 64)) with hb13 | hb13
     ·replace hr := cd_t hb13 hr
      refine .r0 G (.mu 1 (.p0 (v := aB false) (eB hb12) (.mu 2 (.pure (v := aB true) (by kernel_rfl) (eB hb13) (.mu 6 (.done (.nh [0, 3, 5, 6, 7, 36] [.own [aI64 n']] (.cT (by kernel_rfl) (.ru G ?_)))))))))
      obtain rfl := oi hr
      exact ⟨rfl, ((Wk.gc [0, 3, 5, 6, 7] [(0, true)] rfl trivial).to)⟩
     ·replace hr := cd_f hb13 hr
      refine .r0 G (.mu 1 (.p0 (v := aB false) (eB hb12) (.mu 2 (.pure (v := aB false) (by kernel_rfl) (eB hb13) (.mu 6 (.done (.nh [0, 3, 5, 6, 7, 36] [.own [aI64 n']] ?_)))))))
      refine .cd hr (fun hb14 hr => ?_) (fun hb14 hr => ?_)
      ·refine .ru G ?_
       obtain rfl := oi hr
       exact ⟨rfl, ((Wk.gc [0, 3, 5, 6, 7] [(0, true)] rfl trivial).to)⟩
      ·refine .seq (.r4 G [0, 3, 5, 6, 7] [(37, slT (slC api_Mark.c) tracks), (38, aI64 (tracks.length : Int)), (39, aI64 0)] (.block ?_))
       replace hr := bd hr; obtain ⟨want_22, hL30, hr⟩ := hr
       refine .loopO (σ := fun z0 => match z0 with | (want_15, x_16) => ⟨mkS 110 0 [(0, slT (slC api_Mark.c) tracks), (3, .hp 0 0), (5, slT (slC (iC .i64)) v9.1), (6, aI64 v9.2), (7, aI64 want_15), (37, slT (slC api_Mark.c) tracks), (38, aI64 (tracks.length : Int)), (39, aI64 x_16)], [.own [aI64 n']]⟩) (Q := fun x st' => x = .exit 0 ∧ Wk 0 st' ⟨mkS 110 0 [(0, slT (slC api_Mark.c) tracks), (3, .hp 0 0), (5, slT (slC (iC .i64)) v9.1), (6, aI64 v9.2), (7, aI64 want_22)], [.own [aI64 n']]⟩) hL30 ((Wk.gc [0, 3, 5, 6, 7, 37, 38, 39] [(0, true)] rfl trivial).to) ?_ ?_
       ·clear hr
        rintro m ⟨want_15, x_16⟩ hr
        show CQ _ _ _ _ _ ⟨_, _⟩
        refine .seq (.r4 G [0, 3, 5, 6, 7, 37, 38, 39] [(40, aB (decide (x_16 < (tracks.length : Int))))] (.seq ?_))
        refine .cd hr (fun hb24 hr => ?_) (fun hb24 hr => ?_)
        ·refine .skip (.seq (.block (.seq ?_)))
         obtain ⟨hg25, hr⟩ := gd hr
         refine .r0 G (.p0 (v := .pp (tracks.flatMap (slC api_Mark.c)) (x_16.toNat * 1)) (tr (ofP_guard hg25)) (.p0 (v := slT api_Mark.c (gt tracks x_16)) (tr (ofP_some (flat_get (slC_len api_Mark.c) (inR_lt hg25) (by decide : 0 < 1) (by omega : x_16.toNat * 1 = x_16.toNat * 1 + 0) (by kernel_rfl)))) (.mu 1 (.done (.nh [0, 3, 5, 6, 7, 9, 37, 38, 39] [.own [aI64 n']] (.seq ?_))))))
         obtain ⟨v26, hc27, hr⟩ := bd hr
         refine .g1 G (callOk_val (args := [slT api_Mark.c (gt tracks x_16), .fn 44 [] [.hp 0 0]]) (l := [0]) rfl (SnL.cons (Sn.pure rfl) (SnL.cons (Sn.fn SnL.nil (SnL.cons (Sn.hp rfl (.inl rfl) (SnC.cons (Sn.pure rfl) SnC.nil)) SnL.nil)) SnL.nil)) (slices_ContainsFunc_fiducial_api_Mark_fiducial_api_Mark_of_fiduciallaw26_TrackCovers_1_ok n (gt tracks x_16) n' v26 hc27)) (.mu 2 (.ca cf0 (.done (.nh [0, 3, 5, 6, 7, 37, 38, 39, 45] [.own [aI64 n']] ?_))))
         refine .cd hr (fun hb28 hr => ?_) (fun hb28 hr => ?_)
         ·refine .ru G (.pop (.ru G ?_))
          exact loopF_back (2, wrapF .i64 (x_16 + 1)) hr ((Wk.gc [0, 3, 5, 6, 7, 37, 38, 39] [(0, true)] rfl trivial).to)
         ·refine .skip (.pop (.ru G ?_))
          exact loopF_back (want_15, wrapF .i64 (x_16 + 1)) hr ((Wk.gc [0, 3, 5, 6, 7, 37, 38, 39] [(0, true)] rfl trivial).to)
        ·refine .leave rfl ?_
         obtain rfl := oi hr
         exact ⟨rfl, ((Wk.gc [0, 3, 5, 6, 7] [(0, true)] rfl trivial).to)⟩
       ·rintro x st' hq31
        clear hL30
        obtain ⟨rfl, hq31⟩ := hq31
        refine CQ_exit _ rfl ?_
        obtain rfl := oi hr
        exact ⟨rfl, (hq31.trans ((Wk.gc [0, 3, 5, 6, 7] [(0, true)] rfl trivial).to))⟩
   ·rintro x st' hq34
    clear hL33
    obtain ⟨rfl, hq34⟩ := hq34
    refine .wk hq34 (.seq (.seq (.r4 G [0, 3, 5, 6, 7] [(48, aB ((want_11 : Int) != 0))] ?_)))
    refine .cd hr (fun hb37 hr => ?_) (fun hb37 hr => ?_)
    ·refine .seq ?_
     replace hr := bd hr; obtain ⟨x_38, hL41, hr⟩ := hr
     refine .app1 (Q := fun x st' => x = .normal ∧ Wk 0 st' ⟨mkS 110 0 [(4, aB x_38)], []⟩) ?_ ?_
     ·clear hr
      have hr := hL41
      clear hL41
      rcases Bool.eq_false_or_eq_true ((v9.2 : Int) == want_11) with hb39 | hb39
      ·replace hr := cd_t hb39 hr
       refine .r0 G (.mu 2 (.p0 (v := aB true) (eB hb39) (.mu 6 (.done ?_))))
       obtain rfl := oi hr
       exact ⟨rfl, ((Wk.gc [4] [] rfl pK0).to)⟩
      ·replace hr := cd_f hb39 hr
       refine .r0 G (.mu 2 (.p0 (v := aB false) (eB hb39) (.mu 6 (.done ?_))))
       obtain rfl := oi hr
       exact ⟨rfl, ((Wk.gc [4] [] rfl pK0).to)⟩
     ·rintro x st' hq42
      clear hL41
      obtain ⟨rfl, hq42⟩ := hq42
      refine .wk hq42 (.ret ?_)
      obtain rfl := oi hr
      exact FinQ.r1 [aB x_38]
    ·refine .skip (.seq (.seq ?_))
     rcases Bool.eq_false_or_eq_true ((v9.2 : Int) != 0) with hb43 | hb43
     ·replace hr := cd_t hb43 hr
      refine .r0 G (.mu 1 (.p0 (v := aB true) (eB hb43) (.mu 6 (.done (.nh [0, 3, 5, 64] [.own [aI64 n']] (.cT (by kernel_rfl) (.seq (.ru G (.ret ?_)))))))))
      obtain rfl := oi hr
      exact FinQ.r1 [aB false]
     ·replace hr := cd_f hb43 hr
      refine .r0 G (.mu 1 (.p0 (v := aB false) (eB hb43) (.mu 6 (.done (.nh [0, 3, 5, 64] [.own [aI64 n']] ?_)))))
      refine .cd hr (fun hb45 hr => ?_) (fun hb45 hr => ?_)
      ·refine .seq (.ru G (.ret ?_))
       obtain rfl := oi hr
       exact FinQ.r1 [aB false]
      ·refine .skip (.seq (.seq (.r4 G [0, 3, 5] [(65, aI64 n'), (66, aI64 0)] (.block ?_))))
       replace hr := bd hr; obtain ⟨o348, hL349, hr⟩ := hr
       refine .loopO (σ := fun z0 => match z0 with | x_46 => ⟨mkS 110 0 [(0, slT (slC api_Mark.c) tracks), (3, .hp 0 0), (5, slT (slC (iC .i64)) v9.1), (65, aI64 n'), (66, aI64 x_46)], [.own [aI64 n']]⟩) (Q := fun x st' => match (generalizing := false) o348 with | .inl _ => x = .exit 2 ∧ Wk 0 st' ⟨mkS 110 0 [], []⟩ | .inr (r0) => x = .ret ∧ FinQ Try.prog [.tmp 4] (aB r0) .ret st') hL349 ((Wk.gc [0, 3, 5, 65, 66] [(0, true)] rfl trivial).to) ?_ ?_
       ·clear hr
        rintro m x_46 hr
        show CQ _ _ _ _ _ ⟨_, _⟩
        refine .seq (.r4 G [0, 3, 5, 65, 66] [(67, aB (decide (x_46 < n')))] (.seq ?_))
        refine .cd hr (fun hb199 hr => ?_) (fun hb199 hr => ?_)
        ·refine .skip (.seq (.block (.seq (.r4 G [0, 3, 5, 65, 66] [(10, aI64 x_46)] (.seq (.seq ?_))))))
         obtain ⟨hg200, hr⟩ := gd hr
         refine .regionT G callOf_nil (.mu 2 (.pure (v := .pp (v9.1.flatMap (slC (iC .i64))) (x_46.toNat * 1)) (by kernel_rfl) (tr (ofP_guard hg200)) (by kernel_rfl) (.pure (v := sI64 (gt v9.1 x_46)) (by kernel_rfl) (Eq.trans (b := ORes.ofP ((v9.1.flatMap (slC (iC .i64)))[x_46.toNat * 1]?)) (by kernel_rfl) (ofP_some (flat_get (slC_len _) (inR_lt hg200) (by decide : 0 < 1) (by omega : x_46.toNat * 1 = x_46.toNat * 1 + 0) (by kernel_rfl)))) (by kernel_rfl) (.mu 3 ?_))))
         refine .done ⟨by kernel_rfl, ?_⟩
         refine .nh [0, 3, 5, 10, 65, 66, 75] [.own [aI64 n']] ?_
         refine .cd hr (fun hb202 hr => ?_) (fun hb202 hr => ?_)
         ·refine .seq (.ru G (.ret ?_))
          obtain rfl := oi hr
          exact ⟨rfl, FinQ.ret (vs := [aB false]) (by kernel_rfl) (Sn.pure rfl)⟩
         ·refine .skip (.seq (.r4 G [0, 3, 5, 10, 65, 66] [(76, aI64 n'), (77, aI64 0)] (.block ?_)))
          replace hr := bd hr; obtain ⟨o345, hL346, hr⟩ := hr
          refine .loopO (σ := fun z0 => match z0 with | x_203 => ⟨mkS 110 0 [(0, slT (slC api_Mark.c) tracks), (3, .hp 0 0), (5, slT (slC (iC .i64)) v9.1), (10, aI64 x_46), (65, aI64 n'), (66, aI64 x_46), (76, aI64 n'), (77, aI64 x_203)], [.own [aI64 n']]⟩) (Q := fun x st' => match (generalizing := false) o345 with | .inl _ => x = .exit 4 ∧ Wk 0 st' ⟨mkS 110 0 [(0, slT (slC api_Mark.c) tracks), (3, .hp 0 0), (5, slT (slC (iC .i64)) v9.1), (65, aI64 n'), (66, aI64 x_46)], [.own [aI64 n']]⟩ | .inr (r0) => x = .ret ∧ FinQ Try.prog [.tmp 4] (aB r0) .ret st') hL346 ((Wk.gc [0, 3, 5, 10, 65, 66, 76, 77] [(0, true)] rfl trivial).to) ?_ ?_
          ·clear hr
           rintro m x_203 hr
           show CQ _ _ _ _ _ ⟨_, _⟩
           refine .seq (.r4 G [0, 3, 5, 10, 65, 66, 76, 77] [(78, aB (decide (x_203 < n')))] (.seq ?_))
           refine .cd hr (fun hb276 hr => ?_) (fun hb276 hr => ?_)
           ·refine .skip (.seq (.block (.seq (.r4 G [0, 3, 5, 10, 65, 66, 76, 77] [(11, aI64 x_203)] (.seq (.r4 G [0, 3, 5, 10, 11, 65, 66, 76, 77] [(12, aI64 0)] (.seq (.seq (.r4 G [0, 3, 5, 10, 11, 12, 65, 66, 76, 77] [(80, slT (slC api_Mark.c) tracks), (81, aI64 (tracks.length : Int)), (82, aI64 0)] (.block ?_))))))))))
            replace hr := bd hr; obtain ⟨k_325, hL341, hr⟩ := hr
            refine .loopO (σ := fun z0 => match z0 with | (k_310, x_311) => ⟨mkS 110 0 [(0, slT (slC api_Mark.c) tracks), (3, .hp 0 0), (5, slT (slC (iC .i64)) v9.1), (10, aI64 x_46), (11, aI64 x_203), (12, aI64 k_310), (65, aI64 n'), (66, aI64 x_46), (76, aI64 n'), (77, aI64 x_203), (80, slT (slC api_Mark.c) tracks), (81, aI64 (tracks.length : Int)), (82, aI64 x_311)], [.own [aI64 n']]⟩) (Q := fun x st' => x = .exit 6 ∧ Wk 0 st' ⟨mkS 110 0 [(0, slT (slC api_Mark.c) tracks), (3, .hp 0 0), (5, slT (slC (iC .i64)) v9.1), (10, aI64 x_46), (11, aI64 x_203), (12, aI64 k_325), (65, aI64 n'), (66, aI64 x_46), (76, aI64 n'), (77, aI64 x_203)], [.own [aI64 n']]⟩) hL341 ((Wk.gc [0, 3, 5, 10, 11, 12, 65, 66, 76, 77, 80, 81, 82] [(0, true)] rfl trivial).to) ?_ ?_
            ·clear hr
             rintro m ⟨k_310, x_311⟩ hr
             show CQ _ _ _ _ _ ⟨_, _⟩
             refine .seq (.r4 G [0, 3, 5, 10, 11, 12, 65, 66, 76, 77, 80, 81, 82] [(83, aB (decide (x_311 < (tracks.length : Int))))] (.seq ?_))
             refine .cd hr (fun hb328 hr => ?_) (fun hb328 hr => ?_)
             ·refine .skip (.seq (.block (.seq ?_)))
              obtain ⟨hg329, hr⟩ := gd hr
              refine .r0 G (.p0 (v := .pp (tracks.flatMap (slC api_Mark.c)) (x_311.toNat * 1)) (tr (ofP_guard hg329)) (.p0 (v := slT api_Mark.c (gt tracks x_311)) (tr (ofP_some (flat_get (slC_len api_Mark.c) (inR_lt hg329) (by decide : 0 < 1) (by omega : x_311.toNat * 1 = x_311.toNat * 1 + 0) (by kernel_rfl)))) (.mu 1 (.done (.nh [0, 3, 5, 10, 11, 12, 14, 65, 66, 76, 77, 80, 81, 82] [.own [aI64 n']] (.seq ?_))))))
              obtain ⟨v330, hc331, v332, hc333, hr⟩ := bd2 hr
              rcases Bool.eq_false_or_eq_true v332 with hb334 | hb334
              ·subst hb334
               replace hr := cd_t rfl hr
               obtain ⟨v335, hc336, v337, hc338, hr⟩ := bd2 hr
               refine .gn G (ca1 (ok0 (fiduciallaw26_images_ok n (gt tracks x_311) v330 hc331)) (ca1 (ok0 (slices_Contains_int_int_ok n v330 x_46 true hc333)) (ca1 (ok0 (fiduciallaw26_images_ok n (gt tracks x_311) v335 hc336)) (ca3 (ok0 (slices_Contains_int_int_ok n v335 x_203 v337 hc338)))))) (.mu 1 (.ca cf0 (.mu 1 (.ca (cfF cf0) (.mu 2 (.ca (cfA (fun h => by rw [sv hc336 hc331 (fiduciallaw26_images_cg n h)]) (cfF cf0)) (.mu 1 (.ca (cfF (cfA (fun h => by rw [sv hc338 hc333 (slices_Contains_int_int_cg n h)]) (cfF cf0))) (.mu 1 (.done (.nh [0, 3, 5, 10, 11, 12, 65, 66, 76, 77, 80, 81, 82, 95] [.own [aI64 n']] ?_)))))))))))
               refine .cd hr (fun hb339 hr => ?_) (fun hb339 hr => ?_)
               ·refine .ru G (.pop (.ru G ?_))
                exact loopF_back (wrapF .i64 (k_310 + 1), wrapF .i64 (x_311 + 1)) hr ((Wk.gc [0, 3, 5, 10, 11, 12, 65, 66, 76, 77, 80, 81, 82] [(0, true)] rfl trivial).to)
               ·refine .skip (.pop (.ru G ?_))
                exact loopF_back (k_310, wrapF .i64 (x_311 + 1)) hr ((Wk.gc [0, 3, 5, 10, 11, 12, 65, 66, 76, 77, 80, 81, 82] [(0, true)] rfl trivial).to)
              ·subst hb334
               replace hr := cd_f rfl hr
               refine .gn G (ca1 (ok0 (fiduciallaw26_images_ok n (gt tracks x_311) v330 hc331)) (ca3 (ok0 (slices_Contains_int_int_ok n v330 x_46 false hc333)))) (.mu 1 (.ca cf0 (.mu 1 (.ca (cfF cf0) (.mu 6 (.done (.nh [0, 3, 5, 10, 11, 12, 65, 66, 76, 77, 80, 81, 82, 95] [.own [aI64 n']] (.cF (by kernel_rfl) (.skip (.pop (.ru G ?_)))))))))))
               exact loopF_back (k_310, wrapF .i64 (x_311 + 1)) hr ((Wk.gc [0, 3, 5, 10, 11, 12, 65, 66, 76, 77, 80, 81, 82] [(0, true)] rfl trivial).to)
             ·refine .leave rfl ?_
              obtain rfl := oi hr
              exact ⟨rfl, ((Wk.gc [0, 3, 5, 10, 11, 12, 65, 66, 76, 77] [(0, true)] rfl trivial).to)⟩
            ·rintro x st' hq342
             clear hL341
             obtain ⟨rfl, hq342⟩ := hq342
             refine CQ_exit _ rfl (.wk hq342 (.seq ?_))
             obtain ⟨hg343, hr⟩ := gd hr
             refine .r0 G (.mu 2 (.p0 (v := .pp (v9.1.flatMap (slC (iC .i64))) (x_46.toNat * 1)) (tr (ofP_guard hg200)) (.p0 (v := sI64 (gt v9.1 x_46)) (Eq.trans (b := ORes.ofP ((v9.1.flatMap (slC (iC .i64)))[x_46.toNat * 1]?)) (by kernel_rfl) (ofP_some (flat_get (slC_len _) (inR_lt hg200) (by decide : 0 < 1) (by omega : x_46.toNat * 1 = x_46.toNat * 1 + 0) (by kernel_rfl)))) (.mu 1 (.p0 (v := .pp ((gt v9.1 x_46).flatMap (iC .i64)) (x_203.toNat * 1)) (tr (ofP_guard hg343)) (.p0 (v := aI64 (gt (gt v9.1 x_46) x_203)) (tr (ofP_some (flat_get (iC_len .i64) (inR_lt hg343) (by decide : 0 < 1) (by omega : x_203.toNat * 1 = x_203.toNat * 1 + 0) (by kernel_rfl)))) (.mu 2 (.done (.nh [0, 3, 5, 10, 65, 66, 76, 77, 107] [.own [aI64 n']] ?_)))))))))
             refine .cd hr (fun hb344 hr => ?_) (fun hb344 hr => ?_)
             ·refine .seq (.ru G (.ret ?_))
              obtain rfl := oi hr
              exact ⟨rfl, FinQ.ret (vs := [aB false]) (by kernel_rfl) (Sn.pure rfl)⟩
             ·refine .skip (.pop (.ru G ?_))
              exact loopF_back (wrapF .i64 (x_203 + 1)) hr ((Wk.gc [0, 3, 5, 10, 65, 66, 76, 77] [(0, true)] rfl trivial).to)
           ·refine .leave rfl ?_
            obtain rfl := oi hr
            exact ⟨rfl, ((Wk.gc [0, 3, 5, 65, 66] [(0, true)] rfl trivial).to)⟩
          ·rcases o345 with ⟨⟩ | r0
           ·rintro x st' hq347
            clear hL346
            obtain ⟨rfl, hq347⟩ := hq347
            refine CQ_exit _ rfl (.pop (.wk hq347 (.ru G ?_)))
            exact loopF_back (wrapF .i64 (x_46 + 1)) hr ((Wk.gc [0, 3, 5, 65, 66] [(0, true)] rfl trivial).to)
           ·rintro x st' hq347
            clear hL346
            obtain ⟨rfl, hq347⟩ := hq347
            obtain rfl := oi hr
            exact CQ_ret _ ⟨rfl, hq347⟩
        ·refine .leave rfl ?_
         obtain rfl := oi hr
         exact ⟨rfl, ((Wk.gc [] [] rfl pK0).to)⟩
       ·rcases o348 with ⟨⟩ | r0
        ·rintro x st' hq350
         clear hL349
         obtain ⟨rfl, hq350⟩ := hq350
         refine CQ_exit _ rfl (.wk hq350 (.seq (.ru G (.ret ?_))))
         obtain rfl := oi hr
         exact FinQ.r1 [aB true]
        ·rintro x st' hq350
         clear hL349
         obtain ⟨rfl, hq350⟩ := hq350
         obtain rfl := oi hr
         exact CQ_ret _ hq350
end Go.L
