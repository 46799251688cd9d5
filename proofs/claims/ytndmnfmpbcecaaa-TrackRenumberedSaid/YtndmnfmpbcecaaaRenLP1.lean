/- The program's functions compute what the plain Lean programs compute, part 1; printed by a program. -/
import Derived.Test.YtndmnfmpbcecaaaRenLD
import Derived.Test.YtndmnfmpbcecaaaL0lgnknemn
import Derived.Test.YtndmnfmpbcecaaaKn26icgcljec
import Derived.Test.YtndmnfmpbcecaaaSortMggncojlj
import Derived.Test.YtndmnfmpbcecaaaSortTcgbnadco
import Derived.Test.YtndmnfmpbcecaaaChecked
import Derived.KernelRfl
set_option linter.all false
set_option maxRecDepth 100000
set_option maxHeartbeats 4000000
namespace Go.L
open Go Go.Eng Go.Proofs
theorem fiduciallaw26_known_ok (n : Nat) (r : Bool) (hr : fiduciallaw26_known n = some r) : FnOk Try.prog 11 [] (aB r) := by
 cases hr
 exact fiduciallaw26_known_run

theorem track_wrong_inj {m' : api_Mark} {m'_ : api_Mark} (h : ([.agg [.at (.int .i64 m'.Image), .at (.int .i64 m'.Feature)]] : List AV) = [.agg [.at (.int .i64 m'_.Image), .at (.int .i64 m'_.Feature)]]) : m' = m'_ := by
 obtain ⟨_, _⟩ := m'
 obtain ⟨_, _⟩ := m'_
 simp only [List.cons.injEq, AV.agg.injEq, AV.at.injEq, Value.int.injEq, Value.bool.injEq, AV.fn.injEq, AV.pp.injEq, true_and, and_true] at h
 simp_all
theorem track_wrong_cg (n : Nat) {m' : api_Mark} {m'_ : api_Mark} (h : ([.agg [.at (.int .i64 m'.Image), .at (.int .i64 m'.Feature)]] : List AV) = [.agg [.at (.int .i64 m'_.Image), .at (.int .i64 m'_.Feature)]]) : track_wrong n m' = track_wrong n m'_ := by
 obtain rfl := track_wrong_inj h
 rfl
theorem track_wrong_ok (n : Nat) (m' : api_Mark) (r : Bool) (hr : track_wrong n m' = some r) : FnOk Try.prog 46 [.agg (api_Mark.c m')] (aB r) := by
 unfold track_wrong at hr
 refine FnOk.bd G Try.func46 [.tmp 2] ?_
 unfold Try.f46
 simp only [Option.getD_some]
 refine .seq (.r2 G 21 [(1, .hp 0 0)] [.own (api_Mark.c m')] (.seq ?_))
 rcases Bool.eq_false_or_eq_true (decide (m'.Image < 0)) with hb1 | hb1
 ·replace hr := cd_t hb1 hr
  refine .r0 G (.mu 2 (.p0 (v := aB true) (eB hb1) (.mu 16 (.done (.ret ?_)))))
  obtain rfl := oi hr
  exact FinQ.r1 [aB true]
 ·replace hr := cd_f hb1 hr
  rcases Bool.eq_false_or_eq_true (decide (m'.Image ≥ 64)) with hb2 | hb2
  ·replace hr := cd_t hb2 hr
   refine .r0 G (.mu 2 (.p0 (v := aB false) (eB hb1) (.mu 3 (.pure (v := aB true) (by kernel_rfl) (eB hb2) (.mu 12 (.done (.ret ?_)))))))
   obtain rfl := oi hr
   exact FinQ.r1 [aB true]
  ·replace hr := cd_f hb2 hr
   rcases Bool.eq_false_or_eq_true (decide (m'.Feature < 0)) with hb3 | hb3
   ·replace hr := cd_t hb3 hr
    refine .r0 G (.mu 2 (.p0 (v := aB false) (eB hb1) (.mu 3 (.pure (v := aB false) (by kernel_rfl) (eB hb2) (.mu 4 (.pure (v := aB true) (by kernel_rfl) (eB hb3) (.mu 7 (.done (.ret ?_)))))))))
    obtain rfl := oi hr
    exact FinQ.r1 [aB true]
   ·replace hr := cd_f hb3 hr
    refine .r0 G (.mu 2 (.p0 (v := aB false) (eB hb1) (.mu 3 (.pure (v := aB false) (by kernel_rfl) (eB hb2) (.mu 4 (.pure (v := aB false) (by kernel_rfl) (eB hb3) (.mu 7 (.done (.ret ?_)))))))))
    obtain rfl := oi hr
    exact FinQ.r1 [aB (decide (m'.Feature > 4095))]

theorem track_Check_ok (n : Nat) (ties : List api_Tie) (r : Int) (hr : track_Check n ties = some r) : FnOk Try.prog 12 [slT api_Tie.c ties] (aI64 r) := by
 unfold track_Check at hr
 refine FnOk.bd G Try.func12 [.tmp 2] ?_
 unfold Try.f12
 simp only [Option.getD_some]
 refine .seq (.r4 G [0] [] (.seq (.seq (.r4 G [0] [(7, aB (decide ((ties.length : Int) > 256)))] ?_))))
 refine .cd hr (fun hb2 hr => ?_) (fun hb2 hr => ?_)
 ·refine .seq (.ru G (.ret ?_))
  obtain rfl := oi hr
  exact FinQ.r1 [aI64 3]
 ·refine .skip (.seq (.seq (.r3 G 40 [(8, slT api_Tie.c ties), (9, aI64 (ties.length : Int)), (10, aI64 0)] (.block ?_))))
  replace hr := bd hr; obtain ⟨o29, hL30, hr⟩ := hr
  refine .loopO (σ := fun z0 => match z0 with | x_3 => ⟨mkS 40 0 [(8, slT api_Tie.c ties), (9, aI64 (ties.length : Int)), (10, aI64 x_3)], []⟩) (Q := fun x st' => match (generalizing := false) o29 with | .inl _ => x = .exit 0 ∧ Wk 0 st' ⟨mkS 40 0 [], []⟩ | .inr (r0) => x = .ret ∧ FinQ Try.prog [.tmp 2] (aI64 r0) .ret st') hL30 ((Wk.gc [8, 9, 10] [] rfl pK0).to) ?_ ?_
  ·clear hr
   rintro m x_3 hr
   show CQ _ _ _ _ _ ⟨_, _⟩
   refine .seq (.r4 G [8, 9, 10] [(11, aB (decide (x_3 < (ties.length : Int))))] (.seq ?_))
   refine .cd hr (fun hb18 hr => ?_) (fun hb18 hr => ?_)
   ·refine .skip (.seq (.block (.seq ?_)))
    obtain ⟨hg19, hr⟩ := gd hr
    refine .r0 G (.p0 (v := .pp (ties.flatMap api_Tie.c) (x_3.toNat * 5)) (tr (ofP_guard hg19)) (.p0 (v := .agg (api_Tie.c (gt ties x_3))) (Eq.trans (b := ORes.ofP (guardV (decide (5 ≤ ((ties.flatMap api_Tie.c).drop (x_3.toNat * 5)).length)) (.agg (((ties.flatMap api_Tie.c).drop (x_3.toNat * 5)).take 5)))) (by kernel_rfl) (flat_load api_Tie.len (inR_lt hg19) (by decide) (by omega : x_3.toNat * 5 = x_3.toNat * 5 + 0) (by kernel_rfl))) (.mu 2 (.done (.nh [4, 8, 9, 10] [.own (api_Tie.c (gt ties x_3))] (.seq (.seq ?_)))))))
    obtain ⟨v20, hc21, hr⟩ := bd hr
    rcases Bool.eq_false_or_eq_true v20 with hb22 | hb22
    ·subst hb22
     replace hr := cd_t rfl hr
     refine .g1 G (ok0 (track_wrong_ok n (gt ties x_3).A true hc21)) (.mu 2 (.ca cf0 (.mu 15 (.done (.nh [4, 8, 9, 10, 31] [.own (api_Tie.c (gt ties x_3))] (.cT (by kernel_rfl) (.seq (.ru G (.ret ?_)))))))))
     obtain rfl := oi hr
     exact ⟨rfl, FinQ.ret (vs := [aI64 2]) (by kernel_rfl) (Sn.pure rfl)⟩
    ·subst hb22
     replace hr := cd_f rfl hr
     obtain ⟨v23, hc24, hr⟩ := bd hr
     rcases Bool.eq_false_or_eq_true v23 with hb25 | hb25
     ·subst hb25
      replace hr := cd_t rfl hr
      refine .gn G (ca1 (ok0 (track_wrong_ok n (gt ties x_3).A false hc21)) (ca3 (ok0 (track_wrong_ok n (gt ties x_3).B true hc24)))) (.mu 2 (.ca cf0 (.mu 3 (.ca (cfA (fun h => by rw [sv hc24 hc21 (track_wrong_cg n h)]) cf0) (.mu 11 (.done (.nh [4, 8, 9, 10, 31] [.own (api_Tie.c (gt ties x_3))] (.cT (by kernel_rfl) (.seq (.ru G (.ret ?_)))))))))))
      obtain rfl := oi hr
      exact ⟨rfl, FinQ.ret (vs := [aI64 2]) (by kernel_rfl) (Sn.pure rfl)⟩
     ·subst hb25
      replace hr := cd_f rfl hr
      rcases Bool.eq_false_or_eq_true (decide ((gt ties x_3).Cost < 0)) with hb26 | hb26
      ·replace hr := cd_t hb26 hr
       refine .gn G (ca1 (ok0 (track_wrong_ok n (gt ties x_3).A false hc21)) (ca3 (ok0 (track_wrong_ok n (gt ties x_3).B false hc24)))) (.mu 2 (.ca cf0 (.mu 3 (.ca (cfA (fun h => by rw [sv hc24 hc21 (track_wrong_cg n h)]) cf0) (.mu 4 (.pure (v := aB true) (by kernel_rfl) (eB hb26) (.mu 6 (.done (.nh [4, 8, 9, 10, 31] [.own (api_Tie.c (gt ties x_3))] (.cT (by kernel_rfl) (.seq (.ru G (.ret ?_)))))))))))))
       obtain rfl := oi hr
       exact ⟨rfl, FinQ.ret (vs := [aI64 2]) (by kernel_rfl) (Sn.pure rfl)⟩
      ·replace hr := cd_f hb26 hr
       refine .gn G (ca1 (ok0 (track_wrong_ok n (gt ties x_3).A false hc21)) (ca3 (ok0 (track_wrong_ok n (gt ties x_3).B false hc24)))) (.mu 2 (.ca cf0 (.mu 3 (.ca (cfA (fun h => by rw [sv hc24 hc21 (track_wrong_cg n h)]) cf0) (.mu 4 (.pure (v := aB false) (by kernel_rfl) (eB hb26) (.mu 6 (.done (.nh [4, 8, 9, 10, 31] [.own (api_Tie.c (gt ties x_3))] ?_)))))))))
       refine .cd hr (fun hb27 hr => ?_) (fun hb27 hr => ?_)
       ·refine .seq (.ru G (.ret ?_))
        obtain rfl := oi hr
        exact ⟨rfl, FinQ.ret (vs := [aI64 2]) (by kernel_rfl) (Sn.pure rfl)⟩
       ·refine .skip (.seq (.r4 G [8, 9, 10] [(38, aB (decide ((gt ties x_3).A.Image ≥ (gt ties x_3).B.Image)))] ?_))
        refine .cd hr (fun hb28 hr => ?_) (fun hb28 hr => ?_)
        ·refine .seq (.ru G (.ret ?_))
         obtain rfl := oi hr
         exact ⟨rfl, FinQ.ret (vs := [aI64 5]) (by kernel_rfl) (Sn.pure rfl)⟩
        ·refine .skip (.pop (.ru G ?_))
         exact loopF_back (wrapF .i64 (x_3 + 1)) hr ((Wk.gc [8, 9, 10] [] rfl pK0).to)
   ·refine .leave rfl ?_
    obtain rfl := oi hr
    exact ⟨rfl, ((Wk.gc [] [] rfl pK0).to)⟩
  ·rcases o29 with ⟨⟩ | r0
   ·rintro x st' hq31
    clear hL30
    obtain ⟨rfl, hq31⟩ := hq31
    refine CQ_exit _ rfl (.wk hq31 (.seq (.ru G (.ret ?_))))
    obtain rfl := oi hr
    exact FinQ.r1 [aI64 0]
   ·rintro x st' hq31
    clear hL30
    obtain ⟨rfl, hq31⟩ := hq31
    obtain rfl := oi hr
    exact CQ_ret _ hq31

theorem fiduciallaw26_TrackRenumbered_1_ok (n : Nat) (t : api_Tie) (r : Bool) (hr : fiduciallaw26_TrackRenumbered_1 n t = some r) : FnOk Try.prog 14 [.agg (api_Tie.c t)] (aB r) := by
 unfold fiduciallaw26_TrackRenumbered_1 at hr
 refine FnOk.bd G Try.func14 [.tmp 2] ?_
 unfold Try.f14
 simp only [Option.getD_some]
 refine .seq (.r2 G 21 [(1, .hp 0 0)] [.own (api_Tie.c t)] (.seq ?_))
 rcases Bool.eq_false_or_eq_true (decide ((mx t.A.Image t.B.Image) > 15)) with hb1 | hb1
 ·replace hr := cd_t hb1 hr
  refine .r0 G (.mu 7 (.p0 (v := aB true) (eB hb1) (.mu 11 (.done (.ret ?_)))))
  obtain rfl := oi hr
  exact FinQ.r1 [aB true]
 ·replace hr := cd_f hb1 hr
  refine .r0 G (.mu 7 (.p0 (v := aB false) (eB hb1) (.mu 11 (.done (.ret ?_)))))
  obtain rfl := oi hr
  exact FinQ.r1 [aB (decide ((mx t.A.Feature t.B.Feature) > 1000))]

theorem slices_IndexFunc_fiducial_api_Tie_fiducial_api_Tie_of_fiduciallaw26_TrackRenumbered_1_ok (n : Nat) (s : List api_Tie) (r : Int) (hr : slices_IndexFunc_fiducial_api_Tie_fiducial_api_Tie_of_fiduciallaw26_TrackRenumbered_1 n s = some r) : FnOk Try.prog 47 [slT api_Tie.c s, .fn 14 [] []] (aI64 r) := by
 unfold slices_IndexFunc_fiducial_api_Tie_fiducial_api_Tie_of_fiduciallaw26_TrackRenumbered_1 at hr
 refine FnOk.bd G Try.func47 [.tmp 4] ?_
 unfold Try.f47
 simp only [Option.getD_some]
 refine .seq (.r4 G [0, 1] [] (.seq (.seq (.r4 G [0, 1] [(7, aI64 (s.length : Int)), (8, aI64 0)] (.block ?_)))))
 replace hr := bd hr; obtain ⟨o13, hL14, hr⟩ := hr
 refine .loopO (σ := fun z0 => match z0 with | x_1 => ⟨mkS 19 0 [(0, slT api_Tie.c s), (1, .fn 14 [] []), (7, aI64 (s.length : Int)), (8, aI64 x_1)], []⟩) (Q := fun x st' => match (generalizing := false) o13 with | .inl _ => x = .exit 0 ∧ Wk 0 st' ⟨mkS 19 0 [], []⟩ | .inr (r0) => x = .ret ∧ FinQ Try.prog [.tmp 4] (aI64 r0) .ret st') hL14 ((Wk.gc [0, 1, 7, 8] [] rfl pK0).to) ?_ ?_
 ·clear hr
  rintro m x_1 hr
  show CQ _ _ _ _ _ ⟨_, _⟩
  refine .seq (.r4 G [0, 1, 7, 8] [(9, aB (decide (x_1 < (s.length : Int))))] (.seq ?_))
  refine .cd hr (fun hb8 hr => ?_) (fun hb8 hr => ?_)
  ·refine .skip (.seq (.block (.seq (.r4 G [0, 1, 7, 8] [(5, aI64 x_1)] (.seq ?_)))))
   obtain ⟨hg9, hr⟩ := gd hr
   obtain ⟨v10, hc11, hr⟩ := bd hr
   refine .g1 G (ok0 (fiduciallaw26_TrackRenumbered_1_ok n (gt s x_1) v10 hc11)) (.mu 3 (.p0 (v := .pp (s.flatMap api_Tie.c) (x_1.toNat * 5)) (tr (ofP_guard hg9)) (.p0 (v := .agg (api_Tie.c (gt s x_1))) (Eq.trans (b := ORes.ofP (guardV (decide (5 ≤ ((s.flatMap api_Tie.c).drop (x_1.toNat * 5)).length)) (.agg (((s.flatMap api_Tie.c).drop (x_1.toNat * 5)).take 5)))) (by kernel_rfl) (flat_load api_Tie.len (inR_lt hg9) (by decide) (by omega : x_1.toNat * 5 = x_1.toNat * 5 + 0) (by kernel_rfl))) (.ca cf0 (.done (.nh [0, 1, 5, 7, 8, 16] [] ?_))))))
   refine .cd hr (fun hb12 hr => ?_) (fun hb12 hr => ?_)
   ·refine .seq (.ru G (.ret ?_))
    obtain rfl := oi hr
    exact ⟨rfl, FinQ.ret (vs := [aI64 x_1]) (by kernel_rfl) (Sn.pure rfl)⟩
   ·refine .skip (.pop (.ru G ?_))
    exact loopF_back (wrapF .i64 (x_1 + 1)) hr ((Wk.gc [0, 1, 7, 8] [] rfl pK0).to)
  ·refine .leave rfl ?_
   obtain rfl := oi hr
   exact ⟨rfl, ((Wk.gc [] [] rfl pK0).to)⟩
 ·rcases o13 with ⟨⟩ | r0
  ·rintro x st' hq15
   clear hL14
   obtain ⟨rfl, hq15⟩ := hq15
   refine CQ_exit _ rfl (.wk hq15 (.seq (.ru G (.ret ?_))))
   obtain rfl := oi hr
   exact FinQ.r1 [aI64 (-1)]
  ·rintro x st' hq15
   clear hL14
   obtain ⟨rfl, hq15⟩ := hq15
   obtain rfl := oi hr
   exact CQ_ret _ hq15

theorem slices_ContainsFunc_fiducial_api_Tie_fiducial_api_Tie_of_fiduciallaw26_TrackRenumbered_1_ok (n : Nat) (s : List api_Tie) (r : Bool) (hr : slices_ContainsFunc_fiducial_api_Tie_fiducial_api_Tie_of_fiduciallaw26_TrackRenumbered_1 n s = some r) : FnOk Try.prog 13 [slT api_Tie.c s, .fn 14 [] []] (aB r) := by
 unfold slices_ContainsFunc_fiducial_api_Tie_fiducial_api_Tie_of_fiduciallaw26_TrackRenumbered_1 at hr
 refine FnOk.bd G Try.func13 [.tmp 4] ?_
 unfold Try.f13
 simp only [Option.getD_some]
 refine .seq (.r4 G [0, 1] [] (.seq ?_))
 obtain ⟨v1, hc2, hr⟩ := bd hr
 refine .g1 G (ok0 (slices_IndexFunc_fiducial_api_Tie_fiducial_api_Tie_of_fiduciallaw26_TrackRenumbered_1_ok n s v1 hc2)) (.mu 2 (.ca cf0 (.mu 2 (.done (.ret ?_)))))
 obtain rfl := oi hr
 exact FinQ.r1 [aB (decide (v1 ≥ 0))]

theorem fiduciallaw26_TrackRenumbered_2_inj {m' : api_Mark} {p : Int} {p' : Int} {m'_ : api_Mark} {p_ : Int} {p'_ : Int} (h : ([.agg [.at (.int .i64 m'.Image), .at (.int .i64 m'.Feature)], .pp [.at (.int .u8 p), .at (.int .u8 p')] 0] : List AV) = [.agg [.at (.int .i64 m'_.Image), .at (.int .i64 m'_.Feature)], .pp [.at (.int .u8 p_), .at (.int .u8 p'_)] 0]) : m' = m'_ ∧ p = p_ ∧ p' = p'_ := by
 obtain ⟨_, _⟩ := m'
 obtain ⟨_, _⟩ := m'_
 simp only [List.cons.injEq, AV.agg.injEq, AV.at.injEq, Value.int.injEq, Value.bool.injEq, AV.fn.injEq, AV.pp.injEq, true_and, and_true] at h
 simp_all
theorem fiduciallaw26_TrackRenumbered_2_cg (n : Nat) {m' : api_Mark} {p : Int} {p' : Int} {m'_ : api_Mark} {p_ : Int} {p'_ : Int} (h : ([.agg [.at (.int .i64 m'.Image), .at (.int .i64 m'.Feature)], .pp [.at (.int .u8 p), .at (.int .u8 p')] 0] : List AV) = [.agg [.at (.int .i64 m'_.Image), .at (.int .i64 m'_.Feature)], .pp [.at (.int .u8 p_), .at (.int .u8 p'_)] 0]) : fiduciallaw26_TrackRenumbered_2 n m' p p' = fiduciallaw26_TrackRenumbered_2 n m'_ p_ p'_ := by
 obtain ⟨rfl, rfl, rfl⟩ := fiduciallaw26_TrackRenumbered_2_inj h
 rfl
theorem fiduciallaw26_TrackRenumbered_2_ok (n : Nat) (m' : api_Mark) (p : Int) (p' : Int) (r : api_Mark) (hr : fiduciallaw26_TrackRenumbered_2 n m' p p' = some r) : FnOk Try.prog 15 [.agg (api_Mark.c m'), .pp [aU8 p, aU8 p'] 0] (.agg (api_Mark.c r)) := by
 unfold fiduciallaw26_TrackRenumbered_2 at hr
 refine FnOk.bd G Try.func15 [.cell 3 29] ?_
 unfold Try.f15
 simp only [Option.getD_some]
 refine .seq (.r5 G [1] [(2, .hp 0 0), (3, .hp 1 0)] [.own (api_Mark.c m'), .own [aI64 0, aI64 0]] (.seq (.r5 G [3] [] [.own (api_Mark.c m'), .own [aI64 (wrapF .i64 ((wrapF .i64 (3 * m'.Image)) + ((wrapF .i64 p).tmod 16))), aI64 (wrapF .i64 ((wrapF .i64 (2 * m'.Feature)) + (wrapF .i64 p')))]] (.ret ?_))))
 obtain rfl := oi hr
 exact FinQ.r1 [.agg [aI64 (wrapF .i64 ((wrapF .i64 (3 * m'.Image)) + ((wrapF .i64 p).tmod 16))), aI64 (wrapF .i64 ((wrapF .i64 (2 * m'.Feature)) + (wrapF .i64 p')))]]

theorem cmp_isNaN_int_ok [Dr] (n : Nat) (x' : Int) (r : Bool) (hr : cmp_isNaN_int n x' = some r) : FnOk Try.prog 86 [aI64 x'] (aB r) := by
 unfold cmp_isNaN_int at hr
 refine FnOk.bd G Try.func86 [.tmp 2] ?_
 unfold Try.f86
 simp only [Option.getD_some]
 refine .seq (.r4 G [0] [] (.seq (.ru G (.ret ?_))))
 obtain rfl := oi hr
 exact FinQ.r1 [aB ((x' : Int) != x')]

theorem cmp_Compare_int_ok [Dr] (n : Nat) (x' : Int) (y : Int) (r : Int) (hr : cmp_Compare_int n x' y = some r) : FnOk Try.prog 60 [aI64 x', aI64 y] (aI64 r) := by
 unfold cmp_Compare_int at hr
 refine FnOk.bd G Try.func60 [.tmp 4] ?_
 unfold Try.f60
 simp only [Option.getD_some]
 refine .seq (.r4 G [0, 1] [] (.seq ?_))
 obtain ⟨v1, hc2, hr⟩ := bd hr
 refine .g1 G (ok0 (cmp_isNaN_int_ok n x' v1 hc2)) (.mu 1 (.ca cf0 (.mu 1 (.done (.nh [0, 1, 5] [] (.seq ?_))))))
 obtain ⟨v3, hc4, hr⟩ := bd hr
 refine .g1 G (ok0 (cmp_isNaN_int_ok n y v3 hc4)) (.mu 1 (.ca cf0 (.mu 1 (.done (.nh [0, 1, 5, 6] [] (.seq (.seq (.r4 G [0, 1, 6] [(11, aB v1)] ?_))))))))
 refine .cd hr (fun hb5 hr => ?_) (fun hb5 hr => ?_)
 ·refine .seq (.seq (.r3 G 20 [(12, aB v3)] ?_))
  refine .cd hr (fun hb6 hr => ?_) (fun hb6 hr => ?_)
  ·refine .seq (.ru G (.ret ?_))
   obtain rfl := oi hr
   exact FinQ.r1 [aI64 0]
  ·refine .skip (.seq (.ru G (.ret ?_)))
   obtain rfl := oi hr
   exact FinQ.r1 [aI64 (-1)]
 ·refine .skip (.seq (.seq (.r4 G [0, 1] [(13, aB v3)] ?_)))
  refine .cd hr (fun hb7 hr => ?_) (fun hb7 hr => ?_)
  ·refine .seq (.ru G (.ret ?_))
   obtain rfl := oi hr
   exact FinQ.r1 [aI64 1]
  ·refine .skip (.seq (.seq (.r4 G [0, 1] [(16, aB (decide (x' < y)))] ?_)))
   refine .cd hr (fun hb8 hr => ?_) (fun hb8 hr => ?_)
   ·refine .seq (.ru G (.ret ?_))
    obtain rfl := oi hr
    exact FinQ.r1 [aI64 (-1)]
   ·refine .skip (.seq (.seq (.r3 G 20 [(19, aB (decide (x' > y)))] ?_)))
    refine .cd hr (fun hb9 hr => ?_) (fun hb9 hr => ?_)
    ·refine .seq (.ru G (.ret ?_))
     obtain rfl := oi hr
     exact FinQ.r1 [aI64 1]
    ·refine .skip (.seq (.ru G (.ret ?_)))
     obtain rfl := oi hr
     exact FinQ.r1 [aI64 0]

theorem slices_Compare_int_int_ok [Dr] (n : Nat) (s1 : List Int) (s2 : List Int) (r : Int) (hr : slices_Compare_int_int n s1 s2 = some r) : FnOk Try.prog 102 [sI64 s1, sI64 s2] (aI64 r) := by
 unfold slices_Compare_int_int at hr
 refine FnOk.bd G Try.func102 [.tmp 4] ?_
 unfold Try.f102
 simp only [Option.getD_some]
 refine .seq (.r4 G [0, 1] [] (.seq (.seq (.r4 G [0, 1] [(9, sI64 s1), (10, aI64 (s1.length : Int)), (11, aI64 0)] (.block ?_)))))
 replace hr := bd hr; obtain ⟨o17, hL18, hr⟩ := hr
 refine .loopO (σ := fun z0 => match z0 with | x_1 => ⟨mkS 36 0 [(0, sI64 s1), (1, sI64 s2), (9, sI64 s1), (10, aI64 (s1.length : Int)), (11, aI64 x_1)], []⟩) (Q := fun x st' => match (generalizing := false) o17 with | .inl _ => x = .exit 0 ∧ Wk 0 st' ⟨mkS 36 0 [(0, sI64 s1), (1, sI64 s2)], []⟩ | .inr (r0) => x = .ret ∧ FinQ Try.prog [.tmp 4] (aI64 r0) .ret st') hL18 ((Wk.gc [0, 1, 9, 10, 11] [] rfl pK0).to) ?_ ?_
 ·clear hr
  rintro m x_1 hr
  show CQ _ _ _ _ _ ⟨_, _⟩
  refine .seq (.r4 G [0, 1, 9, 10, 11] [(12, aB (decide (x_1 < (s1.length : Int))))] (.seq ?_))
  refine .cd hr (fun hb10 hr => ?_) (fun hb10 hr => ?_)
  ·refine .skip (.seq (.block (.seq ?_)))
   obtain ⟨hg11, hr⟩ := gd hr
   refine .r0 G (.mu 1 (.p0 (v := .pp (s1.flatMap (iC .i64)) (x_1.toNat * 1)) (tr (ofP_guard hg11)) (.p0 (v := aI64 (gt s1 x_1)) (tr (ofP_some (flat_get (iC_len .i64) (inR_lt hg11) (by decide : 0 < 1) (by omega : x_1.toNat * 1 = x_1.toNat * 1 + 0) (by kernel_rfl)))) (.mu 2 (.done (.nh [0, 1, 5, 6, 9, 10, 11] [] (.seq (.seq (.r4 G [0, 1, 5, 6, 9, 10, 11] [(19, aB (decide (x_1 ≥ (s2.length : Int))))] ?_)))))))))
   refine .cd hr (fun hb12 hr => ?_) (fun hb12 hr => ?_)
   ·refine .seq (.ru G (.ret ?_))
    obtain rfl := oi hr
    exact ⟨rfl, FinQ.ret (vs := [aI64 1]) (by kernel_rfl) (Sn.pure rfl)⟩
   ·refine .skip (.seq ?_)
    obtain ⟨hg13, hr⟩ := gd hr
    refine .r0 G (.mu 2 (.p0 (v := .pp (s2.flatMap (iC .i64)) (x_1.toNat * 1)) (tr (ofP_guard hg13)) (.p0 (v := aI64 (gt s2 x_1)) (tr (ofP_some (flat_get (iC_len .i64) (inR_lt hg13) (by decide : 0 < 1) (by omega : x_1.toNat * 1 = x_1.toNat * 1 + 0) (by kernel_rfl)))) (.mu 1 (.done (.nh [0, 1, 6, 7, 9, 10, 11] [] (.seq ?_)))))))
    obtain ⟨v14, hc15, hr⟩ := bd hr
    refine .g1 G (ok0 (cmp_Compare_int_ok n (gt s1 x_1) (gt s2 x_1) v14 hc15)) (.mu 2 (.ca cf0 (.mu 1 (.done (.nh [0, 1, 8, 9, 10, 11] [] (.seq (.r4 G [0, 1, 8, 9, 10, 11] [(28, aB ((v14 : Int) != 0))] ?_)))))))
    refine .cd hr (fun hb16 hr => ?_) (fun hb16 hr => ?_)
    ·refine .seq (.ru G (.ret ?_))
     obtain rfl := oi hr
     exact ⟨rfl, FinQ.ret (vs := [aI64 v14]) (by kernel_rfl) (Sn.pure rfl)⟩
    ·refine .skip (.pop (.ru G ?_))
     exact loopF_back (wrapF .i64 (x_1 + 1)) hr ((Wk.gc [0, 1, 9, 10, 11] [] rfl pK0).to)
  ·refine .leave rfl ?_
   obtain rfl := oi hr
   exact ⟨rfl, ((Wk.gc [0, 1] [] rfl pK0).to)⟩
 ·rcases o17 with ⟨⟩ | r0
  ·rintro x st' hq19
   clear hL18
   obtain ⟨rfl, hq19⟩ := hq19
   refine CQ_exit _ rfl (.wk hq19 (.seq (.seq (.r3 G 36 [(35, aB (decide ((s1.length : Int) < (s2.length : Int))))] ?_))))
   refine .cd hr (fun hb20 hr => ?_) (fun hb20 hr => ?_)
   ·refine .seq (.ru G (.ret ?_))
    obtain rfl := oi hr
    exact FinQ.r1 [aI64 (-1)]
   ·refine .skip (.seq (.ru G (.ret ?_)))
    obtain rfl := oi hr
    exact FinQ.r1 [aI64 0]
  ·rintro x st' hq19
   clear hL18
   obtain ⟨rfl, hq19⟩ := hq19
   obtain rfl := oi hr
   exact CQ_ret _ hq19

theorem track_compareMarks_ok [Dr] (n : Nat) (a : api_Mark) (b : api_Mark) (r : Int) (hr : track_compareMarks n a b = some r) : FnOk Try.prog 75 [.agg (api_Mark.c a), .agg (api_Mark.c b)] (aI64 r) := by
 unfold track_compareMarks at hr
 refine FnOk.bd G Try.func75 [.tmp 4] ?_
 unfold Try.f75
 simp only [Option.getD_some]
 refine .seq (.r2 G 16 [(2, .hp 0 0), (3, .hp 1 0)] [.own (api_Mark.c a), .own (api_Mark.c b)] (.seq ?_))
 obtain ⟨v1, hc2, hr⟩ := bd hr
 refine .gn G (ca4 [.own (api_Mark.c a), .own (api_Mark.c b), .own (api_Mark.c a), .own (api_Mark.c b)] (callOk_val (args := [.hs 2 0 2 1, .hs 3 0 2 1]) (l := [2, 3]) rfl (SnL.cons (Sn.hs rfl (.inl rfl) (SnC.cons (Sn.pure rfl) (SnC.cons (Sn.pure rfl) SnC.nil)) (fun h => nomatch h)) (SnL.cons (Sn.hs rfl (.inl rfl) (SnC.cons (Sn.pure rfl) (SnC.cons (Sn.pure rfl) SnC.nil)) (fun h => nomatch h)) SnL.nil)) (slices_Compare_int_int_ok n [a.Image, a.Feature] [b.Image, b.Feature] v1 hc2))) (.mu 10 (.ca cf0 (.mu 1 (.done (.ret ?_)))))
 obtain rfl := oi hr
 exact FinQ.r1 [aI64 v1]

theorem track_compareTies_ok [Dr] (n : Nat) (a : api_Tie) (b : api_Tie) (r : Int) (hr : track_compareTies n a b = some r) : FnOk Try.prog 73 [.agg (api_Tie.c a), .agg (api_Tie.c b)] (aI64 r) := by
 unfold track_compareTies at hr
 refine FnOk.bd G Try.func73 [.tmp 4] ?_
 unfold Try.f73
 simp only [Option.getD_some]
 refine .seq (.r2 G 29 [(2, .hp 0 0), (3, .hp 1 0)] [.own (api_Tie.c a), .own (api_Tie.c b)] (.seq (.seq (.r4 G [2, 3] [(10, aB ((a.Cost : Int) != b.Cost))] ?_))))
 refine .cd hr (fun hb2 hr => ?_) (fun hb2 hr => ?_)
 ·refine .seq (.ru G (.ret ?_))
  obtain rfl := oi hr
  exact FinQ.r1 [aI64 (wrapF .i64 (a.Cost - b.Cost))]
 ·refine .skip (.seq (.seq ?_))
  obtain ⟨v3, hc4, hr⟩ := bd hr
  refine .g1 G (ok0 (track_compareMarks_ok n a.A b.A v3 hc4)) (.mu 4 (.ca cf0 (.mu 1 (.done (.nh [2, 3, 5] [.own (api_Tie.c a), .own (api_Tie.c b)] (.seq (.r4 G [2, 3, 5] [(22, aB ((v3 : Int) != 0))] ?_)))))))
  refine .cd hr (fun hb5 hr => ?_) (fun hb5 hr => ?_)
  ·refine .seq (.ru G (.ret ?_))
   obtain rfl := oi hr
   exact FinQ.r1 [aI64 v3]
  ·refine .skip (.seq ?_)
   obtain ⟨v6, hc7, hr⟩ := bd hr
   refine .g1 G (ok0 (track_compareMarks_ok n a.B b.B v6 hc7)) (.mu 4 (.ca cf0 (.mu 1 (.done (.ret ?_)))))
   obtain rfl := oi hr
   exact FinQ.r1 [aI64 v6]

theorem slices_Clone_fiducial_api_Tie_fiducial_api_Tie_w_ok (n : Nat) (s : List api_Tie) (r : List api_Tie) (hr : slices_Clone_fiducial_api_Tie_fiducial_api_Tie_w n s = some r) : FnMut 0 Try.prog 19 [slT api_Tie.c s] [] (.hs 0 0 r.length 5) [.own (r.flatMap api_Tie.c)] := by
 unfold slices_Clone_fiducial_api_Tie_fiducial_api_Tie_w at hr
 refine FnMut.bodyW G Try.func19 (c := (Try.f19.body).getD .skip) rfl (us := [.hs 0 0 r.length 5]) (s := mkS 8 0 [(0, slT api_Tie.c s)]) (by kernel_rfl) (rs := [.tmp 2]) rfl ?_
 unfold Try.f19
 simp only [Option.getD_some]
 refine .seq (.r4 G [0] [] (.seq (.seq ?_)))
 refine .nilcase (t := 0) (cs := s.flatMap api_Tie.c) (len := s.length) (by kernel_rfl) (fun hn7 => ?_) ?_
 ·obtain rfl : s = [] := List.length_eq_zero_iff.1 hn7
  have hx := gd hr; clear hr; obtain ⟨_, hr⟩ := hx
  have hx := gd hr; clear hr; obtain ⟨_, hr⟩ := hx
  refine .r4 G [0] [(4, aB true)] (.cT (by kernel_rfl) (.seq (.r3 G 8 [(2, nS)] (.ret ?_))))
  obtain rfl := oi hr
  exact FinMW.ret [nS] ((Wk.nil 0 5 (by kernel_rfl)).trans ((Wk.gc [0] [(0, false)] rfl (pKc trivial)).to))
 ·refine .r4 G [0] [(4, aB false)] (.cF (by kernel_rfl) (.skip (.seq ?_)))
  obtain ⟨hg5, hg6, hr⟩ := gd2 hr
  refine .r0 G (.mu 2 (.e0 (v := .hs 1 0 s.length 5) (ws := [(0, .dead), (1, .own (s.flatMap api_Tie.c))]) (Eq.trans (b := appS (decide (((s.flatMap api_Tie.c)).length = s.length * 5)) (s.flatMap api_Tie.c) s.length (fun z1 z2 => guardO (decide (0 + 0 * 5 ≤ (([] : List api_Tie).flatMap api_Tie.c).length) && decide ((0 + z2) * 40 ≤ 140737488355328) && decide (0 + z2 ≤ 4611686018427387904)) (some (.eff (.hs 1 0 (0 + z2) 5) [(0, .dead), (1, .own (((([] : List api_Tie).flatMap api_Tie.c).drop 0).take (0 * 5) ++ z1))])))) (by kernel_rfl) (appS_t (flat_lenB api_Tie.len) rfl (app_own (l := ([] : List api_Tie)) (xs := s) api_Tie.len rfl rfl rfl hg5 hg6))) (.mu 1 (.done (.nh [2] [.dead, .own (s.flatMap api_Tie.c)] (.ret ?_))))))
  obtain rfl := oi hr
  exact FinMW.ret [.hs 1 0 s.length 5] ((Wk.gc [0] [(1, false)] rfl (pKo api_Tie.c api_Tie.pure s trivial)).to)

theorem slices_SortFunc_fiducial_api_Tie_fiducial_api_Tie_w_of_track_compareTies_ok (n : Nat) (x' : List api_Tie) (r : List api_Tie) (hr : slices_SortFunc_fiducial_api_Tie_fiducial_api_Tie_w_of_track_compareTies n x' = some r) : FnMut 1 Try.prog 69 [.hs 0 0 x'.length 5, .fn 73 [] []] [.own (x'.flatMap api_Tie.c)] (.tup []) [.own (r.flatMap api_Tie.c)] := by
 unfold slices_SortFunc_fiducial_api_Tie_fiducial_api_Tie_w_of_track_compareTies at hr
 obtain ⟨h1, hr⟩ := gd hr
 exact FnMut.sortS (c := api_Tie.c) (caps' := []) (Go.Proofs.Ytndmnfmpbcecaaa.contractSortT (enters_of Try.func73 (by kernel_rfl) rfl)) Go.Proofs.Ytndmnfmpbcecaaa.noneSortT api_Tie.len api_Tie.pure hr (of_decide_eq_true h1) SnL.nil (fun x y r hc => @track_compareTies_ok ⟨true⟩ n x y r hc)

theorem slices_Compact_fiducial_api_Tie_fiducial_api_Tie_w_ok (n : Nat) (s : List api_Tie) (r : List api_Tie) (hr : slices_Compact_fiducial_api_Tie_fiducial_api_Tie_w n s = some r) : FnMut 1 Try.prog 71 [.hs 0 0 s.length 5] [.own (s.flatMap api_Tie.c)] (.hs 0 0 r.length 5) [.own (r.flatMap api_Tie.c)] := by
 unfold slices_Compact_fiducial_api_Tie_fiducial_api_Tie_w at hr
 refine FnMut.bodyW G Try.func71 (c := (Try.f71.body).getD .skip) rfl (us := [.hs 0 0 r.length 5]) (s := mkS 61 0 [(0, .hs 0 0 s.length 5)]) (by kernel_rfl) (rs := [.tmp 2]) rfl ?_
 unfold Try.f71
 simp only [Option.getD_some]
 refine .seq (.r4 G [0] [] (.seq (.seq (.r4 G [0] [(8, aB (decide ((s.length : Int) < 2)))] ?_))))
 refine .cd hr (fun hb68 hr => ?_) (fun hb68 hr => ?_)
 ·refine .seq (.r3 G 61 [(2, .hs 0 0 s.length 5)] (.ret ?_))
  obtain rfl := oi hr
  exact FinMW.ret [.hs 0 0 s.length 5] ((Wk.gc [0] [(0, false)] rfl (pKo api_Tie.c api_Tie.pure s trivial)).to)
 ·refine .skip (.seq (.seq (.r4 G [0] [(3, aI64 1)] (.block ?_))))
  replace hr := bd hr; obtain ⟨o131, hL132, hr⟩ := hr
  refine .loopO (σ := fun z0 => match z0 with | k_69 => ⟨mkS 61 0 [(0, .hs 0 0 s.length 5), (3, aI64 k_69)], [.own (s.flatMap api_Tie.c)]⟩) (Q := fun x st' => match (generalizing := false) o131 with | .inl _ => x = .exit 0 ∧ Wk 1 st' ⟨mkS 61 0 [(0, .hs 0 0 s.length 5)], [.own (s.flatMap api_Tie.c)]⟩ | .inr (r0) => x = .ret ∧ FinMW 1 Try.prog [.tmp 2] [.hs 0 0 r0.length 5] [.own (r0.flatMap api_Tie.c)] .ret st') hL132 ((Wk.gc [0, 3] [(0, false)] rfl (pKo api_Tie.c api_Tie.pure s trivial)).to) ?_ ?_
  ·clear hr
   rintro m k_69 hr
   show CQ _ _ _ _ _ ⟨_, _⟩
   refine .seq (.seq (.r4 G [0, 3] [(13, aB (decide (k_69 < (s.length : Int))))] ?_))
   refine .cd hr (fun hb101 hr => ?_) (fun hb101 hr => ?_)
   ·refine .skip (.seq (.block (.seq ?_)))
    obtain ⟨hg102, hg103, hr⟩ := gd2 hr
    refine .regionT G callOf_nil (.mu 2 (.pure (v := .hp 0 (0 + k_69.toNat * 5)) (by kernel_rfl) (tr (ofP_guard hg102)) (by kernel_rfl) (.pure (v := .agg (api_Tie.c (gt s k_69))) (by kernel_rfl) (Eq.trans (b := ORes.ofP (guardV (decide (5 ≤ ((s.flatMap api_Tie.c).drop (0 + k_69.toNat * 5)).length)) (.agg (((s.flatMap api_Tie.c).drop (0 + k_69.toNat * 5)).take 5)))) (by kernel_rfl) (flat_load api_Tie.len (inR_lt hg102) (by decide) (by omega : 0 + k_69.toNat * 5 = k_69.toNat * 5 + 0) (by kernel_rfl))) (by kernel_rfl) (.mu 3 (.pure (v := .hp 0 (0 + (wrapF .i64 (k_69 - 1)).toNat * 5)) (by kernel_rfl) (tr (ofP_guard hg103)) (by kernel_rfl) (.pure (v := .agg (api_Tie.c (gt s (wrapF .i64 (k_69 - 1))))) (by kernel_rfl) (Eq.trans (b := ORes.ofP (guardV (decide (5 ≤ ((s.flatMap api_Tie.c).drop (0 + (wrapF .i64 (k_69 - 1)).toNat * 5)).length)) (.agg (((s.flatMap api_Tie.c).drop (0 + (wrapF .i64 (k_69 - 1)).toNat * 5)).take 5)))) (by kernel_rfl) (flat_load api_Tie.len (inR_lt hg103) (by decide) (by omega : 0 + (wrapF .i64 (k_69 - 1)).toNat * 5 = (wrapF .i64 (k_69 - 1)).toNat * 5 + 0) (by kernel_rfl))) (by kernel_rfl) (.mu 1 ?_)))))))
    refine .done ⟨by kernel_rfl, ?_⟩
    refine .nh [0, 3, 25] [.own (s.flatMap api_Tie.c)] ?_
    refine .cd hr (fun hb104 hr => ?_) (fun hb104 hr => ?_)
    ·refine .seq ?_
     obtain ⟨hg105, hr⟩ := gd hr
     refine .r0 G (.mu 2 (.p0 (v := .hs 0 (0 + k_69.toNat * 5) (s.length - k_69.toNat) 5) (Eq.trans (b := slH (inS k_69 (s.length : Int) s.length) true (k_69.toNat) ((s.length : Int).toNat) (fun z1 z2 => .hs 0 (0 + z1 * 5) (z2 - z1) 5)) (by kernel_rfl) (slH_t hg105 (by kernel_rfl))) (.mu 1 (.done (.nh [0, 3, 4] [.own (s.flatMap api_Tie.c)] (.seq (.seq (.r4 G [0, 3, 4] [(5, aI64 1)] (.block ?_)))))))))
     replace hr := bd hr; obtain ⟨o126, hL127, hr⟩ := hr
     refine .loopO (σ := fun z0 => match z0 with | (s_106, k_107, k2_108) => ⟨mkS 61 0 [(0, .hs 0 0 s_106.length 5), (3, aI64 k_107), (4, .hs 0 (0 + k_69.toNat * 5) (s.length - k_69.toNat) 5), (5, aI64 k2_108)], [.own (s_106.flatMap api_Tie.c)]⟩) (Q := fun x st' => match (generalizing := false) o126 with | (s_116, k_117) => x = .exit 2 ∧ Wk 1 st' ⟨mkS 61 0 [(0, .hs 0 0 s_116.length 5), (3, aI64 k_117)], [.own (s_116.flatMap api_Tie.c)]⟩) hL127 ((Wk.gc [0, 3, 4, 5] [(0, false)] rfl (pKo api_Tie.c api_Tie.pure s trivial)).to) ?_ ?_
     ·clear hr
      rintro m ⟨s_106, k_107, k2_108⟩ hr
      show CQ _ _ _ _ _ ⟨_, _⟩
      refine .seq (.seq (.r4 G [0, 3, 4, 5] [(32, aB (decide (k2_108 < ((s.length - k_69.toNat : Nat) : Int))))] ?_))
      refine .cd hr (fun hb119 hr => ?_) (fun hb119 hr => ?_)
      ·refine .skip (.seq (.block (.seq ?_)))
       obtain ⟨hg120, hg121, hg122, hr⟩ := gd3 hr
       obtain ⟨hg123, hr⟩ := gd hr
       refine .regionT G callOf_nil (.mu 2 (.pure (v := .hp 0 (0 + k_69.toNat * 5 + k2_108.toNat * 5)) (by kernel_rfl) (tr (ofP_guard hg120)) (by kernel_rfl) (.pure (v := .agg (api_Tie.c (gt s_106 ((k_69.toNat + k2_108.toNat : Nat) : Int)))) (by kernel_rfl) (Eq.trans (b := ORes.ofP (guardV (decide (5 ≤ ((s_106.flatMap api_Tie.c).drop (0 + k_69.toNat * 5 + k2_108.toNat * 5)).length)) (.agg (((s_106.flatMap api_Tie.c).drop (0 + k_69.toNat * 5 + k2_108.toNat * 5)).take 5)))) (by kernel_rfl) (flat_load api_Tie.len (inR_lt hg121) (by decide) (by omega : 0 + k_69.toNat * 5 + k2_108.toNat * 5 = ((k_69.toNat + k2_108.toNat : Nat) : Int).toNat * 5 + 0) (by kernel_rfl))) (by kernel_rfl) (.mu 3 (.pure (v := .hp 0 (0 + k_69.toNat * 5 + (wrapF .i64 (k2_108 - 1)).toNat * 5)) (by kernel_rfl) (tr (ofP_guard hg122)) (by kernel_rfl) (.pure (v := .agg [aI64 (gt s_106 ((k_69.toNat + (wrapF .i64 (k2_108 - 1)).toNat : Nat) : Int)).A.Image, aI64 (gt s_106 ((k_69.toNat + (wrapF .i64 (k2_108 - 1)).toNat : Nat) : Int)).A.Feature, aI64 (gt s_106 ((k_69.toNat + (wrapF .i64 (k2_108 - 1)).toNat : Nat) : Int)).B.Image, aI64 (gt s_106 ((k_69.toNat + (wrapF .i64 (k2_108 - 1)).toNat : Nat) : Int)).B.Feature, aI64 (gt s_106 ((k_69.toNat + (wrapF .i64 (k2_108 - 1)).toNat : Nat) : Int)).Cost]) (by kernel_rfl) (Eq.trans (b := ORes.ofP (guardV (decide (5 ≤ ((s_106.flatMap api_Tie.c).drop (0 + k_69.toNat * 5 + (wrapF .i64 (k2_108 - 1)).toNat * 5)).length)) (.agg (((s_106.flatMap api_Tie.c).drop (0 + k_69.toNat * 5 + (wrapF .i64 (k2_108 - 1)).toNat * 5)).take 5)))) (by kernel_rfl) (flat_load api_Tie.len (inR_lt hg123) (by decide) (by omega : 0 + k_69.toNat * 5 + (wrapF .i64 (k2_108 - 1)).toNat * 5 = ((k_69.toNat + (wrapF .i64 (k2_108 - 1)).toNat : Nat) : Int).toNat * 5 + 0) (by kernel_rfl))) (by kernel_rfl) (.mu 1 ?_)))))))
       refine .done ⟨by kernel_rfl, ?_⟩
       refine .nh [0, 3, 4, 5, 44] [.own (s_106.flatMap api_Tie.c)] ?_
       refine .cd hr (fun hb124 hr => ?_) (fun hb124 hr => ?_)
       ·refine .seq ?_
        obtain ⟨hg125, hr⟩ := gd hr
        refine .r0 G (.mu 4 (.p0 (v := .hp 0 (0 + k_69.toNat * 5 + k2_108.toNat * 5)) (tr (ofP_guard hg120)) (.p0 (v := .agg (api_Tie.c (gt s_106 ((k_69.toNat + k2_108.toNat : Nat) : Int)))) (Eq.trans (b := ORes.ofP (guardV (decide (5 ≤ ((s_106.flatMap api_Tie.c).drop (0 + k_69.toNat * 5 + k2_108.toNat * 5)).length)) (.agg (((s_106.flatMap api_Tie.c).drop (0 + k_69.toNat * 5 + k2_108.toNat * 5)).take 5)))) (by kernel_rfl) (flat_load api_Tie.len (inR_lt hg121) (by decide) (by omega : 0 + k_69.toNat * 5 + k2_108.toNat * 5 = ((k_69.toNat + k2_108.toNat : Nat) : Int).toNat * 5 + 0) (by kernel_rfl))) (.p0 (v := .hp 0 (0 + k_107.toNat * 5)) (tr (ofP_guard hg125)) (.e0 (v := .unk) (ws := [(0, .own ((s_106.set k_107.toNat (gt s_106 ((k_69.toNat + k2_108.toNat : Nat) : Int))).flatMap api_Tie.c))]) (tr (stO_t (and_t (flat_fits (n := 5) api_Tie.len (inR_lt hg125) (Nat.le_of_ble_eq_true rfl) (by omega : 0 + k_107.toNat * 5 = k_107.toNat * 5 + 0))) (congrArg Blk.own (flat_set (xs := (api_Tie.c (gt s_106 ((k_69.toNat + k2_108.toNat : Nat) : Int)))) api_Tie.len (inR_lt hg125) (Nat.le_of_ble_eq_true rfl) (by omega : 0 + k_107.toNat * 5 = k_107.toNat * 5 + 0) (by kernel_rfl))))) (.done (.nh [0, 3, 4, 5] [.own ((s_106.set k_107.toNat (gt s_106 ((k_69.toNat + k2_108.toNat : Nat) : Int))).flatMap api_Tie.c)] (.ru G (.pop (.ru G ?_))))))))))
        exact loopF_back (s_106.set k_107.toNat (gt s_106 ((k_69.toNat + k2_108.toNat : Nat) : Int)), wrapF .i64 (k_107 + 1), wrapF .i64 (k2_108 + 1)) hr ((Wk.relen 0 (b := 0) (es := 5) (len := s_106.length) (s_106.set k_107.toNat (gt s_106 ((k_69.toNat + k2_108.toNat : Nat) : Int))).length (by kernel_rfl) (Eq.symm (List.length_set.trans rfl))).trans ((Wk.gc [0, 3, 4, 5] [(0, false)] rfl (pKo api_Tie.c api_Tie.pure (s_106.set k_107.toNat (gt s_106 ((k_69.toNat + k2_108.toNat : Nat) : Int))) trivial)).to))
       ·refine .skip (.pop (.ru G ?_))
        exact loopF_back (s_106, k_107, wrapF .i64 (k2_108 + 1)) hr ((Wk.gc [0, 3, 4, 5] [(0, false)] rfl (pKo api_Tie.c api_Tie.pure s_106 trivial)).to)
      ·refine .leave rfl ?_
       obtain rfl := oi hr
       exact ⟨rfl, ((Wk.gc [0, 3] [(0, false)] rfl (pKo api_Tie.c api_Tie.pure s_106 trivial)).to)⟩
     ·rcases o126 with ⟨s_116, k_117⟩
      rintro x st' hq128
      clear hL127
      obtain ⟨rfl, hq128⟩ := hq128
      refine CQ_exit _ rfl (.wk hq128 (.seq ?_))
      obtain ⟨hg129, hr⟩ := gd hr
      refine .r0 G (.mu 2 (.p0 (v := .hs 0 (0 + k_117.toNat * 5) (s_116.length - k_117.toNat) 5) (Eq.trans (b := slH (inS k_117 (s_116.length : Int) s_116.length) true (k_117.toNat) ((s_116.length : Int).toNat) (fun z1 z2 => .hs 0 (0 + z1 * 5) (z2 - z1) 5)) (by kernel_rfl) (slH_t hg129 (by kernel_rfl))) (.e0 (v := .at (.tuple #[])) (ws := [(0, .own ((overT s_116 k_117.toNat (List.replicate (s_116.length - k_117.toNat) (api_Tie.mk (api_Mark.mk 0 0) (api_Mark.mk 0 0) 0))).flatMap api_Tie.c))]) (tr (cl_t (a := k_117.toNat) (z := (api_Tie.mk (api_Mark.mk 0 0) (api_Mark.mk 0 0) 0)) api_Tie.len rfl (Nat.zero_add _) (inS_lo hg129))) (.done (.nh [0, 3] [.own ((overT s_116 k_117.toNat (List.replicate (s_116.length - k_117.toNat) (api_Tie.mk (api_Mark.mk 0 0) (api_Mark.mk 0 0) 0))).flatMap api_Tie.c)] (.seq ?_))))))
      obtain ⟨hg130, hr⟩ := gd hr
      refine .r0 G (.mu 2 (.p0 (v := .hs 0 0 k_117.toNat 5) (Eq.trans (b := slH (inS 0 k_117 s_116.length) true ((0 : Int).toNat) (k_117.toNat) (fun z1 z2 => .hs 0 (0 + z1 * 5) (z2 - z1) 5)) (by kernel_rfl) (slH_t hg130 (by kernel_rfl))) (.mu 1 (.done (.nh [2] [.own ((overT s_116 k_117.toNat (List.replicate (s_116.length - k_117.toNat) (api_Tie.mk (api_Mark.mk 0 0) (api_Mark.mk 0 0) 0))).flatMap api_Tie.c)] (.wk ((Wk.cutS (c := api_Tie.c) (es := 5) 2 0 api_Tie.len (overT s_116 k_117.toNat (List.replicate (s_116.length - k_117.toNat) (api_Tie.mk (api_Mark.mk 0 0) (api_Mark.mk 0 0) 0))) k_117.toNat (Nat.le_trans (inS_le hg130) (Nat.le_of_eq (Eq.symm ((overT_len _ _ _).trans rfl)))) (by kernel_rfl) (by kernel_rfl)).to (c := ⟨mkS 61 0 [(2, .hs 0 0 ((overT s_116 k_117.toNat (List.replicate (s_116.length - k_117.toNat) (api_Tie.mk (api_Mark.mk 0 0) (api_Mark.mk 0 0) 0))).take k_117.toNat).length 5)], [.own (((overT s_116 k_117.toNat (List.replicate (s_116.length - k_117.toNat) (api_Tie.mk (api_Mark.mk 0 0) (api_Mark.mk 0 0) 0))).take k_117.toNat).flatMap api_Tie.c)]⟩) (by kernel_rfl)) (.ret ?_)))))))
      obtain rfl := oi hr
      exact ⟨rfl, FinMW.ret [.hs 0 0 ((overT s_116 k_117.toNat (List.replicate (s_116.length - k_117.toNat) (api_Tie.mk (api_Mark.mk 0 0) (api_Mark.mk 0 0) 0))).take k_117.toNat).length 5] ((Wk.gc [0] [(0, false)] rfl (pKo api_Tie.c api_Tie.pure ((overT s_116 k_117.toNat (List.replicate (s_116.length - k_117.toNat) (api_Tie.mk (api_Mark.mk 0 0) (api_Mark.mk 0 0) 0))).take k_117.toNat) trivial)).to)⟩
    ·refine .skip (.pop (.ru G ?_))
     exact loopF_back (wrapF .i64 (k_69 + 1)) hr ((Wk.gc [0, 3] [(0, false)] rfl (pKo api_Tie.c api_Tie.pure s trivial)).to)
   ·refine .leave rfl ?_
    obtain rfl := oi hr
    exact ⟨rfl, ((Wk.gc [0] [(0, false)] rfl (pKo api_Tie.c api_Tie.pure s trivial)).to)⟩
  ·rcases o131 with ⟨⟩ | r0
   ·rintro x st' hq133
    clear hL132
    obtain ⟨rfl, hq133⟩ := hq133
    refine CQ_exit _ rfl (.wk hq133 (.seq (.r3 G 61 [(2, .hs 0 0 s.length 5)] (.ret ?_))))
    obtain rfl := oi hr
    exact FinMW.ret [.hs 0 0 s.length 5] ((Wk.gc [0] [(0, false)] rfl (pKo api_Tie.c api_Tie.pure s trivial)).to)
   ·rintro x st' hq133
    clear hL132
    obtain ⟨rfl, hq133⟩ := hq133
    obtain rfl := oi hr
    exact CQ_ret _ hq133

theorem fiducial_track_chains_add_w_ok (n : Nat) (c : List api_Tie) (c' : List (api_Mark × Int)) (c'' : List api_Mark) (c''' : List Int) (c'''' : List Int) (m' : api_Mark) (r : List (api_Mark × Int) × List api_Mark × List Int × List Int) (hr : fiducial_track_chains_add_w n c c' c'' c''' c'''' m' = some r) : FnMut 1 Try.prog 74 [.hp 0 0, .agg (api_Mark.c m')] [.own [slT api_Tie.c c, .mp 1, .hs 2 0 c''.length 2, .hs 3 0 c'''.length 1, .hs 4 0 c''''.length 1], .map (c'.map (mpK api_Mark_i64.K (iA .i64))), .own (c''.flatMap api_Mark.c), .own (c'''.flatMap (iC .i64)), .own (c''''.flatMap (iC .u64))] (.tup []) [.own [slT api_Tie.c c, .mp 1, .hs 2 0 r.2.1.length 2, .hs 3 0 r.2.2.1.length 1, .hs 4 0 r.2.2.2.length 1], .map (r.1.map (mpK api_Mark_i64.K (iA .i64))), .own (r.2.1.flatMap api_Mark.c), .own (r.2.2.1.flatMap (iC .i64)), .own (r.2.2.2.flatMap (iC .u64))] := by
 unfold fiducial_track_chains_add_w at hr
 refine FnMut.bodyW G Try.func74 (c := (Try.f74.body).getD .skip) rfl (us := []) (s := mkS 62 0 [(0, .hp 0 0), (1, .agg (api_Mark.c m'))]) (by kernel_rfl) (rs := []) rfl ?_
 unfold Try.f74
 simp only [Option.getD_some]
 refine .seq (.r5 G [0] [(3, .hp 5 0)] [.own [slT api_Tie.c c, .mp 1, .hs 2 0 c''.length 2, .hs 3 0 c'''.length 1, .hs 4 0 c''''.length 1], .map (c'.map (mpK api_Mark_i64.K (iA .i64))), .own (c''.flatMap api_Mark.c), .own (c'''.flatMap (iC .i64)), .own (c''''.flatMap (iC .u64)), .own (api_Mark.c m')] (.seq (.seq (.regionT G callOf_nil (.mu 5 (.pure (v := .tup [aI64 (getM 0 c' m'), aB (hasM c' m')]) (by kernel_rfl) (Eq.trans (b := ORes.ofP (lookupA Try.prog [.own [slT api_Tie.c c, .mp 1, .hs 2 0 c''.length 2, .hs 3 0 c'''.length 1, .hs 4 0 c''''.length 1], .map (c'.map (mpK api_Mark_i64.K (iA .i64))), .own (c''.flatMap api_Mark.c), .own (c'''.flatMap (iC .i64)), .own (c''''.flatMap (iC .u64)), .own (api_Mark.c m')] 48 (.mp 1) (.agg (api_Mark.c m')) true)) (by kernel_rfl) (look_k2 (kt := 29) (e := 3) (l := c') (f := (iA .i64)) (z := 0) (K := api_Mark_i64.K) (x := m') api_Mark_i64.key (by kernel_rfl) (by kernel_rfl) (by kernel_rfl) (by kernel_rfl) (by kernel_rfl))) (by kernel_rfl) (.mu 5 ?_)))))))
 refine .done ⟨by kernel_rfl, ?_⟩
 refine .nh [0, 3, 5] [.own [slT api_Tie.c c, .mp 1, .hs 2 0 c''.length 2, .hs 3 0 c'''.length 1, .hs 4 0 c''''.length 1], .map (c'.map (mpK api_Mark_i64.K (iA .i64))), .own (c''.flatMap api_Mark.c), .own (c'''.flatMap (iC .i64)), .own (c''''.flatMap (iC .u64)), .own (api_Mark.c m')] (.seq (.r4 G [0, 3] [(15, aB (hasM c' m'))] ?_))
 refine .cd hr (fun hb13 hr => ?_) (fun hb13 hr => ?_)
 ·refine .ret ?_
  obtain rfl := oi hr
  exact FinMW.ret [] ((Wk.gc [] [(0, true), (1, false), (2, false), (3, false), (4, false)] rfl (pKt (pKM api_Mark_i64.K (iA .i64) (fun _ => rfl) c' (pKo api_Mark.c api_Mark.pure c'' (pKo (iC .i64) (iC_pure _) c''' (pKo (iC .u64) (iC_pure _) c'''' trivial)))))).to)
 ·refine .skip (.seq (.regionT G callOf_nil (.mu 10 (.eff (v := .unk) (ws := [(1, .map ((putM c' m' (c''.length : Int)).map (mpK api_Mark_i64.K (iA .i64))))]) (by kernel_rfl) (Eq.trans (b := opUpdate Try.prog [.own [slT api_Tie.c c, .mp 1, .hs 2 0 c''.length 2, .hs 3 0 c'''.length 1, .hs 4 0 c''''.length 1], .map (c'.map (mpK api_Mark_i64.K (iA .i64))), .own (c''.flatMap api_Mark.c), .own (c'''.flatMap (iC .i64)), .own (c''''.flatMap (iC .u64)), .own (api_Mark.c m')] 48 (.mp 1) (.agg (api_Mark.c m')) (aI64 (c''.length : Int))) (by kernel_rfl) (put_k (kt := 29) (e := 3) (l := c') (f := (iA .i64)) (v := (c''.length : Int)) (K := api_Mark_i64.K) (x := m') api_Mark_i64.key (by kernel_rfl) (by kernel_rfl) (by kernel_rfl) (by kernel_rfl))) (by kernel_rfl) ?_))))
  refine .done ⟨by kernel_rfl, ?_⟩
  refine .nh [0, 3] [.own [slT api_Tie.c c, .mp 1, .hs 2 0 c''.length 2, .hs 3 0 c'''.length 1, .hs 4 0 c''''.length 1], .map ((putM c' m' (c''.length : Int)).map (mpK api_Mark_i64.K (iA .i64))), .own (c''.flatMap api_Mark.c), .own (c'''.flatMap (iC .i64)), .own (c''''.flatMap (iC .u64)), .own (api_Mark.c m')] (.seq ?_)
  obtain ⟨hg14, hg15, hr⟩ := gd2 hr
  refine .regionT G callOf_nil (.mu 11 (.eff (v := .hs 7 0 (c''' ++ [(c''.length : Int)]).length 1) (ws := [(3, .dead), (7, .own ((c''' ++ [(c''.length : Int)]).flatMap (iC .i64)))]) (by kernel_rfl) (tr (app_own (new := [aI64 (c''.length : Int)]) (l := c''') (xs := [(c''.length : Int)]) (iC_len .i64) rfl rfl (by kernel_rfl) hg14 hg15)) (by kernel_rfl) (.mu 3 ?_)))
  refine .done ⟨by kernel_rfl, ?_⟩
  refine .nh [0, 3] [.own [slT api_Tie.c c, .mp 1, .hs 2 0 c''.length 2, .hs 7 0 (c''' ++ [(c''.length : Int)]).length 1, .hs 4 0 c''''.length 1], .map ((putM c' m' (c''.length : Int)).map (mpK api_Mark_i64.K (iA .i64))), .own (c''.flatMap api_Mark.c), .dead, .own (c''''.flatMap (iC .u64)), .own (api_Mark.c m'), .own [aI64 (c''.length : Int)], .own ((c''' ++ [(c''.length : Int)]).flatMap (iC .i64))] (.seq ?_)
  obtain ⟨hg16, hg17, hr⟩ := gd2 hr
  refine .regionT G callOf_nil (.mu 7 (.eff (v := .hs 9 0 (c'' ++ [m']).length 2) (ws := [(2, .dead), (9, .own ((c'' ++ [m']).flatMap api_Mark.c))]) (by kernel_rfl) (tr (app_own (new := (api_Mark.c m')) (l := c'') (xs := [m']) api_Mark.len rfl rfl (by kernel_rfl) hg16 hg17)) (by kernel_rfl) (.mu 3 ?_)))
  refine .done ⟨by kernel_rfl, ?_⟩
  refine .nh [0, 3] [.own [slT api_Tie.c c, .mp 1, .hs 9 0 (c'' ++ [m']).length 2, .hs 7 0 (c''' ++ [(c''.length : Int)]).length 1, .hs 4 0 c''''.length 1], .map ((putM c' m' (c''.length : Int)).map (mpK api_Mark_i64.K (iA .i64))), .dead, .dead, .own (c''''.flatMap (iC .u64)), .own (api_Mark.c m'), .own [aI64 (c''.length : Int)], .own ((c''' ++ [(c''.length : Int)]).flatMap (iC .i64)), .own (api_Mark.c m'), .own ((c'' ++ [m']).flatMap api_Mark.c)] ?_
  obtain ⟨hg18, hg19, hg20, hr⟩ := gd3 hr
  refine .regionT G callOf_nil (.mu 7 (.pure (v := aU64 (shlF .u64 (1 : Int) m'.Image)) (by kernel_rfl) (op_shl (k := .u64) (k' := .i64) (x := 1) (y := m'.Image) (by kernel_rfl) (by kernel_rfl) hg18) (by kernel_rfl) (.mu 1 (.eff (v := .hs 11 0 (c'''' ++ [shlF .u64 (1 : Int) m'.Image]).length 1) (ws := [(4, .dead), (11, .own ((c'''' ++ [shlF .u64 (1 : Int) m'.Image]).flatMap (iC .u64)))]) (by kernel_rfl) (tr (app_own (new := [aU64 (shlF .u64 (1 : Int) m'.Image)]) (l := c'''') (xs := [shlF .u64 (1 : Int) m'.Image]) (iC_len .u64) rfl rfl (by kernel_rfl) hg19 hg20)) (by kernel_rfl) (.mu 3 ?_)))))
  refine .done ⟨by kernel_rfl, ?_⟩
  obtain rfl := oi hr
  exact FinMW.normal [] ((Wk.gc [] [(0, true), (1, false), (9, false), (7, false), (11, false)] rfl (pKt (pKM api_Mark_i64.K (iA .i64) (fun _ => rfl) (putM c' m' (c''.length : Int)) (pKo api_Mark.c api_Mark.pure (c'' ++ [m']) (pKo (iC .i64) (iC_pure _) (c''' ++ [(c''.length : Int)]) (pKo (iC .u64) (iC_pure _) (c'''' ++ [shlF .u64 (1 : Int) m'.Image]) trivial)))))).to)

theorem fiducial_track_chains_find_w_ok (n : Nat) (c : List api_Tie) (c' : List (api_Mark × Int)) (c'' : List api_Mark) (c''' : List Int) (c'''' : List Int) (m' : api_Mark) (r : List Int × Int) (hr : fiducial_track_chains_find_w n c c' c'' c''' c'''' m' = some r) : FnMut 1 Try.prog 53 [.hp 0 0, .agg (api_Mark.c m')] [.own [slT api_Tie.c c, .mp 1, .hs 2 0 c''.length 2, .hs 3 0 c'''.length 1, .hs 4 0 c''''.length 1], .map (c'.map (mpK api_Mark_i64.K (iA .i64))), .own (c''.flatMap api_Mark.c), .own (c'''.flatMap (iC .i64)), .own (c''''.flatMap (iC .u64))] (aI64 r.2) [.own [slT api_Tie.c c, .mp 1, .hs 2 0 c''.length 2, .hs 3 0 r.1.length 1, .hs 4 0 c''''.length 1], .map (c'.map (mpK api_Mark_i64.K (iA .i64))), .own (c''.flatMap api_Mark.c), .own (r.1.flatMap (iC .i64)), .own (c''''.flatMap (iC .u64))] := by
 unfold fiducial_track_chains_find_w at hr
 refine FnMut.bodyW G Try.func53 (c := (Try.f53.body).getD .skip) rfl (us := [aI64 r.2]) (s := mkS 48 0 [(0, .hp 0 0), (1, .agg (api_Mark.c m'))]) (by kernel_rfl) (rs := [.tmp 4]) rfl ?_
 unfold Try.f53
 simp only [Option.getD_some]
 refine .seq (.r5 G [0] [(3, .hp 5 0)] [.own [slT api_Tie.c c, .mp 1, .hs 2 0 c''.length 2, .hs 3 0 c'''.length 1, .hs 4 0 c''''.length 1], .map (c'.map (mpK api_Mark_i64.K (iA .i64))), .own (c''.flatMap api_Mark.c), .own (c'''.flatMap (iC .i64)), .own (c''''.flatMap (iC .u64)), .own (api_Mark.c m')] (.seq (.regionT G callOf_nil (.mu 5 (.pure (v := aI64 (getM 0 c' m')) (by kernel_rfl) (Eq.trans (b := ORes.ofP (lookupA Try.prog [.own [slT api_Tie.c c, .mp 1, .hs 2 0 c''.length 2, .hs 3 0 c'''.length 1, .hs 4 0 c''''.length 1], .map (c'.map (mpK api_Mark_i64.K (iA .i64))), .own (c''.flatMap api_Mark.c), .own (c'''.flatMap (iC .i64)), .own (c''''.flatMap (iC .u64)), .own (api_Mark.c m')] 48 (.mp 1) (.agg (api_Mark.c m')) false)) (by kernel_rfl) (look_k (kt := 29) (e := 3) (l := c') (f := (iA .i64)) (z := 0) (K := api_Mark_i64.K) (x := m') api_Mark_i64.key (by kernel_rfl) (by kernel_rfl) (by kernel_rfl) (by kernel_rfl) (by kernel_rfl))) (by kernel_rfl) (.mu 1 ?_))))))
 refine .done ⟨by kernel_rfl, ?_⟩
 refine .nh [0, 5] [.own [slT api_Tie.c c, .mp 1, .hs 2 0 c''.length 2, .hs 3 0 c'''.length 1, .hs 4 0 c''''.length 1], .map (c'.map (mpK api_Mark_i64.K (iA .i64))), .own (c''.flatMap api_Mark.c), .own (c'''.flatMap (iC .i64)), .own (c''''.flatMap (iC .u64)), .own (api_Mark.c m')] (.seq (.block ?_))
 replace hr := bd hr; obtain ⟨o28, hL29, hr⟩ := hr
 refine .loopO (σ := fun z0 => match z0 with | (c_17, k_18) => ⟨mkS 48 0 [(0, .hp 0 0), (5, aI64 k_18)], [.own [slT api_Tie.c c, .mp 1, .hs 2 0 c''.length 2, .hs 3 0 c_17.length 1, .hs 4 0 c''''.length 1], .map (c'.map (mpK api_Mark_i64.K (iA .i64))), .own (c''.flatMap api_Mark.c), .own (c_17.flatMap (iC .i64)), .own (c''''.flatMap (iC .u64))]⟩) (Q := fun x st' => match (generalizing := false) o28 with | (c_22, k_23) => x = .exit 0 ∧ Wk 1 st' ⟨mkS 48 0 [(5, aI64 k_23)], [.own [slT api_Tie.c c, .mp 1, .hs 2 0 c''.length 2, .hs 3 0 c_22.length 1, .hs 4 0 c''''.length 1], .map (c'.map (mpK api_Mark_i64.K (iA .i64))), .own (c''.flatMap api_Mark.c), .own (c_22.flatMap (iC .i64)), .own (c''''.flatMap (iC .u64))]⟩) hL29 ((Wk.gc [0, 5] [(0, true), (1, false), (2, false), (3, false), (4, false)] rfl (pKt (pKM api_Mark_i64.K (iA .i64) (fun _ => rfl) c' (pKo api_Mark.c api_Mark.pure c'' (pKo (iC .i64) (iC_pure _) c''' (pKo (iC .u64) (iC_pure _) c'''' trivial)))))).to) ?_ ?_
 ·clear hr
  rintro m ⟨c_17, k_18⟩ hr
  show CQ _ _ _ _ _ ⟨_, _⟩
  refine .seq (.seq ?_)
  obtain ⟨hg25, hr⟩ := gd hr
  refine .r0 G (.mu 5 (.p0 (v := .hp 3 (0 + k_18.toNat * 1)) (tr (ofP_guard hg25)) (.p0 (v := aI64 (gt c_17 k_18)) (tr (ofP_some (flat_get (iC_len .i64) (inR_lt hg25) (by decide : 0 < 1) (by omega : 0 + k_18.toNat * 1 = k_18.toNat * 1 + 0) (by kernel_rfl)))) (.mu 2 (.done (.nh [0, 5, 20] [.own [slT api_Tie.c c, .mp 1, .hs 2 0 c''.length 2, .hs 3 0 c_17.length 1, .hs 4 0 c''''.length 1], .map (c'.map (mpK api_Mark_i64.K (iA .i64))), .own (c''.flatMap api_Mark.c), .own (c_17.flatMap (iC .i64)), .own (c''''.flatMap (iC .u64))] ?_))))))
  refine .cd hr (fun hb26 hr => ?_) (fun hb26 hr => ?_)
  ·refine .skip (.block (.seq ?_))
   obtain ⟨hg27, hr⟩ := gd hr
   refine .regionT G callOf_nil (.mu 14 (.pure (v := .hp 3 (0 + k_18.toNat * 1)) (by kernel_rfl) (tr (ofP_guard hg25)) (by kernel_rfl) (.pure (v := aI64 (gt c_17 k_18)) (by kernel_rfl) (tr (ofP_some (flat_get (iC_len .i64) (inR_lt hg25) (by decide : 0 < 1) (by omega : 0 + k_18.toNat * 1 = k_18.toNat * 1 + 0) (by kernel_rfl)))) (by kernel_rfl) (.pure (v := .hp 3 (0 + (gt c_17 k_18).toNat * 1)) (by kernel_rfl) (tr (ofP_guard hg27)) (by kernel_rfl) (.pure (v := aI64 (gt c_17 (gt c_17 k_18))) (by kernel_rfl) (tr (ofP_some (flat_get (iC_len .i64) (inR_lt hg27) (by decide : 0 < 1) (by omega : 0 + (gt c_17 k_18).toNat * 1 = (gt c_17 k_18).toNat * 1 + 0) (by kernel_rfl)))) (by kernel_rfl) (.pure (v := .hp 3 (0 + k_18.toNat * 1)) (by kernel_rfl) (tr (ofP_guard hg25)) (by kernel_rfl) (.eff (v := .unk) (ws := [(3, .own ((c_17.set k_18.toNat (gt c_17 (gt c_17 k_18))).flatMap (iC .i64)))]) (by kernel_rfl) (tr (stO_t (and_t (flat_fits (n := 1) (iC_len .i64) (inR_lt hg25) (Nat.le_of_ble_eq_true rfl) (by omega : 0 + k_18.toNat * 1 = k_18.toNat * 1 + 0))) (congrArg Blk.own (flat_set (xs := [aI64 (gt c_17 (gt c_17 k_18))]) (iC_len .i64) (inR_lt hg25) (Nat.le_of_ble_eq_true rfl) (by omega : 0 + k_18.toNat * 1 = k_18.toNat * 1 + 0) (by kernel_rfl))))) (by kernel_rfl) ?_)))))))
   refine .done ⟨by kernel_rfl, ?_⟩
   refine .nh [0, 5] [.own [slT api_Tie.c c, .mp 1, .hs 2 0 c''.length 2, .hs 3 0 c_17.length 1, .hs 4 0 c''''.length 1], .map (c'.map (mpK api_Mark_i64.K (iA .i64))), .own (c''.flatMap api_Mark.c), .own ((c_17.set k_18.toNat (gt c_17 (gt c_17 k_18))).flatMap (iC .i64)), .own (c''''.flatMap (iC .u64))] (.r0 G (.mu 5 (.p0 (v := .hp 3 (0 + k_18.toNat * 1)) (tr (ofP_guard hg25)) (.p0 (v := aI64 (gt (c_17.set k_18.toNat (gt c_17 (gt c_17 k_18))) k_18)) (Eq.trans (b := ORes.ofP (((c_17.set k_18.toNat (gt c_17 (gt c_17 k_18))).flatMap (iC .i64))[0 + k_18.toNat * 1]?)) (by kernel_rfl) (ofP_some (flat_get (iC_len _) (inR_lt (inR_set hg25)) (by decide : 0 < 1) (by omega : 0 + k_18.toNat * 1 = k_18.toNat * 1 + 0) (by kernel_rfl)))) (.mu 1 (.done (.pop ?_)))))))
   exact loopF_back (c_17.set k_18.toNat (gt c_17 (gt c_17 k_18)), (gt (c_17.set k_18.toNat (gt c_17 (gt c_17 k_18))) k_18)) hr ((Wk.recell 0 3 (b := 3) (es := 1) (len := c_17.length) (cs := [slT api_Tie.c c, .mp 1, .hs 2 0 c''.length 2, .hs 3 0 c_17.length 1, .hs 4 0 c''''.length 1]) (c_17.set k_18.toNat (gt c_17 (gt c_17 k_18))).length (by kernel_rfl) (by kernel_rfl) (by simp)).trans ((Wk.gc [0, 5] [(0, true), (1, false), (2, false), (3, false), (4, false)] rfl (pKt (pKM api_Mark_i64.K (iA .i64) (fun _ => rfl) c' (pKo api_Mark.c api_Mark.pure c'' (pKo (iC .i64) (iC_pure _) (c_17.set k_18.toNat (gt c_17 (gt c_17 k_18))) (pKo (iC .u64) (iC_pure _) c'''' trivial)))))).to))
  ·refine .leave rfl ?_
   obtain rfl := oi hr
   exact ⟨rfl, ((Wk.gc [5] [(0, true), (1, false), (2, false), (3, false), (4, false)] rfl (pKt (pKM api_Mark_i64.K (iA .i64) (fun _ => rfl) c' (pKo api_Mark.c api_Mark.pure c'' (pKo (iC .i64) (iC_pure _) c_17 (pKo (iC .u64) (iC_pure _) c'''' trivial)))))).to)⟩
 ·rcases o28 with ⟨c_22, k_23⟩
  rintro x st' hq30
  clear hL29
  obtain ⟨rfl, hq30⟩ := hq30
  refine CQ_exit _ rfl (.wk hq30 (.seq (.r3 G 48 [(4, aI64 k_23)] (.ret ?_))))
  obtain rfl := oi hr
  exact FinMW.ret [aI64 k_23] ((Wk.gc [0] [(0, true), (1, false), (2, false), (3, false), (4, false)] rfl (pKt (pKM api_Mark_i64.K (iA .i64) (fun _ => rfl) c' (pKo api_Mark.c api_Mark.pure c'' (pKo (iC .i64) (iC_pure _) c_22 (pKo (iC .u64) (iC_pure _) c'''' trivial)))))).to)

theorem track_chained_w_ok (n : Nat) (ties : List api_Tie) (r : List api_Tie × List (api_Mark × Int) × List api_Mark × List Int × List Int) (hr : track_chained_w n ties = some r) : FnMut 0 Try.prog 48 [slT api_Tie.c ties] [] (.hp 0 0) [.own [slT api_Tie.c r.1, .mp 1, .hs 2 0 r.2.2.1.length 2, .hs 3 0 r.2.2.2.1.length 1, .hs 4 0 r.2.2.2.2.length 1], .map (r.2.1.map (mpK api_Mark_i64.K (iA .i64))), .own (r.2.2.1.flatMap api_Mark.c), .own (r.2.2.2.1.flatMap (iC .i64)), .own (r.2.2.2.2.flatMap (iC .u64))] := by
 unfold track_chained_w at hr
 refine FnMut.bodyW G Try.func48 (c := (Try.f48.body).getD .skip) rfl (us := [.hp 0 0]) (s := mkS 97 0 [(0, slT api_Tie.c ties)]) (by kernel_rfl) (rs := [.tmp 2]) rfl ?_
 unfold Try.f48
 simp only [Option.getD_some]
 refine .seq (.r4 G [0] [] (.seq ?_))
 obtain ⟨v58, hc59, hr⟩ := bd hr
 refine .g1 G (callOk_mutU (args := [slT api_Tie.c ties]) 0 1 [] [false] (slices_Clone_fiducial_api_Tie_fiducial_api_Tie_w_ok n ties v58 hc59) trivial (by exact ⟨ids_flat api_Tie.pure _, trivial⟩) rfl rfl (by kernel_rfl) (by kernel_rfl)) (.mu 1 (.ca cf0 (.mu 4 (.done (.nh [3] [.own (v58.flatMap api_Tie.c), .map (([] : List (api_Mark × Int)).map (mpK api_Mark_i64.K (iA .i64))), .own [.hs 0 0 v58.length 5, .mp 1, nS, nS, nS]] (.seq ?_))))))
 obtain ⟨v60, hc61, hr⟩ := bd hr
 obtain ⟨hg62, hr⟩ := gd hr
 refine .g1 G (callOk_mutU (args := [.hs 0 0 v58.length 5, .fn 73 [] []]) 1 0 [(0, false)] [false] (slices_SortFunc_fiducial_api_Tie_fiducial_api_Tie_w_of_track_compareTies_ok n v58 v60 hc61) (by exact ⟨ids_flat api_Tie.pure _, trivial⟩) (by exact ⟨ids_flat api_Tie.pure _, trivial⟩) rfl rfl (by kernel_rfl) (by kernel_rfl)) (.mu 4 (.ca cf0 (.done (.nh [3] [.own (v60.flatMap api_Tie.c), .map (([] : List (api_Mark × Int)).map (mpK api_Mark_i64.K (iA .i64))), .own [.hs 0 0 v58.length 5, .mp 1, nS, nS, nS]] (.seq ?_)))))
 obtain ⟨v63, hc64, hr⟩ := bd hr
 refine .g1 G (callOk_mutU (args := [.hs 0 0 v58.length 5]) 1 0 [(0, false)] [false] (slices_Compact_fiducial_api_Tie_fiducial_api_Tie_w_ok n v60 v63 hc64) (by exact ⟨ids_flat api_Tie.pure _, trivial⟩) (by exact ⟨ids_flat api_Tie.pure _, trivial⟩) rfl rfl (by rw [(of_decide_eq_true hg62)]; kernel_rfl) (by kernel_rfl)) <| .mu 5 <| .ca cf0 <| .mu 3 <| .done <| .nh [3] [.own (v63.flatMap api_Tie.c), .map (([] : List (api_Mark × Int)).map (mpK api_Mark_i64.K (iA .i64))), .own [.hs 0 0 v63.length 5, .mp 1, nS, nS, nS]] <| .seq <| .seq <| .r4 G [3] [(29, .hs 0 0 v63.length 5), (30, aI64 (v63.length : Int)), (31, aI64 0)] <| .block <| .wk (((Wk.fix 0 (cs := (v63.flatMap api_Tie.c)) (by kernel_rfl)).trans ((Wk.purify 29 (b := 0) (len := v63.length) (es := 5) (cs := (v63.flatMap api_Tie.c)) (by kernel_rfl) (by kernel_rfl) (ids_flat api_Tie.pure _) (fun h => flat_nil0 h)).trans (Wk.purcell 2 0 (b := 0) (len := v63.length) (es := 5) (cs := (v63.flatMap api_Tie.c)) (cs' := [.hs 0 0 v63.length 5, .mp 1, nS, nS, nS]) (by kernel_rfl) (by kernel_rfl) (by kernel_rfl) (ids_flat api_Tie.pure _) (fun h => flat_nil0 h)))).to (c := ⟨mkS 97 0 [(3, .hp 2 0), (29, slT api_Tie.c v63), (30, aI64 (v63.length : Int)), (31, aI64 0)], [.fix (v63.flatMap api_Tie.c), .map (([] : List (api_Mark × Int)).map (mpK api_Mark_i64.K (iA .i64))), .own [slT api_Tie.c v63, .mp 1, nS, nS, nS]]⟩) (by kernel_rfl)) ?_
 replace hr := bd hr; obtain ⟨o107, hL108, hr⟩ := hr
 refine .loopO (σ := fun z0 => match z0 with | (c_65, c_66, c_67, c_68, x_69) => ⟨mkS 97 0 [(3, .hp 0 0), (29, slT api_Tie.c v63), (30, aI64 (v63.length : Int)), (31, aI64 x_69)], [.own [slT api_Tie.c v63, .mp 1, .hs 2 0 c_66.length 2, .hs 3 0 c_67.length 1, .hs 4 0 c_68.length 1], .map (c_65.map (mpK api_Mark_i64.K (iA .i64))), .own (c_66.flatMap api_Mark.c), .own (c_67.flatMap (iC .i64)), .own (c_68.flatMap (iC .u64))]⟩) (Q := fun x st' => match (generalizing := false) o107 with | (c_86, c_87, c_88, c_89) => x = .exit 0 ∧ Wk 0 st' ⟨mkS 97 0 [(3, .hp 0 0)], [.own [slT api_Tie.c v63, .mp 1, .hs 2 0 c_87.length 2, .hs 3 0 c_88.length 1, .hs 4 0 c_89.length 1], .map (c_86.map (mpK api_Mark_i64.K (iA .i64))), .own (c_87.flatMap api_Mark.c), .own (c_88.flatMap (iC .i64)), .own (c_89.flatMap (iC .u64))]⟩) hL108 ((Wk.nilcell 2 2 2 (cs := [slT api_Tie.c v63, .mp 1, nS, nS, nS]) (by kernel_rfl) (by kernel_rfl)).trans ((Wk.nilcell 2 3 1 (cs := [slT api_Tie.c v63, .mp 1, .hs 3 0 0 2, nS, nS]) (by kernel_rfl) (by kernel_rfl)).trans ((Wk.nilcell 2 4 1 (cs := [slT api_Tie.c v63, .mp 1, .hs 3 0 0 2, .hs 4 0 0 1, nS]) (by kernel_rfl) (by kernel_rfl)).trans ((Wk.gc [3, 29, 30, 31] [(2, true), (1, false), (3, false), (4, false), (5, false)] rfl (pKt (pKM api_Mark_i64.K (iA .i64) (fun _ => rfl) ([] : List (api_Mark × Int)) (pKc (pKc (pKc trivial)))))).to)))) ?_ ?_
 ·clear hr
  rintro m ⟨c_65, c_66, c_67, c_68, x_69⟩ hr
  show CQ _ _ _ _ _ ⟨_, _⟩
  refine .seq (.r4 G [3, 29, 30, 31] [(32, aB (decide (x_69 < (v63.length : Int))))] (.seq ?_))
  refine .cd hr (fun hb92 hr => ?_) (fun hb92 hr => ?_)
  ·refine .skip (.seq (.block (.seq ?_)))
   obtain ⟨hg93, hr⟩ := gd hr
   refine .r0 G (.p0 (v := .pp (v63.flatMap api_Tie.c) (x_69.toNat * 5)) (tr (ofP_guard hg93)) (.p0 (v := .agg (api_Tie.c (gt v63 x_69))) (Eq.trans (b := ORes.ofP (guardV (decide (5 ≤ ((v63.flatMap api_Tie.c).drop (x_69.toNat * 5)).length)) (.agg (((v63.flatMap api_Tie.c).drop (x_69.toNat * 5)).take 5)))) (by kernel_rfl) (flat_load api_Tie.len (inR_lt hg93) (by decide) (by omega : x_69.toNat * 5 = x_69.toNat * 5 + 0) (by kernel_rfl))) (.mu 2 (.done (.nh [3, 5, 29, 30, 31] [.own [slT api_Tie.c v63, .mp 1, .hs 2 0 c_66.length 2, .hs 3 0 c_67.length 1, .hs 4 0 c_68.length 1], .map (c_65.map (mpK api_Mark_i64.K (iA .i64))), .own (c_66.flatMap api_Mark.c), .own (c_67.flatMap (iC .i64)), .own (c_68.flatMap (iC .u64)), .own (api_Tie.c (gt v63 x_69))] (.seq ?_))))))
   obtain ⟨v94, hc95, hr⟩ := bd hr
   refine .g1 G (callOk_mutU (args := [.hp 0 0, .agg (api_Mark.c (gt v63 x_69).A)]) 1 4 [(0, true), (1, false), (2, false), (3, false), (4, false)] [true, false, false, false, false] (fiducial_track_chains_add_w_ok n v63 c_65 c_66 c_67 c_68 (gt v63 x_69).A v94 hc95) (by exact ⟨ids_mpK (fun _ => rfl) _, ⟨ids_flat api_Mark.pure _, ⟨ids_flat (iC_pure _) _, ⟨ids_flat (iC_pure _) _, trivial⟩⟩⟩⟩) (by exact ⟨ids_mpK (fun _ => rfl) _, ⟨ids_flat api_Mark.pure _, ⟨ids_flat (iC_pure _) _, ⟨ids_flat (iC_pure _) _, trivial⟩⟩⟩⟩) rfl rfl (by kernel_rfl) (by kernel_rfl)) (.mu 3 (.ca cf0 (.done (.nh [3, 5, 29, 30, 31] [.own [slT api_Tie.c v63, .mp 6, .hs 7 0 v94.2.1.length 2, .hs 8 0 v94.2.2.1.length 1, .hs 9 0 v94.2.2.2.length 1], .dead, .dead, .dead, .dead, .own (api_Tie.c (gt v63 x_69)), .map (v94.1.map (mpK api_Mark_i64.K (iA .i64))), .own (v94.2.1.flatMap api_Mark.c), .own (v94.2.2.1.flatMap (iC .i64)), .own (v94.2.2.2.flatMap (iC .u64))] (.seq ?_)))))
   obtain ⟨v96, hc97, hr⟩ := bd hr
   refine .g1 G (callOk_mutU (args := [.hp 0 0, .agg (api_Mark.c (gt v63 x_69).B)]) 1 4 [(0, true), (6, false), (7, false), (8, false), (9, false)] [true, false, false, false, false] (fiducial_track_chains_add_w_ok n v63 v94.1 v94.2.1 v94.2.2.1 v94.2.2.2 (gt v63 x_69).B v96 hc97) (by exact ⟨ids_mpK (fun _ => rfl) _, ⟨ids_flat api_Mark.pure _, ⟨ids_flat (iC_pure _) _, ⟨ids_flat (iC_pure _) _, trivial⟩⟩⟩⟩) (by exact ⟨ids_mpK (fun _ => rfl) _, ⟨ids_flat api_Mark.pure _, ⟨ids_flat (iC_pure _) _, ⟨ids_flat (iC_pure _) _, trivial⟩⟩⟩⟩) rfl rfl (by kernel_rfl) (by kernel_rfl)) (.mu 3 (.ca cf0 (.done (.nh [3, 5, 29, 30, 31] [.own [slT api_Tie.c v63, .mp 10, .hs 11 0 v96.2.1.length 2, .hs 12 0 v96.2.2.1.length 1, .hs 13 0 v96.2.2.2.length 1], .dead, .dead, .dead, .dead, .own (api_Tie.c (gt v63 x_69)), .dead, .dead, .dead, .dead, .map (v96.1.map (mpK api_Mark_i64.K (iA .i64))), .own (v96.2.1.flatMap api_Mark.c), .own (v96.2.2.1.flatMap (iC .i64)), .own (v96.2.2.2.flatMap (iC .u64))] (.seq ?_)))))
   obtain ⟨v98, hc99, v100, hc101, hr⟩ := bd2 hr
   refine .tn G (ca1 (callOk_mutU (args := [.hp 0 0, .agg (api_Mark.c (gt v63 x_69).A)]) 1 4 [(0, true), (10, false), (11, false), (12, false), (13, false)] [true, false, false, false, false] (fiducial_track_chains_find_w_ok n v63 v96.1 v96.2.1 v96.2.2.1 v96.2.2.2 (gt v63 x_69).A v98 hc99) (by exact ⟨ids_mpK (fun _ => rfl) _, ⟨ids_flat api_Mark.pure _, ⟨ids_flat (iC_pure _) _, ⟨ids_flat (iC_pure _) _, trivial⟩⟩⟩⟩) (by exact ⟨ids_mpK (fun _ => rfl) _, ⟨ids_flat api_Mark.pure _, ⟨ids_flat (iC_pure _) _, ⟨ids_flat (iC_pure _) _, trivial⟩⟩⟩⟩) rfl rfl (by kernel_rfl) (by kernel_rfl)) (ca4 [.own [slT api_Tie.c v63, .mp 14, .hs 15 0 v96.2.1.length 2, .hs 16 0 v98.1.length 1, .hs 17 0 v96.2.2.2.length 1], .dead, .dead, .dead, .dead, .own (api_Tie.c (gt v63 x_69)), .dead, .dead, .dead, .dead, .dead, .dead, .dead, .dead, .map (v96.1.map (mpK api_Mark_i64.K (iA .i64))), .own (v96.2.1.flatMap api_Mark.c), .own (v98.1.flatMap (iC .i64)), .own (v96.2.2.2.flatMap (iC .u64))] (callOk_mutU (args := [.hp 0 0, .agg (api_Mark.c (gt v63 x_69).B)]) 1 4 [(0, true), (14, false), (15, false), (16, false), (17, false)] [true, false, false, false, false] (fiducial_track_chains_find_w_ok n v63 v96.1 v96.2.1 v98.1 v96.2.2.2 (gt v63 x_69).B v100 hc101) (by exact ⟨ids_mpK (fun _ => rfl) _, ⟨ids_flat api_Mark.pure _, ⟨ids_flat (iC_pure _) _, ⟨ids_flat (iC_pure _) _, trivial⟩⟩⟩⟩) (by exact ⟨ids_mpK (fun _ => rfl) _, ⟨ids_flat api_Mark.pure _, ⟨ids_flat (iC_pure _) _, ⟨ids_flat (iC_pure _) _, trivial⟩⟩⟩⟩) rfl rfl (by kernel_rfl) (by kernel_rfl)))) (.mu 3 (.ca cf0 (.mu 3 (.ca (cfH 10 0 3 cf0) (.mu 2 ?_)))))
   refine .done ⟨by kernel_rfl, ?_⟩
   refine .nh [3, 6, 7, 29, 30, 31] [.own [slT api_Tie.c v63, .mp 18, .hs 19 0 v96.2.1.length 2, .hs 20 0 v100.1.length 1, .hs 21 0 v96.2.2.2.length 1], .dead, .dead, .dead, .dead, .own (api_Tie.c (gt v63 x_69)), .dead, .dead, .dead, .dead, .dead, .dead, .dead, .dead, .dead, .dead, .dead, .dead, .map (v96.1.map (mpK api_Mark_i64.K (iA .i64))), .own (v96.2.1.flatMap api_Mark.c), .own (v100.1.flatMap (iC .i64)), .own (v96.2.2.2.flatMap (iC .u64))] (.seq ?_)
   rcases Bool.eq_false_or_eq_true ((v98.2 : Int) != v100.2) with hb102 | hb102
   ·replace hr := cd_t hb102 hr
    obtain ⟨hg103, hg104, hr⟩ := gd2 hr
    refine .regionT G callOf_nil (.mu 2 (.pure (v := aB true) (by kernel_rfl) (eB hb102) (by kernel_rfl) (.mu 6 (.pure (v := .hp 21 (0 + v98.2.toNat * 1)) (by kernel_rfl) (tr (ofP_guard hg103)) (by kernel_rfl) (.pure (v := aU64 (gt v96.2.2.2 v98.2)) (by kernel_rfl) (tr (ofP_some (flat_get (iC_len .u64) (inR_lt hg103) (by decide : 0 < 1) (by omega : 0 + v98.2.toNat * 1 = v98.2.toNat * 1 + 0) (by kernel_rfl)))) (by kernel_rfl) (.mu 5 (.pure (v := .hp 21 (0 + v100.2.toNat * 1)) (by kernel_rfl) (tr (ofP_guard hg104)) (by kernel_rfl) (.pure (v := aU64 (gt v96.2.2.2 v100.2)) (by kernel_rfl) (tr (ofP_some (flat_get (iC_len .u64) (inR_lt hg104) (by decide : 0 < 1) (by omega : 0 + v100.2.toNat * 1 = v100.2.toNat * 1 + 0) (by kernel_rfl)))) (by kernel_rfl) (.mu 3 ?_)))))))))
    refine .done ⟨by kernel_rfl, ?_⟩
    refine .nh [3, 6, 7, 29, 30, 31, 71] [.own [slT api_Tie.c v63, .mp 18, .hs 19 0 v96.2.1.length 2, .hs 20 0 v100.1.length 1, .hs 21 0 v96.2.2.2.length 1], .dead, .dead, .dead, .dead, .own (api_Tie.c (gt v63 x_69)), .dead, .dead, .dead, .dead, .dead, .dead, .dead, .dead, .dead, .dead, .dead, .dead, .map (v96.1.map (mpK api_Mark_i64.K (iA .i64))), .own (v96.2.1.flatMap api_Mark.c), .own (v100.1.flatMap (iC .i64)), .own (v96.2.2.2.flatMap (iC .u64))] ?_
    refine .cd hr (fun hb105 hr => ?_) (fun hb105 hr => ?_)
    ·refine .seq ?_
     obtain ⟨hg106, hr⟩ := gd hr
     refine .r0 G (.mu 6 (.p0 (v := .hp 20 (0 + v100.2.toNat * 1)) (tr (ofP_guard hg106)) (.e0 (v := .unk) (ws := [(20, .own ((v100.1.set v100.2.toNat v98.2).flatMap (iC .i64)))]) (tr (stO_t (and_t (flat_fits (n := 1) (iC_len .i64) (inR_lt hg106) (Nat.le_of_ble_eq_true rfl) (by omega : 0 + v100.2.toNat * 1 = v100.2.toNat * 1 + 0))) (congrArg Blk.own (flat_set (xs := [aI64 v98.2]) (iC_len .i64) (inR_lt hg106) (Nat.le_of_ble_eq_true rfl) (by omega : 0 + v100.2.toNat * 1 = v100.2.toNat * 1 + 0) (by kernel_rfl))))) (.done (.nh [3, 6, 7, 29, 30, 31] [.own [slT api_Tie.c v63, .mp 18, .hs 19 0 v96.2.1.length 2, .hs 20 0 v100.1.length 1, .hs 21 0 v96.2.2.2.length 1], .dead, .dead, .dead, .dead, .own (api_Tie.c (gt v63 x_69)), .dead, .dead, .dead, .dead, .dead, .dead, .dead, .dead, .dead, .dead, .dead, .dead, .map (v96.1.map (mpK api_Mark_i64.K (iA .i64))), .own (v96.2.1.flatMap api_Mark.c), .own ((v100.1.set v100.2.toNat v98.2).flatMap (iC .i64)), .own (v96.2.2.2.flatMap (iC .u64))] (.regionT G callOf_nil (.mu 5 (.pure (v := .hp 21 (0 + v98.2.toNat * 1)) (by kernel_rfl) (tr (ofP_guard hg103)) (by kernel_rfl) (.pure (v := aU64 (gt v96.2.2.2 v98.2)) (by kernel_rfl) (tr (ofP_some (flat_get (iC_len .u64) (inR_lt hg103) (by decide : 0 < 1) (by omega : 0 + v98.2.toNat * 1 = v98.2.toNat * 1 + 0) (by kernel_rfl)))) (by kernel_rfl) (.mu 5 (.pure (v := .hp 21 (0 + v100.2.toNat * 1)) (by kernel_rfl) (tr (ofP_guard hg104)) (by kernel_rfl) (.pure (v := aU64 (gt v96.2.2.2 v100.2)) (by kernel_rfl) (tr (ofP_some (flat_get (iC_len .u64) (inR_lt hg104) (by decide : 0 < 1) (by omega : 0 + v100.2.toNat * 1 = v100.2.toNat * 1 + 0) (by kernel_rfl)))) (by kernel_rfl) (.mu 1 (.pure (v := .hp 21 (0 + v98.2.toNat * 1)) (by kernel_rfl) (tr (ofP_guard hg103)) (by kernel_rfl) (.eff (v := .unk) (ws := [(21, .own ((v96.2.2.2.set v98.2.toNat (bitO .or .u64 (gt v96.2.2.2 v98.2) (gt v96.2.2.2 v100.2))).flatMap (iC .u64)))]) (by kernel_rfl) (tr (stO_t (and_t (flat_fits (n := 1) (iC_len .u64) (inR_lt hg103) (Nat.le_of_ble_eq_true rfl) (by omega : 0 + v98.2.toNat * 1 = v98.2.toNat * 1 + 0))) (congrArg Blk.own (flat_set (xs := [aU64 (bitO .or .u64 (gt v96.2.2.2 v98.2) (gt v96.2.2.2 v100.2))]) (iC_len .u64) (inR_lt hg103) (Nat.le_of_ble_eq_true rfl) (by omega : 0 + v98.2.toNat * 1 = v98.2.toNat * 1 + 0) (by kernel_rfl))))) (by kernel_rfl) ?_)))))))))))))))
     refine .done ⟨by kernel_rfl, ?_⟩
     refine .pop (.ru G ?_)
     exact loopF_back (v96.1, v96.2.1, v100.1.set v100.2.toNat v98.2, v96.2.2.2.set v98.2.toNat (bitO .or .u64 (gt v96.2.2.2 v98.2) (gt v96.2.2.2 v100.2)), wrapF .i64 (x_69 + 1)) hr ((Wk.recell 0 3 (b := 20) (es := 1) (len := v100.1.length) (cs := [slT api_Tie.c v63, .mp 18, .hs 19 0 v96.2.1.length 2, .hs 20 0 v100.1.length 1, .hs 21 0 v96.2.2.2.length 1]) (v100.1.set v100.2.toNat v98.2).length (by kernel_rfl) (by kernel_rfl) (by simp)).trans ((Wk.recell 0 4 (b := 21) (es := 1) (len := v96.2.2.2.length) (cs := [slT api_Tie.c v63, .mp 18, .hs 19 0 v96.2.1.length 2, .hs 20 0 (v100.1.set v100.2.toNat v98.2).length 1, .hs 21 0 v96.2.2.2.length 1]) (v96.2.2.2.set v98.2.toNat (bitO .or .u64 (gt v96.2.2.2 v98.2) (gt v96.2.2.2 v100.2))).length (by kernel_rfl) (by kernel_rfl) (by simp)).trans ((Wk.gc [3, 29, 30, 31] [(0, true), (18, false), (19, false), (20, false), (21, false)] rfl (pKt (pKM api_Mark_i64.K (iA .i64) (fun _ => rfl) v96.1 (pKo api_Mark.c api_Mark.pure v96.2.1 (pKo (iC .i64) (iC_pure _) (v100.1.set v100.2.toNat v98.2) (pKo (iC .u64) (iC_pure _) (v96.2.2.2.set v98.2.toNat (bitO .or .u64 (gt v96.2.2.2 v98.2) (gt v96.2.2.2 v100.2))) trivial)))))).to)))
    ·refine .skip (.pop (.ru G ?_))
     exact loopF_back (v96.1, v96.2.1, v100.1, v96.2.2.2, wrapF .i64 (x_69 + 1)) hr ((Wk.gc [3, 29, 30, 31] [(0, true), (18, false), (19, false), (20, false), (21, false)] rfl (pKt (pKM api_Mark_i64.K (iA .i64) (fun _ => rfl) v96.1 (pKo api_Mark.c api_Mark.pure v96.2.1 (pKo (iC .i64) (iC_pure _) v100.1 (pKo (iC .u64) (iC_pure _) v96.2.2.2 trivial)))))).to)
   ·replace hr := cd_f hb102 hr
    refine .regionT G callOf_nil (.mu 2 (.pure (v := aB false) (by kernel_rfl) (eB hb102) (by kernel_rfl) (.mu 18 ?_)))
    refine .done ⟨by kernel_rfl, ?_⟩
    refine .nh [3, 6, 7, 29, 30, 31, 71] [.own [slT api_Tie.c v63, .mp 18, .hs 19 0 v96.2.1.length 2, .hs 20 0 v100.1.length 1, .hs 21 0 v96.2.2.2.length 1], .dead, .dead, .dead, .dead, .own (api_Tie.c (gt v63 x_69)), .dead, .dead, .dead, .dead, .dead, .dead, .dead, .dead, .dead, .dead, .dead, .dead, .map (v96.1.map (mpK api_Mark_i64.K (iA .i64))), .own (v96.2.1.flatMap api_Mark.c), .own (v100.1.flatMap (iC .i64)), .own (v96.2.2.2.flatMap (iC .u64))] (.cF (by kernel_rfl) (.skip (.pop (.ru G ?_))))
    exact loopF_back (v96.1, v96.2.1, v100.1, v96.2.2.2, wrapF .i64 (x_69 + 1)) hr ((Wk.gc [3, 29, 30, 31] [(0, true), (18, false), (19, false), (20, false), (21, false)] rfl (pKt (pKM api_Mark_i64.K (iA .i64) (fun _ => rfl) v96.1 (pKo api_Mark.c api_Mark.pure v96.2.1 (pKo (iC .i64) (iC_pure _) v100.1 (pKo (iC .u64) (iC_pure _) v96.2.2.2 trivial)))))).to)
  ·refine .leave rfl ?_
   obtain rfl := oi hr
   exact ⟨rfl, ((Wk.gc [3] [(0, true), (1, false), (2, false), (3, false), (4, false)] rfl (pKt (pKM api_Mark_i64.K (iA .i64) (fun _ => rfl) c_65 (pKo api_Mark.c api_Mark.pure c_66 (pKo (iC .i64) (iC_pure _) c_67 (pKo (iC .u64) (iC_pure _) c_68 trivial)))))).to)⟩
 ·rcases o107 with ⟨c_86, c_87, c_88, c_89⟩
  rintro x st' hq109
  clear hL108
  obtain ⟨rfl, hq109⟩ := hq109
  refine CQ_exit _ rfl (.wk hq109 (.seq (.r3 G 97 [(2, .hp 0 0)] (.ret ?_))))
  obtain rfl := oi hr
  exact FinMW.ret [.hp 0 0] ((Wk.gc [0] [(0, true), (1, false), (2, false), (3, false), (4, false)] rfl (pKt (pKM api_Mark_i64.K (iA .i64) (fun _ => rfl) c_86 (pKo api_Mark.c api_Mark.pure c_87 (pKo (iC .i64) (iC_pure _) c_88 (pKo (iC .u64) (iC_pure _) c_89 trivial)))))).to)

theorem slices_Clone_fiducial_api_Mark_fiducial_api_Mark_w_2_ok (n : Nat) (s : List api_Mark) (r : List api_Mark) (hr : slices_Clone_fiducial_api_Mark_fiducial_api_Mark_w_2 n s = some r) : FnMut 0 Try.prog 17 [slT api_Mark.c s] [] (.hs 0 0 r.length 2) [.own (r.flatMap api_Mark.c)] := by
 unfold slices_Clone_fiducial_api_Mark_fiducial_api_Mark_w_2 at hr
 refine FnMut.bodyW G Try.func17 (c := (Try.f17.body).getD .skip) rfl (us := [.hs 0 0 r.length 2]) (s := mkS 8 0 [(0, slT api_Mark.c s)]) (by kernel_rfl) (rs := [.tmp 2]) rfl ?_
 unfold Try.f17
 simp only [Option.getD_some]
 refine .seq (.r4 G [0] [] (.seq (.seq ?_)))
 refine .nilcase (t := 0) (cs := s.flatMap api_Mark.c) (len := s.length) (by kernel_rfl) (fun hn7 => ?_) ?_
 ·obtain rfl : s = [] := List.length_eq_zero_iff.1 hn7
  have hx := gd hr; clear hr; obtain ⟨_, hr⟩ := hx
  have hx := gd hr; clear hr; obtain ⟨_, hr⟩ := hx
  refine .r4 G [0] [(4, aB true)] (.cT (by kernel_rfl) (.seq (.r3 G 8 [(2, nS)] (.ret ?_))))
  obtain rfl := oi hr
  exact FinMW.ret [nS] ((Wk.nil 0 2 (by kernel_rfl)).trans ((Wk.gc [0] [(0, false)] rfl (pKc trivial)).to))
 ·refine .r4 G [0] [(4, aB false)] (.cF (by kernel_rfl) (.skip (.seq ?_)))
  obtain ⟨hg5, hg6, hr⟩ := gd2 hr
  refine .r0 G (.mu 2 (.e0 (v := .hs 1 0 s.length 2) (ws := [(0, .dead), (1, .own (s.flatMap api_Mark.c))]) (Eq.trans (b := appS (decide (((s.flatMap api_Mark.c)).length = s.length * 2)) (s.flatMap api_Mark.c) s.length (fun z1 z2 => guardO (decide (0 + 0 * 2 ≤ (([] : List api_Mark).flatMap api_Mark.c).length) && decide ((0 + z2) * 16 ≤ 140737488355328) && decide (0 + z2 ≤ 4611686018427387904)) (some (.eff (.hs 1 0 (0 + z2) 2) [(0, .dead), (1, .own (((([] : List api_Mark).flatMap api_Mark.c).drop 0).take (0 * 2) ++ z1))])))) (by kernel_rfl) (appS_t (flat_lenB api_Mark.len) rfl (app_own (l := ([] : List api_Mark)) (xs := s) api_Mark.len rfl rfl rfl hg5 hg6))) (.mu 1 (.done (.nh [2] [.dead, .own (s.flatMap api_Mark.c)] (.ret ?_))))))
  obtain rfl := oi hr
  exact FinMW.ret [.hs 1 0 s.length 2] ((Wk.gc [0] [(1, false)] rfl (pKo api_Mark.c api_Mark.pure s trivial)).to)

theorem slices_SortFunc_fiducial_api_Mark_fiducial_api_Mark_w_of_track_compareMarks_ok (n : Nat) (x' : List api_Mark) (r : List api_Mark) (hr : slices_SortFunc_fiducial_api_Mark_fiducial_api_Mark_w_of_track_compareMarks n x' = some r) : FnMut 1 Try.prog 28 [.hs 0 0 x'.length 2, .fn 75 [] []] [.own (x'.flatMap api_Mark.c)] (.tup []) [.own (r.flatMap api_Mark.c)] := by
 unfold slices_SortFunc_fiducial_api_Mark_fiducial_api_Mark_w_of_track_compareMarks at hr
 obtain ⟨h1, hr⟩ := gd hr
 exact FnMut.sortS (c := api_Mark.c) (caps' := []) (Go.Proofs.Ytndmnfmpbcecaaa.contractSortM (enters_of Try.func75 (by kernel_rfl) rfl)) Go.Proofs.Ytndmnfmpbcecaaa.noneSortM api_Mark.len api_Mark.pure hr (of_decide_eq_true h1) SnL.nil (fun x y r hc => @track_compareMarks_ok ⟨true⟩ n x y r hc)

theorem fiducial_track_chains_find_w_2_ok (n : Nat) (c : List api_Tie) (c' : List (api_Mark × Int)) (c'' : List api_Mark) (c''' : List Int) (c'''' : List Int) (m' : api_Mark) (r : List Int × Int) (hr : fiducial_track_chains_find_w_2 n c c' c'' c''' c'''' m' = some r) : FnMut 1 Try.prog 53 [.hp 0 0, .agg (api_Mark.c m')] [.own [slT api_Tie.c c, .mp 1, slT api_Mark.c c'', .hs 2 0 c'''.length 1, .hs 3 0 c''''.length 1], .map (c'.map (mpK api_Mark_i64.K (iA .i64))), .own (c'''.flatMap (iC .i64)), .own (c''''.flatMap (iC .u64))] (aI64 r.2) [.own [slT api_Tie.c c, .mp 1, slT api_Mark.c c'', .hs 2 0 r.1.length 1, .hs 3 0 c''''.length 1], .map (c'.map (mpK api_Mark_i64.K (iA .i64))), .own (r.1.flatMap (iC .i64)), .own (c''''.flatMap (iC .u64))] := by
 unfold fiducial_track_chains_find_w_2 at hr
 refine FnMut.bodyW G Try.func53 (c := (Try.f53.body).getD .skip) rfl (us := [aI64 r.2]) (s := mkS 48 0 [(0, .hp 0 0), (1, .agg (api_Mark.c m'))]) (by kernel_rfl) (rs := [.tmp 4]) rfl ?_
 unfold Try.f53
 simp only [Option.getD_some]
 refine .seq (.r5 G [0] [(3, .hp 4 0)] [.own [slT api_Tie.c c, .mp 1, slT api_Mark.c c'', .hs 2 0 c'''.length 1, .hs 3 0 c''''.length 1], .map (c'.map (mpK api_Mark_i64.K (iA .i64))), .own (c'''.flatMap (iC .i64)), .own (c''''.flatMap (iC .u64)), .own (api_Mark.c m')] (.seq (.regionT G callOf_nil (.mu 5 (.pure (v := aI64 (getM 0 c' m')) (by kernel_rfl) (Eq.trans (b := ORes.ofP (lookupA Try.prog [.own [slT api_Tie.c c, .mp 1, slT api_Mark.c c'', .hs 2 0 c'''.length 1, .hs 3 0 c''''.length 1], .map (c'.map (mpK api_Mark_i64.K (iA .i64))), .own (c'''.flatMap (iC .i64)), .own (c''''.flatMap (iC .u64)), .own (api_Mark.c m')] 48 (.mp 1) (.agg (api_Mark.c m')) false)) (by kernel_rfl) (look_k (kt := 29) (e := 3) (l := c') (f := (iA .i64)) (z := 0) (K := api_Mark_i64.K) (x := m') api_Mark_i64.key (by kernel_rfl) (by kernel_rfl) (by kernel_rfl) (by kernel_rfl) (by kernel_rfl))) (by kernel_rfl) (.mu 1 ?_))))))
 refine .done ⟨by kernel_rfl, ?_⟩
 refine .nh [0, 5] [.own [slT api_Tie.c c, .mp 1, slT api_Mark.c c'', .hs 2 0 c'''.length 1, .hs 3 0 c''''.length 1], .map (c'.map (mpK api_Mark_i64.K (iA .i64))), .own (c'''.flatMap (iC .i64)), .own (c''''.flatMap (iC .u64)), .own (api_Mark.c m')] (.seq (.block ?_))
 replace hr := bd hr; obtain ⟨o28, hL29, hr⟩ := hr
 refine .loopO (σ := fun z0 => match z0 with | (c_17, k_18) => ⟨mkS 48 0 [(0, .hp 0 0), (5, aI64 k_18)], [.own [slT api_Tie.c c, .mp 1, slT api_Mark.c c'', .hs 2 0 c_17.length 1, .hs 3 0 c''''.length 1], .map (c'.map (mpK api_Mark_i64.K (iA .i64))), .own (c_17.flatMap (iC .i64)), .own (c''''.flatMap (iC .u64))]⟩) (Q := fun x st' => match (generalizing := false) o28 with | (c_22, k_23) => x = .exit 0 ∧ Wk 1 st' ⟨mkS 48 0 [(5, aI64 k_23)], [.own [slT api_Tie.c c, .mp 1, slT api_Mark.c c'', .hs 2 0 c_22.length 1, .hs 3 0 c''''.length 1], .map (c'.map (mpK api_Mark_i64.K (iA .i64))), .own (c_22.flatMap (iC .i64)), .own (c''''.flatMap (iC .u64))]⟩) hL29 ((Wk.gc [0, 5] [(0, true), (1, false), (2, false), (3, false)] rfl (pKt (pKM api_Mark_i64.K (iA .i64) (fun _ => rfl) c' (pKo (iC .i64) (iC_pure _) c''' (pKo (iC .u64) (iC_pure _) c'''' trivial))))).to) ?_ ?_
 ·clear hr
  rintro m ⟨c_17, k_18⟩ hr
  show CQ _ _ _ _ _ ⟨_, _⟩
  refine .seq (.seq ?_)
  obtain ⟨hg25, hr⟩ := gd hr
  refine .r0 G (.mu 5 (.p0 (v := .hp 2 (0 + k_18.toNat * 1)) (tr (ofP_guard hg25)) (.p0 (v := aI64 (gt c_17 k_18)) (tr (ofP_some (flat_get (iC_len .i64) (inR_lt hg25) (by decide : 0 < 1) (by omega : 0 + k_18.toNat * 1 = k_18.toNat * 1 + 0) (by kernel_rfl)))) (.mu 2 (.done (.nh [0, 5, 20] [.own [slT api_Tie.c c, .mp 1, slT api_Mark.c c'', .hs 2 0 c_17.length 1, .hs 3 0 c''''.length 1], .map (c'.map (mpK api_Mark_i64.K (iA .i64))), .own (c_17.flatMap (iC .i64)), .own (c''''.flatMap (iC .u64))] ?_))))))
  refine .cd hr (fun hb26 hr => ?_) (fun hb26 hr => ?_)
  ·refine .skip (.block (.seq ?_))
   obtain ⟨hg27, hr⟩ := gd hr
   refine .regionT G callOf_nil (.mu 14 (.pure (v := .hp 2 (0 + k_18.toNat * 1)) (by kernel_rfl) (tr (ofP_guard hg25)) (by kernel_rfl) (.pure (v := aI64 (gt c_17 k_18)) (by kernel_rfl) (tr (ofP_some (flat_get (iC_len .i64) (inR_lt hg25) (by decide : 0 < 1) (by omega : 0 + k_18.toNat * 1 = k_18.toNat * 1 + 0) (by kernel_rfl)))) (by kernel_rfl) (.pure (v := .hp 2 (0 + (gt c_17 k_18).toNat * 1)) (by kernel_rfl) (tr (ofP_guard hg27)) (by kernel_rfl) (.pure (v := aI64 (gt c_17 (gt c_17 k_18))) (by kernel_rfl) (tr (ofP_some (flat_get (iC_len .i64) (inR_lt hg27) (by decide : 0 < 1) (by omega : 0 + (gt c_17 k_18).toNat * 1 = (gt c_17 k_18).toNat * 1 + 0) (by kernel_rfl)))) (by kernel_rfl) (.pure (v := .hp 2 (0 + k_18.toNat * 1)) (by kernel_rfl) (tr (ofP_guard hg25)) (by kernel_rfl) (.eff (v := .unk) (ws := [(2, .own ((c_17.set k_18.toNat (gt c_17 (gt c_17 k_18))).flatMap (iC .i64)))]) (by kernel_rfl) (tr (stO_t (and_t (flat_fits (n := 1) (iC_len .i64) (inR_lt hg25) (Nat.le_of_ble_eq_true rfl) (by omega : 0 + k_18.toNat * 1 = k_18.toNat * 1 + 0))) (congrArg Blk.own (flat_set (xs := [aI64 (gt c_17 (gt c_17 k_18))]) (iC_len .i64) (inR_lt hg25) (Nat.le_of_ble_eq_true rfl) (by omega : 0 + k_18.toNat * 1 = k_18.toNat * 1 + 0) (by kernel_rfl))))) (by kernel_rfl) ?_)))))))
   refine .done ⟨by kernel_rfl, ?_⟩
   refine .nh [0, 5] [.own [slT api_Tie.c c, .mp 1, slT api_Mark.c c'', .hs 2 0 c_17.length 1, .hs 3 0 c''''.length 1], .map (c'.map (mpK api_Mark_i64.K (iA .i64))), .own ((c_17.set k_18.toNat (gt c_17 (gt c_17 k_18))).flatMap (iC .i64)), .own (c''''.flatMap (iC .u64))] (.r0 G (.mu 5 (.p0 (v := .hp 2 (0 + k_18.toNat * 1)) (tr (ofP_guard hg25)) (.p0 (v := aI64 (gt (c_17.set k_18.toNat (gt c_17 (gt c_17 k_18))) k_18)) (Eq.trans (b := ORes.ofP (((c_17.set k_18.toNat (gt c_17 (gt c_17 k_18))).flatMap (iC .i64))[0 + k_18.toNat * 1]?)) (by kernel_rfl) (ofP_some (flat_get (iC_len _) (inR_lt (inR_set hg25)) (by decide : 0 < 1) (by omega : 0 + k_18.toNat * 1 = k_18.toNat * 1 + 0) (by kernel_rfl)))) (.mu 1 (.done (.pop ?_)))))))
   exact loopF_back (c_17.set k_18.toNat (gt c_17 (gt c_17 k_18)), (gt (c_17.set k_18.toNat (gt c_17 (gt c_17 k_18))) k_18)) hr ((Wk.recell 0 3 (b := 2) (es := 1) (len := c_17.length) (cs := [slT api_Tie.c c, .mp 1, slT api_Mark.c c'', .hs 2 0 c_17.length 1, .hs 3 0 c''''.length 1]) (c_17.set k_18.toNat (gt c_17 (gt c_17 k_18))).length (by kernel_rfl) (by kernel_rfl) (by simp)).trans ((Wk.gc [0, 5] [(0, true), (1, false), (2, false), (3, false)] rfl (pKt (pKM api_Mark_i64.K (iA .i64) (fun _ => rfl) c' (pKo (iC .i64) (iC_pure _) (c_17.set k_18.toNat (gt c_17 (gt c_17 k_18))) (pKo (iC .u64) (iC_pure _) c'''' trivial))))).to))
  ·refine .leave rfl ?_
   obtain rfl := oi hr
   exact ⟨rfl, ((Wk.gc [5] [(0, true), (1, false), (2, false), (3, false)] rfl (pKt (pKM api_Mark_i64.K (iA .i64) (fun _ => rfl) c' (pKo (iC .i64) (iC_pure _) c_17 (pKo (iC .u64) (iC_pure _) c'''' trivial))))).to)⟩
 ·rcases o28 with ⟨c_22, k_23⟩
  rintro x st' hq30
  clear hL29
  obtain ⟨rfl, hq30⟩ := hq30
  refine CQ_exit _ rfl (.wk hq30 (.seq (.r3 G 48 [(4, aI64 k_23)] (.ret ?_))))
  obtain rfl := oi hr
  exact FinMW.ret [aI64 k_23] ((Wk.gc [0] [(0, true), (1, false), (2, false), (3, false)] rfl (pKt (pKM api_Mark_i64.K (iA .i64) (fun _ => rfl) c' (pKo (iC .i64) (iC_pure _) c_22 (pKo (iC .u64) (iC_pure _) c'''' trivial))))).to)

theorem track_Prune_w_ok (n : Nat) (tracks : List (List api_Mark)) (least : Int) (r : List (List api_Mark)) (hr : track_Prune_w n tracks least = some r) : FnMut 0 Try.prog 37 [slT (slC api_Mark.c) tracks, aI64 least] [] (.hs 0 0 r.length 1) [.rows (rws 2 api_Mark.c r)] := by
 unfold track_Prune_w at hr
 refine FnMut.bodyW G Try.func37 (c := (Try.f37.body).getD .skip) rfl (us := [.hs 0 0 r.length 1]) (s := mkS 25 0 [(0, slT (slC api_Mark.c) tracks), (1, aI64 least)]) (by kernel_rfl) (rs := [.tmp 4]) rfl ?_
 unfold Try.f37
 simp only [Option.getD_some]
 refine .seq (.r4 G [0, 1] [] (.seq (.r4 G [0, 1] [(5, nS)] (.seq (.seq (.r4 G [1, 5] [(8, slT (slC api_Mark.c) tracks), (9, aI64 (tracks.length : Int)), (10, aI64 0)] (.block ?_)))))))
 replace hr := bd hr; obtain ⟨out_35, hL46, hr⟩ := hr
 refine .loopO (σ := fun z0 => match z0 with | (out_25, x_26) => ⟨mkS 25 0 [(1, aI64 least), (5, .hs 0 0 out_25.length 1), (8, slT (slC api_Mark.c) tracks), (9, aI64 (tracks.length : Int)), (10, aI64 x_26)], [.rows (rws 2 api_Mark.c out_25)]⟩) (Q := fun x st' => x = .exit 0 ∧ Wk 0 st' ⟨mkS 25 0 [(5, .hs 0 0 out_35.length 1)], [.rows (rws 2 api_Mark.c out_35)]⟩) hL46 ((Wk.nil 5 1 (by kernel_rfl)).trans ((Wk.mkT 0 (n := 0) 2 api_Mark.c).trans ((Wk.gc [1, 5, 8, 9, 10] [(0, false)] rfl (pKc trivial)).to))) ?_ ?_
 ·clear hr
  rintro m ⟨out_25, x_26⟩ hr
  show CQ _ _ _ _ _ ⟨_, _⟩
  refine .seq (.r4 G [1, 5, 8, 9, 10] [(11, aB (decide (x_26 < (tracks.length : Int))))] (.seq ?_))
  refine .cd hr (fun hb38 hr => ?_) (fun hb38 hr => ?_)
  ·refine .skip (.seq (.block (.seq ?_)))
   obtain ⟨hg39, hr⟩ := gd hr
   refine .r0 G (.p0 (v := .pp (tracks.flatMap (slC api_Mark.c)) (x_26.toNat * 1)) (tr (ofP_guard hg39)) (.p0 (v := slT api_Mark.c (gt tracks x_26)) (tr (ofP_some (flat_get (slC_len api_Mark.c) (inR_lt hg39) (by decide : 0 < 1) (by omega : x_26.toNat * 1 = x_26.toNat * 1 + 0) (by kernel_rfl)))) (.mu 1 (.done (.nh [1, 5, 7, 8, 9, 10] [.rows (rws 2 api_Mark.c out_25)] (.seq (.r4 G [1, 5, 7, 8, 9, 10] [(17, aB (decide (((gt tracks x_26).length : Int) ≥ least)))] ?_)))))))
   refine .cd hr (fun hb40 hr => ?_) (fun hb40 hr => ?_)
   ·obtain ⟨v41, hc42, hr⟩ := bd hr
    obtain ⟨hg43, hg44, hr⟩ := gd2 hr
    refine .g1 G (callOk_mutU (args := [slT api_Mark.c (gt tracks x_26)]) 0 1 [] [false] (slices_Clone_fiducial_api_Mark_fiducial_api_Mark_w_2_ok n (gt tracks x_26) v41 hc42) trivial (by exact ⟨ids_flat api_Mark.pure _, trivial⟩) rfl rfl (by kernel_rfl) (by kernel_rfl)) (.mu 2 (.ca cf0 (.mu 1 (.e0 (v := .hs 3 0 (out_25.length + 1) 1) (ws := [(0, .dead), (3, .rows (rws 2 api_Mark.c out_25 ++ [.av (.hs 1 0 v41.length 2)]))]) (Eq.trans (b := guardO (decide (out_25.length ≤ (rws 2 api_Mark.c out_25).length) && decide ((out_25.length + 1) * 24 ≤ 140737488355328) && decide (out_25.length + 1 ≤ 4611686018427387904) && true) (some (.eff (.hs 3 0 (out_25.length + 1) 1) [(0, .dead), (3, .rows ((rws 2 api_Mark.c out_25).take out_25.length ++ [.av (.hs 1 0 v41.length 2)]))]))) (by kernel_rfl) (rap rfl hg43 hg44)) (.mu 1 (.done (.pop (.ru G ?_))))))))
    exact loopF_back (out_25 ++ [v41], wrapF .i64 (x_26 + 1)) hr ((Wk.closeA 3 1 (x := v41) (es := 2) (c := api_Mark.c) (e := out_25) (len := v41.length) api_Mark.pure rfl).trans ((Wk.relen 5 (b := 3) (es := 1) (len := (out_25.length + 1)) (out_25 ++ [v41]).length (by kernel_rfl) (by simp)).trans ((Wk.gc [1, 5, 8, 9, 10] [(3, false)] rfl (pKr 2 api_Mark.c (out_25 ++ [v41]) trivial)).to)))
   ·refine .skip (.pop (.ru G ?_))
    exact loopF_back (out_25, wrapF .i64 (x_26 + 1)) hr ((Wk.gc [1, 5, 8, 9, 10] [(0, false)] rfl (pKr 2 api_Mark.c out_25 trivial)).to)
  ·refine .leave rfl ?_
   obtain rfl := oi hr
   exact ⟨rfl, ((Wk.gc [5] [(0, false)] rfl (pKr 2 api_Mark.c out_25 trivial)).to)⟩
 ·rintro x st' hq47
  clear hL46
  obtain ⟨rfl, hq47⟩ := hq47
  refine CQ_exit _ rfl (.wk hq47 (.seq (.r3 G 25 [(4, .hs 0 0 out_35.length 1)] (.ret ?_))))
  obtain rfl := oi hr
  exact FinMW.ret [.hs 0 0 out_35.length 1] ((Wk.gc [0] [(0, false)] rfl (pKr 2 api_Mark.c out_35 trivial)).to)

theorem fiducial_track_chains_tracks_w_ok (n : Nat) (c : List api_Tie) (c' : List (api_Mark × Int)) (c'' : List api_Mark) (c''' : List Int) (c'''' : List Int) (r : List Int × List (List api_Mark)) (hr : fiducial_track_chains_tracks_w n c c' c'' c''' c'''' = some r) : FnMut 1 Try.prog 49 [.hp 0 0] [.own [slT api_Tie.c c, .mp 1, .hs 2 0 c''.length 2, .hs 3 0 c'''.length 1, .hs 4 0 c''''.length 1], .map (c'.map (mpK api_Mark_i64.K (iA .i64))), .own (c''.flatMap api_Mark.c), .own (c'''.flatMap (iC .i64)), .own (c''''.flatMap (iC .u64))] (.hs 4 0 r.2.length 1) [.own [slT api_Tie.c c, .mp 1, slT api_Mark.c c'', .hs 2 0 r.1.length 1, .hs 3 0 c''''.length 1], .map (c'.map (mpK api_Mark_i64.K (iA .i64))), .own (r.1.flatMap (iC .i64)), .own (c''''.flatMap (iC .u64)), .rows (rws 2 api_Mark.c r.2)] := by
 unfold fiducial_track_chains_tracks_w at hr
 refine FnMut.bodyW G Try.func49 (c := (Try.f49.body).getD .skip) rfl (us := [.hs 4 0 r.2.length 1]) (s := mkS 57 0 [(0, .hp 0 0)]) (by kernel_rfl) (rs := [.tmp 2]) rfl ?_
 unfold Try.f49
 simp only [Option.getD_some]
 refine .seq (.r4 G [0] [] (.seq (.wk (((Wk.fix 2 (cs := (c''.flatMap api_Mark.c)) (by kernel_rfl)).trans (Wk.purcell 0 2 (b := 2) (len := c''.length) (es := 2) (cs := (c''.flatMap api_Mark.c)) (cs' := [slT api_Tie.c c, .mp 1, .hs 2 0 c''.length 2, .hs 3 0 c'''.length 1, .hs 4 0 c''''.length 1]) (by kernel_rfl) (by kernel_rfl) (by kernel_rfl) (ids_flat api_Mark.pure _) (fun h => flat_nil0 h))).to (c := ⟨mkS 57 0 [(0, .hp 0 0)], [.own [slT api_Tie.c c, .mp 1, slT api_Mark.c c'', .hs 3 0 c'''.length 1, .hs 4 0 c''''.length 1], .map (c'.map (mpK api_Mark_i64.K (iA .i64))), .fix (c''.flatMap api_Mark.c), .own (c'''.flatMap (iC .i64)), .own (c''''.flatMap (iC .u64))]⟩) (by kernel_rfl)) ?_)))
 obtain ⟨v46, hc47, hr⟩ := bd hr
 refine .g1 G (callOk_mutU (args := [slT api_Mark.c c'']) 0 1 [] [false] (slices_Clone_fiducial_api_Mark_fiducial_api_Mark_w_2_ok n c'' v46 hc47) trivial (by exact ⟨ids_flat api_Mark.pure _, trivial⟩) rfl rfl (by kernel_rfl) (by kernel_rfl)) (.mu 4 (.ca cf0 (.mu 1 (.done (.nh [0, 3] [.own [slT api_Tie.c c, .mp 1, slT api_Mark.c c'', .hs 3 0 c'''.length 1, .hs 4 0 c''''.length 1], .map (c'.map (mpK api_Mark_i64.K (iA .i64))), .fix (c''.flatMap api_Mark.c), .own (c'''.flatMap (iC .i64)), .own (c''''.flatMap (iC .u64)), .own (v46.flatMap api_Mark.c)] (.seq ?_))))))
 obtain ⟨v48, hc49, hr⟩ := bd hr
 obtain ⟨hg50, hr⟩ := gd hr
 refine .g1 G (callOk_mutU (args := [.hs 5 0 v46.length 2, .fn 75 [] []]) 1 0 [(5, false)] [false] (slices_SortFunc_fiducial_api_Mark_fiducial_api_Mark_w_of_track_compareMarks_ok n v46 v48 hc49) (by exact ⟨ids_flat api_Mark.pure _, trivial⟩) (by exact ⟨ids_flat api_Mark.pure _, trivial⟩) rfl rfl (by kernel_rfl) (by kernel_rfl)) (.mu 1 (.ca cf0 (.done (.nh [0, 3] [.own [slT api_Tie.c c, .mp 1, slT api_Mark.c c'', .hs 3 0 c'''.length 1, .hs 4 0 c''''.length 1], .map (c'.map (mpK api_Mark_i64.K (iA .i64))), .fix (c''.flatMap api_Mark.c), .own (c'''.flatMap (iC .i64)), .own (c''''.flatMap (iC .u64)), .own (v48.flatMap api_Mark.c)] (.seq (.r5 G [0, 3] [(4, .mp 6)] [.own [slT api_Tie.c c, .mp 1, slT api_Mark.c c'', .hs 3 0 c'''.length 1, .hs 4 0 c''''.length 1], .map (c'.map (mpK api_Mark_i64.K (iA .i64))), .fix (c''.flatMap api_Mark.c), .own (c'''.flatMap (iC .i64)), .own (c''''.flatMap (iC .u64)), .own (v48.flatMap api_Mark.c), .map (([] : List (Int × Int)).map (mpc .i64 (iA .i64)))] (.seq (.r4 G [0, 3, 4] [(5, nS)] (.seq (.seq (.r4 G [0, 4, 5] [(19, .hs 5 0 v46.length 2), (20, aI64 (v46.length : Int)), (21, aI64 0)] (.block ?_))))))))))))
 replace hr := bd hr; obtain ⟨o84, hL85, hr⟩ := hr
 refine .loopO (σ := fun z0 => match z0 with | (c_51, at_52, all_53, x_54) => ⟨mkS 57 0 [(0, .hp 0 0), (4, .mp 4), (5, .hs 5 0 all_53.length 1), (19, .hs 6 0 v48.length 2), (20, aI64 (v46.length : Int)), (21, aI64 x_54)], [.own [slT api_Tie.c c, .mp 1, slT api_Mark.c c'', .hs 2 0 c_51.length 1, .hs 3 0 c''''.length 1], .map (c'.map (mpK api_Mark_i64.K (iA .i64))), .own (c_51.flatMap (iC .i64)), .own (c''''.flatMap (iC .u64)), .map (at_52.map (mpc .i64 (iA .i64))), .rows (rws 2 api_Mark.c all_53), .own (v48.flatMap api_Mark.c)]⟩) (Q := fun x st' => match (generalizing := false) o84 with | (c_68, all_69) => x = .exit 0 ∧ Wk 1 st' ⟨mkS 57 0 [(5, .hs 4 0 all_69.length 1)], [.own [slT api_Tie.c c, .mp 1, slT api_Mark.c c'', .hs 2 0 c_68.length 1, .hs 3 0 c''''.length 1], .map (c'.map (mpK api_Mark_i64.K (iA .i64))), .own (c_68.flatMap (iC .i64)), .own (c''''.flatMap (iC .u64)), .rows (rws 2 api_Mark.c all_69)]⟩) hL85 ((Wk.nil 5 1 (by kernel_rfl)).trans ((Wk.mkT 7 (n := 0) 2 api_Mark.c).trans ((Wk.relen 19 (b := 5) (es := 2) (len := v46.length) v48.length (by kernel_rfl) (Eq.symm (of_decide_eq_true hg50))).trans ((Wk.gc [0, 4, 5, 19, 20, 21] [(0, true), (1, false), (3, false), (4, false), (6, false), (7, false), (5, false)] rfl (pKt (pKM api_Mark_i64.K (iA .i64) (fun _ => rfl) c' (pKo (iC .i64) (iC_pure _) c''' (pKo (iC .u64) (iC_pure _) c'''' (pKm (k := .i64) (iA .i64) (fun _ => rfl) ([] : List (Int × Int)) (pKc (pKo api_Mark.c api_Mark.pure v48 trivial)))))))).to)))) ?_ ?_
 ·clear hr
  rintro m ⟨c_51, at_52, all_53, x_54⟩ hr
  show CQ _ _ _ _ _ ⟨_, _⟩
  refine .seq (.r4 G [0, 4, 5, 19, 20, 21] [(22, aB (decide (x_54 < (v46.length : Int))))] (.seq ?_))
  refine .cd hr (fun hb71 hr => ?_) (fun hb71 hr => ?_)
  ·refine .skip (.seq (.block (.seq ?_)))
   obtain ⟨hg72, hr⟩ := gd hr
   refine .r0 G (.p0 (v := .hp 6 (0 + x_54.toNat * 2)) (tr (ofP_guard hg72)) (.p0 (v := .agg (api_Mark.c (gt v48 x_54))) (Eq.trans (b := ORes.ofP (guardV (decide (2 ≤ ((v48.flatMap api_Mark.c).drop (0 + x_54.toNat * 2)).length)) (.agg (((v48.flatMap api_Mark.c).drop (0 + x_54.toNat * 2)).take 2)))) (by kernel_rfl) (flat_load api_Mark.len (inR_lt hg72) (by decide) (by omega : 0 + x_54.toNat * 2 = x_54.toNat * 2 + 0) (by kernel_rfl))) (.mu 2 (.done (.nh [0, 4, 5, 7, 19, 20, 21] [.own [slT api_Tie.c c, .mp 1, slT api_Mark.c c'', .hs 2 0 c_51.length 1, .hs 3 0 c''''.length 1], .map (c'.map (mpK api_Mark_i64.K (iA .i64))), .own (c_51.flatMap (iC .i64)), .own (c''''.flatMap (iC .u64)), .map (at_52.map (mpc .i64 (iA .i64))), .rows (rws 2 api_Mark.c all_53), .own (v48.flatMap api_Mark.c), .own (api_Mark.c (gt v48 x_54))] (.seq ?_))))))
   obtain ⟨v73, hc74, hr⟩ := bd hr
   refine .g1 G (callOk_mutU (args := [.hp 0 0, .agg (api_Mark.c (gt v48 x_54))]) 1 3 [(0, true), (1, false), (2, false), (3, false)] [true, false, false, false] (fiducial_track_chains_find_w_2_ok n c c' c'' c_51 c'''' (gt v48 x_54) v73 hc74) (by exact ⟨ids_mpK (fun _ => rfl) _, ⟨ids_flat (iC_pure _) _, ⟨ids_flat (iC_pure _) _, trivial⟩⟩⟩) (by exact ⟨ids_mpK (fun _ => rfl) _, ⟨ids_flat (iC_pure _) _, ⟨ids_flat (iC_pure _) _, trivial⟩⟩⟩) rfl rfl (by kernel_rfl) (by kernel_rfl)) (.mu 2 (.ca cf0 (.mu 1 (.done (.nh [0, 4, 5, 7, 8, 19, 20, 21] [.own [slT api_Tie.c c, .mp 8, slT api_Mark.c c'', .hs 9 0 v73.1.length 1, .hs 10 0 c''''.length 1], .dead, .dead, .dead, .map (at_52.map (mpc .i64 (iA .i64))), .rows (rws 2 api_Mark.c all_53), .own (v48.flatMap api_Mark.c), .own (api_Mark.c (gt v48 x_54)), .map (c'.map (mpK api_Mark_i64.K (iA .i64))), .own (v73.1.flatMap (iC .i64)), .own (c''''.flatMap (iC .u64))] (.seq (.r0 G (.mu 2 (.p0 (v := .tup [aI64 (getM 0 at_52 v73.2), aB (hasM at_52 v73.2)]) (Eq.trans (b := ORes.ofP (lookupA Try.prog [.own [slT api_Tie.c c, .mp 8, slT api_Mark.c c'', .hs 9 0 v73.1.length 1, .hs 10 0 c''''.length 1], .dead, .dead, .dead, .map (at_52.map (mpc .i64 (iA .i64))), .rows (rws 2 api_Mark.c all_53), .own (v48.flatMap api_Mark.c), .own (api_Mark.c (gt v48 x_54)), .map (c'.map (mpK api_Mark_i64.K (iA .i64))), .own (v73.1.flatMap (iC .i64)), .own (c''''.flatMap (iC .u64))] 103 (.mp 4) (aI64 v73.2) true)) (by kernel_rfl) (look_m2 (kt := 3) (e := 3) (l := at_52) (f := (iA .i64)) (z := 0) (by kernel_rfl) (by kernel_rfl) (by kernel_rfl) (by kernel_rfl))) (.mu 5 (.done (.nh [0, 4, 5, 7, 8, 9, 10, 19, 20, 21] [.own [slT api_Tie.c c, .mp 8, slT api_Mark.c c'', .hs 9 0 v73.1.length 1, .hs 10 0 c''''.length 1], .dead, .dead, .dead, .map (at_52.map (mpc .i64 (iA .i64))), .rows (rws 2 api_Mark.c all_53), .own (v48.flatMap api_Mark.c), .own (api_Mark.c (gt v48 x_54)), .map (c'.map (mpK api_Mark_i64.K (iA .i64))), .own (v73.1.flatMap (iC .i64)), .own (c''''.flatMap (iC .u64))] (.seq (.seq (.r4 G [0, 4, 5, 7, 8, 9, 19, 20, 21] [(35, aB (!(hasM at_52 v73.2)))] ?_)))))))))))))))
   refine .cd hr (fun hb75 hr => ?_) (fun hb75 hr => ?_)
   ·refine .seq (.r4 G [0, 4, 5, 7, 8, 19, 20, 21] [(9, aI64 (all_53.length : Int))] (.seq (.r0 G (.mu 3 (.e0 (v := .unk) (ws := [(4, .map ((putM at_52 v73.2 (all_53.length : Int)).map (mpc .i64 (iA .i64))))]) (Eq.trans (b := opUpdate Try.prog [.own [slT api_Tie.c c, .mp 8, slT api_Mark.c c'', .hs 9 0 v73.1.length 1, .hs 10 0 c''''.length 1], .dead, .dead, .dead, .map (at_52.map (mpc .i64 (iA .i64))), .rows (rws 2 api_Mark.c all_53), .own (v48.flatMap api_Mark.c), .own (api_Mark.c (gt v48 x_54)), .map (c'.map (mpK api_Mark_i64.K (iA .i64))), .own (v73.1.flatMap (iC .i64)), .own (c''''.flatMap (iC .u64))] 103 (.mp 4) (aI64 v73.2) (aI64 (all_53.length : Int))) (by kernel_rfl) (put_m (kt := 3) (e := 3) (l := at_52) (f := (iA .i64)) (v := (all_53.length : Int)) (by kernel_rfl) (by kernel_rfl) (by kernel_rfl))) (.done (.nh [0, 4, 5, 7, 9, 19, 20, 21] [.own [slT api_Tie.c c, .mp 8, slT api_Mark.c c'', .hs 9 0 v73.1.length 1, .hs 10 0 c''''.length 1], .dead, .dead, .dead, .map ((putM at_52 v73.2 (all_53.length : Int)).map (mpc .i64 (iA .i64))), .rows (rws 2 api_Mark.c all_53), .own (v48.flatMap api_Mark.c), .own (api_Mark.c (gt v48 x_54)), .map (c'.map (mpK api_Mark_i64.K (iA .i64))), .own (v73.1.flatMap (iC .i64)), .own (c''''.flatMap (iC .u64))] ?_)))))))
    obtain ⟨hg76, hg77, hr⟩ := gd2 hr
    refine .r0 G (.mu 2 (.e0 (v := .hs 12 0 (all_53.length + 1) 1) (ws := [(5, .dead), (12, .rows (rws 2 api_Mark.c all_53 ++ [.av (nS)]))]) (Eq.trans (b := guardO (decide (all_53.length ≤ (rws 2 api_Mark.c all_53).length) && decide ((all_53.length + 1) * 24 ≤ 140737488355328) && decide (all_53.length + 1 ≤ 4611686018427387904) && true) (some (.eff (.hs 12 0 (all_53.length + 1) 1) [(5, .dead), (12, .rows ((rws 2 api_Mark.c all_53).take all_53.length ++ [.av (nS)]))]))) (by kernel_rfl) (rap rfl hg76 hg77)) (.mu 1 (.done (.nh [0, 4, 5, 7, 9, 19, 20, 21] [.own [slT api_Tie.c c, .mp 8, slT api_Mark.c c'', .hs 9 0 v73.1.length 1, .hs 10 0 c''''.length 1], .dead, .dead, .dead, .map ((putM at_52 v73.2 (all_53.length : Int)).map (mpc .i64 (iA .i64))), .dead, .own (v48.flatMap api_Mark.c), .own (api_Mark.c (gt v48 x_54)), .map (c'.map (mpK api_Mark_i64.K (iA .i64))), .own (v73.1.flatMap (iC .i64)), .own (c''''.flatMap (iC .u64)), .own [nS], .rows (rws 2 api_Mark.c all_53 ++ [.av (nS)])] (.wk ((Wk.nilA 12 (es := 2) (c := api_Mark.c) (e := all_53)).to (c := ⟨mkS 57 0 [(0, .hp 0 0), (4, .mp 4), (5, .hs 12 0 (all_53.length + 1) 1), (7, .hp 7 0), (9, aI64 (all_53.length : Int)), (19, .hs 6 0 v48.length 2), (20, aI64 (v46.length : Int)), (21, aI64 x_54)], [.own [slT api_Tie.c c, .mp 8, slT api_Mark.c c'', .hs 9 0 v73.1.length 1, .hs 10 0 c''''.length 1], .dead, .dead, .dead, .map ((putM at_52 v73.2 (all_53.length : Int)).map (mpc .i64 (iA .i64))), .dead, .own (v48.flatMap api_Mark.c), .own (api_Mark.c (gt v48 x_54)), .map (c'.map (mpK api_Mark_i64.K (iA .i64))), .own (v73.1.flatMap (iC .i64)), .own (c''''.flatMap (iC .u64)), .own [nS], .rows (rws 2 api_Mark.c (all_53 ++ [([] : List api_Mark)]))]⟩) (by kernel_rfl)) (.wk ((Wk.relen 5 (b := 12) (es := 1) (len := (all_53.length + 1)) (all_53 ++ [([] : List api_Mark)]).length (by kernel_rfl) (by simp)).to (c := ⟨mkS 57 0 [(0, .hp 0 0), (4, .mp 4), (5, .hs 12 0 (all_53 ++ [([] : List api_Mark)]).length 1), (7, .hp 7 0), (9, aI64 (all_53.length : Int)), (19, .hs 6 0 v48.length 2), (20, aI64 (v46.length : Int)), (21, aI64 x_54)], [.own [slT api_Tie.c c, .mp 8, slT api_Mark.c c'', .hs 9 0 v73.1.length 1, .hs 10 0 c''''.length 1], .dead, .dead, .dead, .map ((putM at_52 v73.2 (all_53.length : Int)).map (mpc .i64 (iA .i64))), .dead, .own (v48.flatMap api_Mark.c), .own (api_Mark.c (gt v48 x_54)), .map (c'.map (mpK api_Mark_i64.K (iA .i64))), .own (v73.1.flatMap (iC .i64)), .own (c''''.flatMap (iC .u64)), .own [nS], .rows (rws 2 api_Mark.c (all_53 ++ [([] : List api_Mark)]))]⟩) (by kernel_rfl)) ?_)))))))
    obtain ⟨hg78, hr⟩ := gd hr
    refine .wk ((Wk.openT 12 (es := 2) (c := api_Mark.c) (e := all_53 ++ [([] : List api_Mark)]) hg78).to (c := ⟨mkS 57 0 [(0, .hp 0 0), (4, .mp 4), (5, .hs 12 0 (all_53 ++ [([] : List api_Mark)]).length 1), (7, .hp 7 0), (9, aI64 (all_53.length : Int)), (19, .hs 6 0 v48.length 2), (20, aI64 (v46.length : Int)), (21, aI64 x_54)], [.own [slT api_Tie.c c, .mp 8, slT api_Mark.c c'', .hs 9 0 v73.1.length 1, .hs 10 0 c''''.length 1], .dead, .dead, .dead, .map ((putM at_52 v73.2 (all_53.length : Int)).map (mpc .i64 (iA .i64))), .dead, .own (v48.flatMap api_Mark.c), .own (api_Mark.c (gt v48 x_54)), .map (c'.map (mpK api_Mark_i64.K (iA .i64))), .own (v73.1.flatMap (iC .i64)), .own (c''''.flatMap (iC .u64)), .own [nS], .rows ((rws 2 api_Mark.c (all_53 ++ [([] : List api_Mark)])).set (all_53.length : Int).toNat (.av (.hs 13 0 (gt (all_53 ++ [([] : List api_Mark)]) (all_53.length : Int)).length 2))), .own ((gt (all_53 ++ [([] : List api_Mark)]) (all_53.length : Int)).flatMap api_Mark.c)]⟩) (by kernel_rfl)) ?_
    obtain ⟨hg79, hg80, hr⟩ := gd2 hr
    refine .regionT G callOf_nil (.mu 4 (.pure (v := .hp 12 (0 + (all_53.length : Int).toNat * 1)) (by kernel_rfl) (tr (ofP_guard hg78)) (by kernel_rfl) (.pure (v := .hs 13 0 (gt (all_53 ++ [([] : List api_Mark)]) (all_53.length : Int)).length 2) (by kernel_rfl) (Eq.trans (b := ORes.ofP (rcAt ((rws 2 api_Mark.c (all_53 ++ [([] : List api_Mark)])).set (all_53.length : Int).toNat (.av (.hs 13 0 (gt (all_53 ++ [([] : List api_Mark)]) (all_53.length : Int)).length 2)))[0 + (all_53.length : Int).toNat * 1]?)) (by kernel_rfl) (rld hg78 (by omega))) (by kernel_rfl) (.mu 2 (.eff (v := .hs 15 0 ((gt (all_53 ++ [([] : List api_Mark)]) (all_53.length : Int)) ++ [(gt v48 x_54)]).length 2) (ws := [(13, .dead), (15, .own (((gt (all_53 ++ [([] : List api_Mark)]) (all_53.length : Int)) ++ [(gt v48 x_54)]).flatMap api_Mark.c))]) (by kernel_rfl) (tr (app_own (new := (api_Mark.c (gt v48 x_54))) (l := gt (all_53 ++ [([] : List api_Mark)]) (all_53.length : Int)) (xs := [(gt v48 x_54)]) api_Mark.len rfl rfl (by kernel_rfl) hg79 hg80)) (by kernel_rfl) (.pure (v := .hp 12 (0 + (all_53.length : Int).toNat * 1)) (by kernel_rfl) (tr (ofP_guard hg78)) (by kernel_rfl) (.eff (v := .unk) (ws := [(12, .rows ((rws 2 api_Mark.c (all_53 ++ [([] : List api_Mark)])).set (all_53.length : Int).toNat (.av (.hs 15 0 ((gt (all_53 ++ [([] : List api_Mark)]) (all_53.length : Int)) ++ [(gt v48 x_54)]).length 2))))]) (by kernel_rfl) (Eq.trans (b := stO (decide (0 + (all_53.length : Int).toNat * 1 < ((rws 2 api_Mark.c (all_53 ++ [([] : List api_Mark)])).set (all_53.length : Int).toNat (.av (.hs 13 0 (gt (all_53 ++ [([] : List api_Mark)]) (all_53.length : Int)).length 2))).length) && true) [(12, .rows (((rws 2 api_Mark.c (all_53 ++ [([] : List api_Mark)])).set (all_53.length : Int).toNat (.av (.hs 13 0 (gt (all_53 ++ [([] : List api_Mark)]) (all_53.length : Int)).length 2))).set (0 + (all_53.length : Int).toNat * 1) (.av (.hs 15 0 ((gt (all_53 ++ [([] : List api_Mark)]) (all_53.length : Int)) ++ [(gt v48 x_54)]).length 2))))]) (by kernel_rfl) (rst hg78 (by omega))) (by kernel_rfl) ?_)))))))
    refine .done ⟨by kernel_rfl, ?_⟩
    refine .pop (.ru G ?_)
    exact loopF_back (v73.1, putM at_52 v73.2 (all_53.length : Int), (all_53 ++ [([] : List api_Mark)]).set (all_53.length : Int).toNat ((gt (all_53 ++ [([] : List api_Mark)]) (all_53.length : Int)) ++ [(gt v48 x_54)]), wrapF .i64 (x_54 + 1)) hr ((Wk.closeT 12 15 (x := (gt (all_53 ++ [([] : List api_Mark)]) (all_53.length : Int)) ++ [(gt v48 x_54)]) (es := 2) (c := api_Mark.c) (e := all_53 ++ [([] : List api_Mark)]) (i := (all_53.length : Int)) (len := ((gt (all_53 ++ [([] : List api_Mark)]) (all_53.length : Int)) ++ [(gt v48 x_54)]).length) api_Mark.pure hg78 rfl).trans ((Wk.relen 5 (b := 12) (es := 1) (len := (all_53 ++ [([] : List api_Mark)]).length) ((all_53 ++ [([] : List api_Mark)]).set (all_53.length : Int).toNat ((gt (all_53 ++ [([] : List api_Mark)]) (all_53.length : Int)) ++ [(gt v48 x_54)])).length (by kernel_rfl) (Eq.symm (List.length_set.trans rfl))).trans ((Wk.gc [0, 4, 5, 19, 20, 21] [(0, true), (8, false), (9, false), (10, false), (4, false), (12, false), (6, false)] rfl (pKt (pKM api_Mark_i64.K (iA .i64) (fun _ => rfl) c' (pKo (iC .i64) (iC_pure _) v73.1 (pKo (iC .u64) (iC_pure _) c'''' (pKm (k := .i64) (iA .i64) (fun _ => rfl) (putM at_52 v73.2 (all_53.length : Int)) (pKr 2 api_Mark.c ((all_53 ++ [([] : List api_Mark)]).set (all_53.length : Int).toNat ((gt (all_53 ++ [([] : List api_Mark)]) (all_53.length : Int)) ++ [(gt v48 x_54)])) (pKo api_Mark.c api_Mark.pure v48 trivial)))))))).to)))
   ·refine .skip ?_
    obtain ⟨hg81, hr⟩ := gd hr
    refine .wk ((Wk.openT 5 (es := 2) (c := api_Mark.c) (e := all_53) hg81).to (c := ⟨mkS 57 0 [(0, .hp 0 0), (4, .mp 4), (5, .hs 5 0 all_53.length 1), (7, .hp 7 0), (8, aI64 v73.2), (9, aI64 (getM 0 at_52 v73.2)), (19, .hs 6 0 v48.length 2), (20, aI64 (v46.length : Int)), (21, aI64 x_54), (35, aB (!(hasM at_52 v73.2)))], [.own [slT api_Tie.c c, .mp 8, slT api_Mark.c c'', .hs 9 0 v73.1.length 1, .hs 10 0 c''''.length 1], .dead, .dead, .dead, .map (at_52.map (mpc .i64 (iA .i64))), .rows ((rws 2 api_Mark.c all_53).set (getM 0 at_52 v73.2).toNat (.av (.hs 11 0 (gt all_53 (getM 0 at_52 v73.2)).length 2))), .own (v48.flatMap api_Mark.c), .own (api_Mark.c (gt v48 x_54)), .map (c'.map (mpK api_Mark_i64.K (iA .i64))), .own (v73.1.flatMap (iC .i64)), .own (c''''.flatMap (iC .u64)), .own ((gt all_53 (getM 0 at_52 v73.2)).flatMap api_Mark.c)]⟩) (by kernel_rfl)) ?_
    obtain ⟨hg82, hg83, hr⟩ := gd2 hr
    refine .regionT G callOf_nil (.mu 4 (.pure (v := .hp 5 (0 + (getM 0 at_52 v73.2).toNat * 1)) (by kernel_rfl) (tr (ofP_guard hg81)) (by kernel_rfl) (.pure (v := .hs 11 0 (gt all_53 (getM 0 at_52 v73.2)).length 2) (by kernel_rfl) (Eq.trans (b := ORes.ofP (rcAt ((rws 2 api_Mark.c all_53).set (getM 0 at_52 v73.2).toNat (.av (.hs 11 0 (gt all_53 (getM 0 at_52 v73.2)).length 2)))[0 + (getM 0 at_52 v73.2).toNat * 1]?)) (by kernel_rfl) (rld hg81 (by omega))) (by kernel_rfl) (.mu 2 (.eff (v := .hs 13 0 ((gt all_53 (getM 0 at_52 v73.2)) ++ [(gt v48 x_54)]).length 2) (ws := [(11, .dead), (13, .own (((gt all_53 (getM 0 at_52 v73.2)) ++ [(gt v48 x_54)]).flatMap api_Mark.c))]) (by kernel_rfl) (tr (app_own (new := (api_Mark.c (gt v48 x_54))) (l := gt all_53 (getM 0 at_52 v73.2)) (xs := [(gt v48 x_54)]) api_Mark.len rfl rfl (by kernel_rfl) hg82 hg83)) (by kernel_rfl) (.pure (v := .hp 5 (0 + (getM 0 at_52 v73.2).toNat * 1)) (by kernel_rfl) (tr (ofP_guard hg81)) (by kernel_rfl) (.eff (v := .unk) (ws := [(5, .rows ((rws 2 api_Mark.c all_53).set (getM 0 at_52 v73.2).toNat (.av (.hs 13 0 ((gt all_53 (getM 0 at_52 v73.2)) ++ [(gt v48 x_54)]).length 2))))]) (by kernel_rfl) (Eq.trans (b := stO (decide (0 + (getM 0 at_52 v73.2).toNat * 1 < ((rws 2 api_Mark.c all_53).set (getM 0 at_52 v73.2).toNat (.av (.hs 11 0 (gt all_53 (getM 0 at_52 v73.2)).length 2))).length) && true) [(5, .rows (((rws 2 api_Mark.c all_53).set (getM 0 at_52 v73.2).toNat (.av (.hs 11 0 (gt all_53 (getM 0 at_52 v73.2)).length 2))).set (0 + (getM 0 at_52 v73.2).toNat * 1) (.av (.hs 13 0 ((gt all_53 (getM 0 at_52 v73.2)) ++ [(gt v48 x_54)]).length 2))))]) (by kernel_rfl) (rst hg81 (by omega))) (by kernel_rfl) ?_)))))))
    refine .done ⟨by kernel_rfl, ?_⟩
    refine .pop (.ru G ?_)
    exact loopF_back (v73.1, at_52, all_53.set (getM 0 at_52 v73.2).toNat ((gt all_53 (getM 0 at_52 v73.2)) ++ [(gt v48 x_54)]), wrapF .i64 (x_54 + 1)) hr ((Wk.closeT 5 13 (x := (gt all_53 (getM 0 at_52 v73.2)) ++ [(gt v48 x_54)]) (es := 2) (c := api_Mark.c) (e := all_53) (i := (getM 0 at_52 v73.2)) (len := ((gt all_53 (getM 0 at_52 v73.2)) ++ [(gt v48 x_54)]).length) api_Mark.pure hg81 rfl).trans ((Wk.relen 5 (b := 5) (es := 1) (len := all_53.length) (all_53.set (getM 0 at_52 v73.2).toNat ((gt all_53 (getM 0 at_52 v73.2)) ++ [(gt v48 x_54)])).length (by kernel_rfl) (Eq.symm (List.length_set.trans rfl))).trans ((Wk.gc [0, 4, 5, 19, 20, 21] [(0, true), (8, false), (9, false), (10, false), (4, false), (5, false), (6, false)] rfl (pKt (pKM api_Mark_i64.K (iA .i64) (fun _ => rfl) c' (pKo (iC .i64) (iC_pure _) v73.1 (pKo (iC .u64) (iC_pure _) c'''' (pKm (k := .i64) (iA .i64) (fun _ => rfl) at_52 (pKr 2 api_Mark.c (all_53.set (getM 0 at_52 v73.2).toNat ((gt all_53 (getM 0 at_52 v73.2)) ++ [(gt v48 x_54)])) (pKo api_Mark.c api_Mark.pure v48 trivial)))))))).to)))
  ·refine .leave rfl ?_
   obtain rfl := oi hr
   exact ⟨rfl, ((Wk.gc [5] [(0, true), (1, false), (2, false), (3, false), (5, false)] rfl (pKt (pKM api_Mark_i64.K (iA .i64) (fun _ => rfl) c' (pKo (iC .i64) (iC_pure _) c_51 (pKo (iC .u64) (iC_pure _) c'''' (pKr 2 api_Mark.c all_53 trivial)))))).to)⟩
 ·rcases o84 with ⟨c_68, all_69⟩
  rintro x st' hq86
  clear hL85
  obtain ⟨rfl, hq86⟩ := hq86
  refine CQ_exit _ rfl (.wk hq86 (.seq (.wk ((Wk.fixT 4 (es := 2) (c := api_Mark.c) (e := all_69)).to (c := ⟨mkS 57 0 [(5, .hs 4 0 all_69.length 1)], [.own [slT api_Tie.c c, .mp 1, slT api_Mark.c c'', .hs 2 0 c_68.length 1, .hs 3 0 c''''.length 1], .map (c'.map (mpK api_Mark_i64.K (iA .i64))), .own (c_68.flatMap (iC .i64)), .own (c''''.flatMap (iC .u64)), .fix (all_69.flatMap (slC api_Mark.c))]⟩) (by kernel_rfl)) (.wk ((Wk.purify 5 (b := 4) (len := all_69.length) (es := 1) (cs := (all_69.flatMap (slC api_Mark.c))) (by kernel_rfl) (by kernel_rfl) (ids_flat (slC_pure _) _) (fun h => flat_nil0 h)).to (c := ⟨mkS 57 0 [(5, slT (slC api_Mark.c) all_69)], [.own [slT api_Tie.c c, .mp 1, slT api_Mark.c c'', .hs 2 0 c_68.length 1, .hs 3 0 c''''.length 1], .map (c'.map (mpK api_Mark_i64.K (iA .i64))), .own (c_68.flatMap (iC .i64)), .own (c''''.flatMap (iC .u64)), .fix (all_69.flatMap (slC api_Mark.c))]⟩) (by kernel_rfl)) ?_))))
  obtain ⟨v87, hc88, hr⟩ := bd hr
  refine .g1 G (callOk_mutU (args := [slT (slC api_Mark.c) all_69, aI64 2]) 0 1 [] [false] (track_Prune_w_ok n all_69 2 v87 hc88) trivial (by exact ⟨rws_ids, trivial⟩) rfl rfl (by kernel_rfl) (by kernel_rfl)) (.mu 1 (.ca cf0 (.mu 1 (.done (.nh [2] [.own [slT api_Tie.c c, .mp 1, slT api_Mark.c c'', .hs 2 0 c_68.length 1, .hs 3 0 c''''.length 1], .map (c'.map (mpK api_Mark_i64.K (iA .i64))), .own (c_68.flatMap (iC .i64)), .own (c''''.flatMap (iC .u64)), .fix (all_69.flatMap (slC api_Mark.c)), .rows (rws 2 api_Mark.c v87)] (.ret ?_))))))
  obtain rfl := oi hr
  exact FinMW.ret [.hs 5 0 v87.length 1] ((Wk.gc [0] [(0, true), (1, false), (2, false), (3, false), (5, false)] rfl (pKt (pKM api_Mark_i64.K (iA .i64) (fun _ => rfl) c' (pKo (iC .i64) (iC_pure _) c_68 (pKo (iC .u64) (iC_pure _) c'''' (pKr 2 api_Mark.c v87 trivial)))))).to)

theorem track_Chain_w_ok (n : Nat) (ties : List api_Tie) (r : List (List api_Mark) × Int) (hr : track_Chain_w n ties = some r) : FnMut 0 Try.prog 16 [slT api_Tie.c ties] [] (.tup [.hs 0 0 r.1.length 1, aI64 r.2]) [.rows (rws 2 api_Mark.c r.1)] := by
 unfold track_Chain_w at hr
 refine FnMut.bodyW G Try.func16 (c := (Try.f16.body).getD .skip) rfl (us := [.hs 0 0 r.1.length 1, aI64 r.2]) (s := mkS 13 0 [(0, slT api_Tie.c ties)]) (by kernel_rfl) (rs := [.tmp 2, .tmp 3]) rfl ?_
 unfold Try.f16
 simp only [Option.getD_some]
 refine .seq (.r4 G [0] [] (.seq (.seq ?_)))
 obtain ⟨v10, hc11, hr⟩ := bd hr
 refine .g1 G (ok0 (track_Check_ok n ties v10 hc11)) (.mu 1 (.ca cf0 (.mu 1 (.done (.nh [0, 4] [] (.seq (.r4 G [0, 4] [(8, aB ((v10 : Int) != 0))] ?_)))))))
 refine .cd hr (fun hb12 hr => ?_) (fun hb12 hr => ?_)
 ·refine .seq (.r3 G 13 [(2, nS), (3, aI64 v10)] (.ret ?_))
  obtain rfl := oi hr
  exact FinMW.ret [nS, aI64 v10] ((Wk.nil 0 1 (by kernel_rfl)).trans ((Wk.mkT 0 (n := 0) 2 api_Mark.c).trans ((Wk.gc [0, 1] [(0, false)] rfl (pKc trivial)).to)))
 ·refine .skip (.seq ?_)
  obtain ⟨v13, hc14, v15, hc16, hr⟩ := bd2 hr
  refine .gn G (ca1 (callOk_mutU (args := [slT api_Tie.c ties]) 0 5 [] [true, false, false, false, false] (track_chained_w_ok n ties v13 hc14) trivial (by exact ⟨ids_mpK (fun _ => rfl) _, ⟨ids_flat api_Mark.pure _, ⟨ids_flat (iC_pure _) _, ⟨ids_flat (iC_pure _) _, trivial⟩⟩⟩⟩) rfl rfl (by kernel_rfl) (by kernel_rfl)) (ca4 [.own [slT api_Tie.c v13.1, .mp 1, .hs 2 0 v13.2.2.1.length 2, .hs 3 0 v13.2.2.2.1.length 1, .hs 4 0 v13.2.2.2.2.length 1], .map (v13.2.1.map (mpK api_Mark_i64.K (iA .i64))), .own (v13.2.2.1.flatMap api_Mark.c), .own (v13.2.2.2.1.flatMap (iC .i64)), .own (v13.2.2.2.2.flatMap (iC .u64))] (callOk_mutU (args := [.hp 0 0]) 1 4 [(0, true), (1, false), (2, false), (3, false), (4, false)] [true, false, false, false, false] (fiducial_track_chains_tracks_w_ok n v13.1 v13.2.1 v13.2.2.1 v13.2.2.2.1 v13.2.2.2.2 v15 hc16) (by exact ⟨ids_mpK (fun _ => rfl) _, ⟨ids_flat api_Mark.pure _, ⟨ids_flat (iC_pure _) _, ⟨ids_flat (iC_pure _) _, trivial⟩⟩⟩⟩) (by exact ⟨ids_mpK (fun _ => rfl) _, ⟨ids_flat (iC_pure _) _, ⟨ids_flat (iC_pure _) _, ⟨rws_ids, trivial⟩⟩⟩⟩) rfl rfl (by kernel_rfl) (by kernel_rfl)))) (.mu 1 (.ca cf0 (.ca (cfF cf0) (.mu 2 (.done (.nh [2, 3] [.own [slT api_Tie.c v13.1, .mp 5, slT api_Mark.c v13.2.2.1, .hs 6 0 v15.1.length 1, .hs 7 0 v13.2.2.2.2.length 1], .dead, .dead, .dead, .dead, .map (v13.2.1.map (mpK api_Mark_i64.K (iA .i64))), .own (v15.1.flatMap (iC .i64)), .own (v13.2.2.2.2.flatMap (iC .u64)), .rows (rws 2 api_Mark.c v15.2)] (.ret ?_)))))))
  obtain rfl := oi hr
  exact FinMW.ret [.hs 8 0 v15.2.length 1, aI64 0] ((Wk.gc [0, 1] [(8, false)] rfl (pKr 2 api_Mark.c v15.2 trivial)).to)

theorem slices_Equal_fiducial_api_Mark_fiducial_api_Mark_ok (n : Nat) (s1 : List api_Mark) (s2 : List api_Mark) (r : Bool) (hr : slices_Equal_fiducial_api_Mark_fiducial_api_Mark n s1 s2 = some r) : FnOk Try.prog 52 [slT api_Mark.c s1, slT api_Mark.c s2] (aB r) := by
 unfold slices_Equal_fiducial_api_Mark_fiducial_api_Mark at hr
 refine FnOk.bd G Try.func52 [.tmp 4] ?_
 unfold Try.f52
 simp only [Option.getD_some]
 refine .seq (.r4 G [0, 1] [] (.seq (.seq (.r4 G [0, 1] [(10, aB (((s1.length : Int) : Int) != (s2.length : Int)))] ?_))))
 refine .cd hr (fun hb1 hr => ?_) (fun hb1 hr => ?_)
 ·refine .seq (.ru G (.ret ?_))
  obtain rfl := oi hr
  exact FinQ.r1 [aB false]
 ·refine .skip (.seq (.seq (.r4 G [0, 1] [(12, aI64 (s1.length : Int)), (13, aI64 0)] (.block ?_))))
  replace hr := bd hr; obtain ⟨o12, hL13, hr⟩ := hr
  refine .loopO (σ := fun z0 => match z0 with | x_2 => ⟨mkS 26 0 [(0, slT api_Mark.c s1), (1, slT api_Mark.c s2), (12, aI64 (s1.length : Int)), (13, aI64 x_2)], []⟩) (Q := fun x st' => match (generalizing := false) o12 with | .inl _ => x = .exit 0 ∧ Wk 0 st' ⟨mkS 26 0 [], []⟩ | .inr (r0) => x = .ret ∧ FinQ Try.prog [.tmp 4] (aB r0) .ret st') hL13 ((Wk.gc [0, 1, 12, 13] [] rfl pK0).to) ?_ ?_
  ·clear hr
   rintro m x_2 hr
   show CQ _ _ _ _ _ ⟨_, _⟩
   refine .seq (.r4 G [0, 1, 12, 13] [(14, aB (decide (x_2 < (s1.length : Int))))] (.seq ?_))
   refine .cd hr (fun hb8 hr => ?_) (fun hb8 hr => ?_)
   ·refine .skip (.seq (.block (.seq (.r4 G [0, 1, 12, 13] [(5, aI64 x_2)] (.seq ?_)))))
    obtain ⟨hg9, hg10, hr⟩ := gd2 hr
    refine .regionT G callOf_nil (.mu 2 (.pure (v := .pp (s1.flatMap api_Mark.c) (x_2.toNat * 2)) (by kernel_rfl) (tr (ofP_guard hg9)) (by kernel_rfl) (.pure (v := .agg (api_Mark.c (gt s1 x_2))) (by kernel_rfl) (Eq.trans (b := ORes.ofP (guardV (decide (2 ≤ ((s1.flatMap api_Mark.c).drop (x_2.toNat * 2)).length)) (.agg (((s1.flatMap api_Mark.c).drop (x_2.toNat * 2)).take 2)))) (by kernel_rfl) (flat_load api_Mark.len (inR_lt hg9) (by decide) (by omega : x_2.toNat * 2 = x_2.toNat * 2 + 0) (by kernel_rfl))) (by kernel_rfl) (.mu 2 (.pure (v := .pp (s2.flatMap api_Mark.c) (x_2.toNat * 2)) (by kernel_rfl) (tr (ofP_guard hg10)) (by kernel_rfl) (.pure (v := .agg (api_Mark.c (gt s2 x_2))) (by kernel_rfl) (Eq.trans (b := ORes.ofP (guardV (decide (2 ≤ ((s2.flatMap api_Mark.c).drop (x_2.toNat * 2)).length)) (.agg (((s2.flatMap api_Mark.c).drop (x_2.toNat * 2)).take 2)))) (by kernel_rfl) (flat_load api_Mark.len (inR_lt hg10) (by decide) (by omega : x_2.toNat * 2 = x_2.toNat * 2 + 0) (by kernel_rfl))) (by kernel_rfl) (.mu 1 ?_)))))))
    refine .done ⟨by kernel_rfl, ?_⟩
    refine .nh [0, 1, 12, 13, 24] [] ?_
    refine .cd hr (fun hb11 hr => ?_) (fun hb11 hr => ?_)
    ·refine .seq (.ru G (.ret ?_))
     obtain rfl := oi hr
     exact ⟨rfl, FinQ.ret (vs := [aB false]) (by kernel_rfl) (Sn.pure rfl)⟩
    ·refine .skip (.pop (.ru G ?_))
     exact loopF_back (wrapF .i64 (x_2 + 1)) hr ((Wk.gc [0, 1, 12, 13] [] rfl pK0).to)
   ·refine .leave rfl ?_
    obtain rfl := oi hr
    exact ⟨rfl, ((Wk.gc [] [] rfl pK0).to)⟩
  ·rcases o12 with ⟨⟩ | r0
   ·rintro x st' hq14
    clear hL13
    obtain ⟨rfl, hq14⟩ := hq14
    refine CQ_exit _ rfl (.wk hq14 (.seq (.ru G (.ret ?_))))
    obtain rfl := oi hr
    exact FinQ.r1 [aB true]
   ·rintro x st' hq14
    clear hL13
    obtain ⟨rfl, hq14⟩ := hq14
    obtain rfl := oi hr
    exact CQ_ret _ hq14

theorem fiduciallaw26_Same_1_ok (n : Nat) (x' : List api_Mark) (y : List api_Mark) (r : Bool) (hr : fiduciallaw26_Same_1 n x' y = some r) : FnOk Try.prog 51 [slT api_Mark.c x', slT api_Mark.c y] (aB r) := by
 unfold fiduciallaw26_Same_1 at hr
 refine FnOk.bd G Try.func51 [.tmp 4] ?_
 unfold Try.f51
 simp only [Option.getD_some]
 refine .seq (.r4 G [0, 1] [] (.seq ?_))
 obtain ⟨v1, hc2, hr⟩ := bd hr
 refine .g1 G (ok0 (slices_Equal_fiducial_api_Mark_fiducial_api_Mark_ok n x' y v1 hc2)) (.mu 2 (.ca cf0 (.mu 1 (.done (.ret ?_)))))
 obtain rfl := oi hr
 exact FinQ.r1 [aB v1]

theorem slices_EqualFunc_fiducial_api_Mark_fiducial_api_Mark_fiducial_api_Mark_fiducial_api_Mark_of_fiduciallaw26_Same_1_ok (n : Nat) (s1 : List (List api_Mark)) (s2 : List (List api_Mark)) (r : Bool) (hr : slices_EqualFunc_fiducial_api_Mark_fiducial_api_Mark_fiducial_api_Mark_fiducial_api_Mark_of_fiduciallaw26_Same_1 n s1 s2 = some r) : FnOk Try.prog 50 [slT (slC api_Mark.c) s1, slT (slC api_Mark.c) s2, .fn 51 [] []] (aB r) := by
 unfold slices_EqualFunc_fiducial_api_Mark_fiducial_api_Mark_fiducial_api_Mark_fiducial_api_Mark_of_fiduciallaw26_Same_1 at hr
 refine FnOk.bd G Try.func50 [.tmp 6] ?_
 unfold Try.f50
 simp only [Option.getD_some]
 refine .seq (.r4 G [0, 1, 2] [] (.seq (.seq (.r4 G [0, 1, 2] [(14, aB (((s1.length : Int) : Int) != (s2.length : Int)))] ?_))))
 refine .cd hr (fun hb1 hr => ?_) (fun hb1 hr => ?_)
 ·refine .seq (.ru G (.ret ?_))
  obtain rfl := oi hr
  exact FinQ.r1 [aB false]
 ·refine .skip (.seq (.seq (.r4 G [1, 2] [(15, slT (slC api_Mark.c) s1), (16, aI64 (s1.length : Int)), (17, aI64 0)] (.block ?_))))
  replace hr := bd hr; obtain ⟨o16, hL17, hr⟩ := hr
  refine .loopO (σ := fun z0 => match z0 with | x_2 => ⟨mkS 32 0 [(1, slT (slC api_Mark.c) s2), (2, .fn 51 [] []), (15, slT (slC api_Mark.c) s1), (16, aI64 (s1.length : Int)), (17, aI64 x_2)], []⟩) (Q := fun x st' => match (generalizing := false) o16 with | .inl _ => x = .exit 0 ∧ Wk 0 st' ⟨mkS 32 0 [], []⟩ | .inr (r0) => x = .ret ∧ FinQ Try.prog [.tmp 6] (aB r0) .ret st') hL17 ((Wk.gc [1, 2, 15, 16, 17] [] rfl pK0).to) ?_ ?_
  ·clear hr
   rintro m x_2 hr
   show CQ _ _ _ _ _ ⟨_, _⟩
   refine .seq (.r4 G [1, 2, 15, 16, 17] [(18, aB (decide (x_2 < (s1.length : Int))))] (.seq ?_))
   refine .cd hr (fun hb10 hr => ?_) (fun hb10 hr => ?_)
   ·refine .skip (.seq (.block (.seq ?_)))
    obtain ⟨hg11, hr⟩ := gd hr
    refine .r0 G (.mu 1 (.p0 (v := .pp (s1.flatMap (slC api_Mark.c)) (x_2.toNat * 1)) (tr (ofP_guard hg11)) (.p0 (v := slT api_Mark.c (gt s1 x_2)) (tr (ofP_some (flat_get (slC_len api_Mark.c) (inR_lt hg11) (by decide : 0 < 1) (by omega : x_2.toNat * 1 = x_2.toNat * 1 + 0) (by kernel_rfl)))) (.mu 2 (.done (.nh [1, 2, 7, 8, 15, 16, 17] [] (.seq ?_)))))))
    obtain ⟨hg12, hr⟩ := gd hr
    refine .r0 G (.mu 2 (.p0 (v := .pp (s2.flatMap (slC api_Mark.c)) (x_2.toNat * 1)) (tr (ofP_guard hg12)) (.p0 (v := slT api_Mark.c (gt s2 x_2)) (tr (ofP_some (flat_get (slC_len api_Mark.c) (inR_lt hg12) (by decide : 0 < 1) (by omega : x_2.toNat * 1 = x_2.toNat * 1 + 0) (by kernel_rfl)))) (.mu 1 (.done (.nh [1, 2, 8, 9, 15, 16, 17] [] (.seq ?_)))))))
    obtain ⟨v13, hc14, hr⟩ := bd hr
    refine .g1 G (ok0 (fiduciallaw26_Same_1_ok n (gt s1 x_2) (gt s2 x_2) v13 hc14)) (.mu 3 (.ca cf0 (.mu 1 (.done (.nh [1, 2, 15, 16, 17, 30] [] ?_)))))
    refine .cd hr (fun hb15 hr => ?_) (fun hb15 hr => ?_)
    ·refine .seq (.ru G (.ret ?_))
     obtain rfl := oi hr
     exact ⟨rfl, FinQ.ret (vs := [aB false]) (by kernel_rfl) (Sn.pure rfl)⟩
    ·refine .skip (.pop (.ru G ?_))
     exact loopF_back (wrapF .i64 (x_2 + 1)) hr ((Wk.gc [1, 2, 15, 16, 17] [] rfl pK0).to)
   ·refine .leave rfl ?_
    obtain rfl := oi hr
    exact ⟨rfl, ((Wk.gc [] [] rfl pK0).to)⟩
  ·rcases o16 with ⟨⟩ | r0
   ·rintro x st' hq18
    clear hL17
    obtain ⟨rfl, hq18⟩ := hq18
    refine CQ_exit _ rfl (.wk hq18 (.seq (.ru G (.ret ?_))))
    obtain rfl := oi hr
    exact FinQ.r1 [aB true]
   ·rintro x st' hq18
    clear hL17
    obtain ⟨rfl, hq18⟩ := hq18
    obtain rfl := oi hr
    exact CQ_ret _ hq18

theorem fiduciallaw26_Same_ok (n : Nat) (a : List (List api_Mark)) (b : List (List api_Mark)) (r : Bool) (hr : fiduciallaw26_Same n a b = some r) : FnOk Try.prog 18 [slT (slC api_Mark.c) a, slT (slC api_Mark.c) b] (aB r) := by
 unfold fiduciallaw26_Same at hr
 refine FnOk.bd G Try.func18 [.tmp 4] ?_
 unfold Try.f18
 simp only [Option.getD_some]
 refine .seq (.r4 G [0, 1] [] (.seq ?_))
 obtain ⟨v1, hc2, hr⟩ := bd hr
 refine .g1 G (ok0 (slices_EqualFunc_fiducial_api_Mark_fiducial_api_Mark_fiducial_api_Mark_fiducial_api_Mark_of_fiduciallaw26_Same_1_ok n a b v1 hc2)) (.mu 2 (.ca cf0 (.mu 1 (.done (.ret ?_)))))
 obtain rfl := oi hr
 exact FinQ.r1 [aB v1]

theorem fiduciallaw26_TrackRenumbered_ok (n : Nat) (l : List api_Tie) (by' : A2 Int) (r : Bool) (hr : fiduciallaw26_TrackRenumbered n l by' = some r) : FnOk Try.prog 3 [slT api_Tie.c l, .agg [aU8 by'.e0, aU8 by'.e1]] (aB r) := by
 unfold fiduciallaw26_TrackRenumbered at hr
 refine FnOk.bd G Try.func3 [.tmp 4] ?_
 unfold Try.f3
 simp only [Option.getD_some]
 refine .seq (.r5 G [0] [(3, .hp 0 0)] [.own [aU8 by'.e0, aU8 by'.e1]] (.seq (.seq ?_)))
 obtain ⟨v1, hc2, hr⟩ := bd hr
 refine .g1 G (ok0 (fiduciallaw26_known_ok n v1 hc2)) (.ca cf0 (.mu 1 (.done (.nh [0, 3, 16] [.own [aU8 by'.e0, aU8 by'.e1]] ?_))))
 refine .cd hr (fun hb4 hr => ?_) (fun hb4 hr => ?_)
 ·refine .seq (.ru G (.ret ?_))
  obtain rfl := oi hr
  exact FinQ.r1 [aB false]
 ·refine .skip (.seq (.seq ?_))
  rcases Bool.eq_false_or_eq_true (decide ((l.length : Int) > 30)) with hb5 | hb5
  ·replace hr := cd_t hb5 hr
   refine .r0 G (.mu 2 (.p0 (v := aB true) (eB hb5) (.mu 9 (.done (.nh [0, 3, 28] [.own [aU8 by'.e0, aU8 by'.e1]] (.cT (by kernel_rfl) (.seq (.ru G (.ret ?_)))))))))
   obtain rfl := oi hr
   exact FinQ.r1 [aB true]
  ·replace hr := cd_f hb5 hr
   obtain ⟨v6, hc7, hr⟩ := bd hr
   rcases Bool.eq_false_or_eq_true ((v6 : Int) != 0) with hb8 | hb8
   ·replace hr := cd_t hb8 hr
    refine .g1 G (ok0 (track_Check_ok n l v6 hc7)) (.mu 2 (.p0 (v := aB false) (eB hb5) (.mu 2 (.ca cf0 (.pure (v := aB true) (by kernel_rfl) (eB hb8) (.mu 5 (.done (.nh [0, 3, 28] [.own [aU8 by'.e0, aU8 by'.e1]] (.cT (by kernel_rfl) (.seq (.ru G (.ret ?_))))))))))))
    obtain rfl := oi hr
    exact FinQ.r1 [aB true]
   ·replace hr := cd_f hb8 hr
    obtain ⟨v9, hc10, hr⟩ := bd hr
    refine .gn G (ca1 (ok0 (track_Check_ok n l v6 hc7)) (ca3 (ok0 (slices_ContainsFunc_fiducial_api_Tie_fiducial_api_Tie_of_fiduciallaw26_TrackRenumbered_1_ok n l v9 hc10)))) (.mu 2 (.p0 (v := aB false) (eB hb5) (.mu 2 (.ca cf0 (.pure (v := aB false) (by kernel_rfl) (eB hb8) (.mu 3 (.ca (cfF cf0) (.mu 1 (.done (.nh [0, 3, 28] [.own [aU8 by'.e0, aU8 by'.e1]] ?_))))))))))
    refine .cd hr (fun hb12 hr => ?_) (fun hb12 hr => ?_)
    ·refine .seq (.ru G (.ret ?_))
     obtain rfl := oi hr
     exact FinQ.r1 [aB true]
    ·refine .skip (.seq (.r4 G [0] [(5, .fn 15 [] [.hp 0 0])] (.seq (.r4 G [0, 5] [(6, nS)] (.seq (.seq (.r4 G [0, 5, 6] [(30, slT api_Tie.c l), (31, aI64 (l.length : Int)), (32, aI64 0)] (.block ?_))))))))
     replace hr := bd hr; obtain ⟨other_49, hL61, hr⟩ := hr
     refine .loopO (σ := fun z0 => match z0 with | (other_38, x_39) => ⟨mkS 110 0 [(0, slT api_Tie.c l), (5, .fn 15 [] [.hp 0 0]), (6, .hs 1 0 other_38.length 5), (30, slT api_Tie.c l), (31, aI64 (l.length : Int)), (32, aI64 x_39)], [.own [aU8 by'.e0, aU8 by'.e1], .own (other_38.flatMap api_Tie.c)]⟩) (Q := fun x st' => x = .exit 0 ∧ Wk 0 st' ⟨mkS 110 0 [(0, slT api_Tie.c l), (5, .fn 15 [] [.hp 0 0]), (6, .hs 1 0 other_49.length 5)], [.own [aU8 by'.e0, aU8 by'.e1], .own (other_49.flatMap api_Tie.c)]⟩) hL61 ((Wk.nil 6 5 (by kernel_rfl)).trans ((Wk.gc [0, 5, 6, 30, 31, 32] [(0, true), (1, false)] rfl (pKt (pKc trivial))).to)) ?_ ?_
     ·clear hr
      rintro m ⟨other_38, x_39⟩ hr
      show CQ _ _ _ _ _ ⟨_, _⟩
      refine .seq (.r4 G [0, 5, 6, 30, 31, 32] [(33, aB (decide (x_39 < (l.length : Int))))] (.seq ?_))
      refine .cd hr (fun hb52 hr => ?_) (fun hb52 hr => ?_)
      ·refine .skip (.seq (.block (.seq ?_)))
       obtain ⟨hg53, hr⟩ := gd hr
       refine .r0 G (.p0 (v := .pp (l.flatMap api_Tie.c) (x_39.toNat * 5)) (tr (ofP_guard hg53)) (.p0 (v := .agg (api_Tie.c (gt l x_39))) (Eq.trans (b := ORes.ofP (guardV (decide (5 ≤ ((l.flatMap api_Tie.c).drop (x_39.toNat * 5)).length)) (.agg (((l.flatMap api_Tie.c).drop (x_39.toNat * 5)).take 5)))) (by kernel_rfl) (flat_load api_Tie.len (inR_lt hg53) (by decide) (by omega : x_39.toNat * 5 = x_39.toNat * 5 + 0) (by kernel_rfl))) (.mu 2 (.done (.nh [0, 5, 6, 8, 30, 31, 32] [.own [aU8 by'.e0, aU8 by'.e1], .own (other_38.flatMap api_Tie.c), .own (api_Tie.c (gt l x_39))] ?_)))))
       obtain ⟨v54, hc55, v56, hc57, hr⟩ := bd2 hr
       obtain ⟨hg58, hg59, hr⟩ := gd2 hr
       refine .tn G (ca1 (callOk_val (args := [.agg (api_Mark.c (gt l x_39).A), .hp 0 0]) (l := [0]) rfl (SnL.cons (Sn.pure rfl) (SnL.cons (Sn.hp rfl (.inl rfl) (SnC.cons (Sn.pure rfl) (SnC.cons (Sn.pure rfl) SnC.nil))) SnL.nil)) (fiduciallaw26_TrackRenumbered_2_ok n (gt l x_39).A by'.e0 by'.e1 v54 hc55)) (ca3 (callOk_val (args := [.agg (api_Mark.c (gt l x_39).B), .hp 0 0]) (l := [0]) rfl (SnL.cons (Sn.pure rfl) (SnL.cons (Sn.hp rfl (.inl rfl) (SnC.cons (Sn.pure rfl) (SnC.cons (Sn.pure rfl) SnC.nil))) SnL.nil)) (fiduciallaw26_TrackRenumbered_2_ok n (gt l x_39).B by'.e0 by'.e1 v56 hc57)))) (.mu 4 (.ca cf0 (.mu 3 (.ca (cfA (fun h => by rw [sv hc57 hc55 (fiduciallaw26_TrackRenumbered_2_cg n (show ([.agg (api_Mark.c (gt l x_39).B), .pp [aU8 by'.e0, aU8 by'.e1] 0] : List AV) = [.agg (api_Mark.c (gt l x_39).A), .pp [aU8 by'.e0, aU8 by'.e1] 0] from (congr (congrArg List.cons (List.cons.inj h).1) (congr (congrArg List.cons rfl) rfl))))]) cf0) (.mu 4 (.eff (v := .hs 4 0 (other_38 ++ [api_Tie.mk v54 v56 (gt l x_39).Cost]).length 5) (ws := [(1, .dead), (4, .own ((other_38 ++ [api_Tie.mk v54 v56 (gt l x_39).Cost]).flatMap api_Tie.c))]) (by kernel_rfl) (tr (app_own (new := [aI64 v54.Image, aI64 v54.Feature, aI64 v56.Image, aI64 v56.Feature, aI64 (gt l x_39).Cost]) (l := other_38) (xs := [api_Tie.mk v54 v56 (gt l x_39).Cost]) api_Tie.len rfl rfl (by kernel_rfl) hg58 hg59)) (by kernel_rfl) (.mu 1 ?_)))))))
       refine .done ⟨by kernel_rfl, ?_⟩
       refine .pop (.ru G ?_)
       exact loopF_back (other_38 ++ [api_Tie.mk v54 v56 (gt l x_39).Cost], wrapF .i64 (x_39 + 1)) hr ((Wk.gc [0, 5, 6, 30, 31, 32] [(0, true), (4, false)] rfl (pKt (pKo api_Tie.c api_Tie.pure (other_38 ++ [api_Tie.mk v54 v56 (gt l x_39).Cost]) trivial))).to)
      ·refine .leave rfl ?_
       obtain rfl := oi hr
       exact ⟨rfl, ((Wk.gc [0, 5, 6] [(0, true), (1, false)] rfl (pKt (pKo api_Tie.c api_Tie.pure other_38 trivial))).to)⟩
     ·rintro x st' hq62
      clear hL61
      obtain ⟨rfl, hq62⟩ := hq62
      refine CQ_exit _ rfl (.wk hq62 (.seq ?_))
      obtain ⟨v63, hc64, hr⟩ := bd hr
      refine .g1 G (callOk_mutU (args := [slT api_Tie.c l]) 0 1 [] [false] (track_Chain_w_ok n l v63 hc64) trivial (by exact ⟨rws_ids, trivial⟩) rfl rfl (by kernel_rfl) (by kernel_rfl)) (.mu 1 (.ca cf0 (.mu 5 (.done (.nh [5, 6, 9, 10] [.own [aU8 by'.e0, aU8 by'.e1], .own (other_49.flatMap api_Tie.c), .rows (rws 2 api_Mark.c v63.1)] (.seq (.wk (((Wk.fix 1 (cs := (other_49.flatMap api_Tie.c)) (by kernel_rfl)).trans (Wk.purify 6 (b := 1) (len := other_49.length) (es := 5) (cs := (other_49.flatMap api_Tie.c)) (by kernel_rfl) (by kernel_rfl) (ids_flat api_Tie.pure _) (fun h => flat_nil0 h))).to (c := ⟨mkS 110 0 [(5, .fn 15 [] [.hp 0 0]), (6, slT api_Tie.c other_49), (9, .hs 2 0 v63.1.length 1), (10, aI64 v63.2)], [.own [aU8 by'.e0, aU8 by'.e1], .fix (other_49.flatMap api_Tie.c), .rows (rws 2 api_Mark.c v63.1)]⟩) (by kernel_rfl)) ?_)))))))
      obtain ⟨v65, hc66, hr⟩ := bd hr
      refine .g1 G (callOk_mutU (args := [slT api_Tie.c other_49]) 0 1 [] [false] (track_Chain_w_ok n other_49 v65 hc66) trivial (by exact ⟨rws_ids, trivial⟩) rfl rfl (by kernel_rfl) (by kernel_rfl)) (.mu 1 (.ca cf0 (.mu 5 (.done (.nh [5, 9, 10, 11, 12] [.own [aU8 by'.e0, aU8 by'.e1], .fix (other_49.flatMap api_Tie.c), .rows (rws 2 api_Mark.c v63.1), .rows (rws 2 api_Mark.c v65.1)] (.seq (.seq (.r4 G [5, 9, 10, 11, 12] [(62, aI64 (v63.1.length : Int)), (63, aI64 0)] (.block ?_)))))))))
      replace hr := bd hr; obtain ⟨a_151, hL179, hr⟩ := hr
      refine .loopO (σ := fun z0 => match z0 with | (a_124, x_125) => ⟨mkS 110 0 [(5, .fn 15 [] [.hp 0 0]), (9, .hs 1 0 a_124.length 1), (10, aI64 v63.2), (11, .hs 2 0 v65.1.length 1), (12, aI64 v65.2), (62, aI64 (v63.1.length : Int)), (63, aI64 x_125)], [.own [aU8 by'.e0, aU8 by'.e1], .rows (rws 2 api_Mark.c a_124), .rows (rws 2 api_Mark.c v65.1)]⟩) (Q := fun x st' => x = .exit 2 ∧ Wk 0 st' ⟨mkS 110 0 [(9, .hs 0 0 a_151.length 1), (10, aI64 v63.2), (11, .hs 1 0 v65.1.length 1), (12, aI64 v65.2)], [.rows (rws 2 api_Mark.c a_151), .rows (rws 2 api_Mark.c v65.1)]⟩) hL179 ((Wk.gc [5, 9, 10, 11, 12, 62, 63] [(0, true), (2, false), (3, false)] rfl (pKt (pKr 2 api_Mark.c v63.1 (pKr 2 api_Mark.c v65.1 trivial)))).to) ?_ ?_
      ·clear hr
       rintro m ⟨a_124, x_125⟩ hr
       show CQ _ _ _ _ _ ⟨_, _⟩
       refine .seq (.r4 G [5, 9, 10, 11, 12, 62, 63] [(64, aB (decide (x_125 < (v63.1.length : Int))))] (.seq ?_))
       refine .cd hr (fun hb154 hr => ?_) (fun hb154 hr => ?_)
       ·refine .skip (.seq (.block (.seq (.r4 G [5, 9, 10, 11, 12, 62, 63] [(13, aI64 x_125)] (.seq ?_)))))
        obtain ⟨hg155, hr⟩ := gd hr
        refine .wk ((Wk.openT 1 (es := 2) (c := api_Mark.c) (e := a_124) hg155).to (c := ⟨mkS 110 0 [(5, .fn 15 [] [.hp 0 0]), (9, .hs 1 0 a_124.length 1), (10, aI64 v63.2), (11, .hs 2 0 v65.1.length 1), (12, aI64 v65.2), (13, aI64 x_125), (62, aI64 (v63.1.length : Int)), (63, aI64 x_125)], [.own [aU8 by'.e0, aU8 by'.e1], .rows ((rws 2 api_Mark.c a_124).set x_125.toNat (.av (.hs 3 0 (gt a_124 x_125).length 2))), .rows (rws 2 api_Mark.c v65.1), .own ((gt a_124 x_125).flatMap api_Mark.c)]⟩) (by kernel_rfl)) (.wk ((Wk.purT 1 3 (x := gt a_124 x_125) (es := 2) (c := api_Mark.c) (e := a_124) (i := x_125) (len := (gt a_124 x_125).length) api_Mark.pure hg155 rfl).to (c := ⟨mkS 110 0 [(5, .fn 15 [] [.hp 0 0]), (9, .hs 1 0 a_124.length 1), (10, aI64 v63.2), (11, .hs 2 0 v65.1.length 1), (12, aI64 v65.2), (13, aI64 x_125), (62, aI64 (v63.1.length : Int)), (63, aI64 x_125)], [.own [aU8 by'.e0, aU8 by'.e1], .rows ((rws 2 api_Mark.c a_124).set x_125.toNat (.av (slT api_Mark.c (gt a_124 x_125)))), .rows (rws 2 api_Mark.c v65.1), .fix ((gt a_124 x_125).flatMap api_Mark.c)]⟩) (by kernel_rfl)) ?_)
        obtain ⟨v156, hc157, hr⟩ := bd hr
        refine .g1 G (callOk_mutU (args := [slT api_Mark.c (gt a_124 x_125)]) 0 1 [] [false] (slices_Clone_fiducial_api_Mark_fiducial_api_Mark_w_2_ok n (gt a_124 x_125) v156 hc157) trivial (by exact ⟨ids_flat api_Mark.pure _, trivial⟩) rfl rfl (by kernel_rfl) (by kernel_rfl)) (.mu 4 (.p0 (v := .hp 1 (0 + x_125.toNat * 1)) (tr (ofP_guard hg155)) (.p0 (v := slT api_Mark.c (gt a_124 x_125)) (Eq.trans (b := ORes.ofP (rcAt ((rws 2 api_Mark.c a_124).set x_125.toNat (.av (slT api_Mark.c (gt a_124 x_125))))[0 + x_125.toNat * 1]?)) (by kernel_rfl) (rld hg155 (by omega))) (.ca cf0 (.p0 (v := .hp 1 (0 + x_125.toNat * 1)) (tr (ofP_guard hg155)) (.e0 (v := .unk) (ws := [(1, .rows ((rws 2 api_Mark.c a_124).set x_125.toNat (.av (.hs 4 0 v156.length 2))))]) (Eq.trans (b := stO (decide (0 + x_125.toNat * 1 < ((rws 2 api_Mark.c a_124).set x_125.toNat (.av (slT api_Mark.c (gt a_124 x_125)))).length) && true) [(1, .rows (((rws 2 api_Mark.c a_124).set x_125.toNat (.av (slT api_Mark.c (gt a_124 x_125)))).set (0 + x_125.toNat * 1) (.av (.hs 4 0 v156.length 2))))]) (by kernel_rfl) (rst hg155 (by omega))) (.done (.nh [5, 9, 10, 11, 12, 13, 62, 63] [.own [aU8 by'.e0, aU8 by'.e1], .rows ((rws 2 api_Mark.c a_124).set x_125.toNat (.av (.hs 4 0 v156.length 2))), .rows (rws 2 api_Mark.c v65.1), .fix ((gt a_124 x_125).flatMap api_Mark.c), .own (v156.flatMap api_Mark.c)] (.wk ((Wk.closeT 1 4 (x := v156) (es := 2) (c := api_Mark.c) (e := a_124) (i := x_125) (len := v156.length) api_Mark.pure hg155 rfl).to (c := ⟨mkS 110 0 [(5, .fn 15 [] [.hp 0 0]), (9, .hs 1 0 a_124.length 1), (10, aI64 v63.2), (11, .hs 2 0 v65.1.length 1), (12, aI64 v65.2), (13, aI64 x_125), (62, aI64 (v63.1.length : Int)), (63, aI64 x_125)], [.own [aU8 by'.e0, aU8 by'.e1], .rows (rws 2 api_Mark.c (a_124.set x_125.toNat v156)), .rows (rws 2 api_Mark.c v65.1), .fix ((gt a_124 x_125).flatMap api_Mark.c), .dead]⟩) (by kernel_rfl)) (.seq ?_))))))))))
        obtain ⟨hg158, hr⟩ := gd hr
        refine .wk ((Wk.openT 1 (es := 2) (c := api_Mark.c) (e := a_124.set x_125.toNat v156) hg158).to (c := ⟨mkS 110 0 [(5, .fn 15 [] [.hp 0 0]), (9, .hs 1 0 a_124.length 1), (10, aI64 v63.2), (11, .hs 2 0 v65.1.length 1), (12, aI64 v65.2), (13, aI64 x_125), (62, aI64 (v63.1.length : Int)), (63, aI64 x_125)], [.own [aU8 by'.e0, aU8 by'.e1], .rows ((rws 2 api_Mark.c (a_124.set x_125.toNat v156)).set x_125.toNat (.av (.hs 5 0 (gt (a_124.set x_125.toNat v156) x_125).length 2))), .rows (rws 2 api_Mark.c v65.1), .fix ((gt a_124 x_125).flatMap api_Mark.c), .dead, .own ((gt (a_124.set x_125.toNat v156) x_125).flatMap api_Mark.c)]⟩) (by kernel_rfl)) (.r0 G (.mu 2 (.p0 (v := .hp 1 (0 + x_125.toNat * 1)) (tr (ofP_guard hg155)) (.p0 (v := .hs 5 0 (gt (a_124.set x_125.toNat v156) x_125).length 2) (Eq.trans (b := ORes.ofP (rcAt ((rws 2 api_Mark.c (a_124.set x_125.toNat v156)).set x_125.toNat (.av (.hs 5 0 (gt (a_124.set x_125.toNat v156) x_125).length 2)))[0 + x_125.toNat * 1]?)) (by kernel_rfl) (rld hg158 (by omega))) (.mu 2 (.done (.nh [5, 9, 10, 11, 12, 13, 62, 63, 78, 79] [.own [aU8 by'.e0, aU8 by'.e1], .rows ((rws 2 api_Mark.c (a_124.set x_125.toNat v156)).set x_125.toNat (.av (.hs 5 0 (gt (a_124.set x_125.toNat v156) x_125).length 2))), .rows (rws 2 api_Mark.c v65.1), .fix ((gt a_124 x_125).flatMap api_Mark.c), .dead, .own ((gt (a_124.set x_125.toNat v156) x_125).flatMap api_Mark.c)] (.wk ((Wk.closeT 1 5 (x := gt (a_124.set x_125.toNat v156) x_125) (es := 2) (c := api_Mark.c) (e := a_124.set x_125.toNat v156) (i := x_125) (len := (gt (a_124.set x_125.toNat v156) x_125).length) api_Mark.pure hg158 rfl).to (c := ⟨mkS 110 0 [(5, .fn 15 [] [.hp 0 0]), (9, .hs 1 0 a_124.length 1), (10, aI64 v63.2), (11, .hs 2 0 v65.1.length 1), (12, aI64 v65.2), (13, aI64 x_125), (62, aI64 (v63.1.length : Int)), (63, aI64 x_125), (78, aI64 ((gt (a_124.set x_125.toNat v156) x_125).length : Int)), (79, aI64 0)], [.own [aU8 by'.e0, aU8 by'.e1], .rows (rws 2 api_Mark.c ((a_124.set x_125.toNat v156).set x_125.toNat (gt (a_124.set x_125.toNat v156) x_125))), .rows (rws 2 api_Mark.c v65.1), .fix ((gt a_124 x_125).flatMap api_Mark.c), .dead, .dead]⟩) (by kernel_rfl)) (.block ?_)))))))))
        replace hr := bd hr; obtain ⟨a_167, hL176, hr⟩ := hr
        refine .loopO (σ := fun z0 => match z0 with | (a_159, x_160) => ⟨mkS 110 0 [(5, .fn 15 [] [.hp 0 0]), (9, .hs 1 0 a_159.length 1), (10, aI64 v63.2), (11, .hs 2 0 v65.1.length 1), (12, aI64 v65.2), (13, aI64 x_125), (62, aI64 (v63.1.length : Int)), (63, aI64 x_125), (78, aI64 ((gt (a_124.set x_125.toNat v156) x_125).length : Int)), (79, aI64 x_160)], [.own [aU8 by'.e0, aU8 by'.e1], .rows (rws 2 api_Mark.c a_159), .rows (rws 2 api_Mark.c v65.1)]⟩) (Q := fun x st' => x = .exit 4 ∧ Wk 0 st' ⟨mkS 110 0 [(5, .fn 15 [] [.hp 0 0]), (9, .hs 1 0 a_167.length 1), (10, aI64 v63.2), (11, .hs 2 0 v65.1.length 1), (12, aI64 v65.2), (62, aI64 (v63.1.length : Int)), (63, aI64 x_125)], [.own [aU8 by'.e0, aU8 by'.e1], .rows (rws 2 api_Mark.c a_167), .rows (rws 2 api_Mark.c v65.1)]⟩) hL176 ((Wk.relen 9 (b := 1) (es := 1) (len := a_124.length) ((a_124.set x_125.toNat v156).set x_125.toNat (gt (a_124.set x_125.toNat v156) x_125)).length (by kernel_rfl) (Eq.symm (List.length_set.trans (List.length_set.trans rfl)))).trans ((Wk.gc [5, 9, 10, 11, 12, 13, 62, 63, 78, 79] [(0, true), (1, false), (2, false)] rfl (pKt (pKr 2 api_Mark.c ((a_124.set x_125.toNat v156).set x_125.toNat (gt (a_124.set x_125.toNat v156) x_125)) (pKr 2 api_Mark.c v65.1 trivial)))).to)) ?_ ?_
        ·clear hr
         rintro m ⟨a_159, x_160⟩ hr
         show CQ _ _ _ _ _ ⟨_, _⟩
         refine .seq (.r4 G [5, 9, 10, 11, 12, 13, 62, 63, 78, 79] [(80, aB (decide (x_160 < ((gt (a_124.set x_125.toNat v156) x_125).length : Int))))] (.seq ?_))
         refine .cd hr (fun hb170 hr => ?_) (fun hb170 hr => ?_)
         ·refine .skip (.seq (.block (.seq (.r4 G [5, 9, 10, 11, 12, 13, 62, 63, 78, 79] [(14, aI64 x_160)] ?_))))
          obtain ⟨hg171, hr⟩ := gd hr
          refine .wk ((Wk.openT 1 (es := 2) (c := api_Mark.c) (e := a_159) hg171).to (c := ⟨mkS 110 0 [(5, .fn 15 [] [.hp 0 0]), (9, .hs 1 0 a_159.length 1), (10, aI64 v63.2), (11, .hs 2 0 v65.1.length 1), (12, aI64 v65.2), (13, aI64 x_125), (14, aI64 x_160), (62, aI64 (v63.1.length : Int)), (63, aI64 x_125), (78, aI64 ((gt (a_124.set x_125.toNat v156) x_125).length : Int)), (79, aI64 x_160)], [.own [aU8 by'.e0, aU8 by'.e1], .rows ((rws 2 api_Mark.c a_159).set x_125.toNat (.av (.hs 3 0 (gt a_159 x_125).length 2))), .rows (rws 2 api_Mark.c v65.1), .own ((gt a_159 x_125).flatMap api_Mark.c)]⟩) (by kernel_rfl)) ?_
          obtain ⟨hg172, hr⟩ := gd hr
          obtain ⟨v173, hc174, hr⟩ := bd hr
          refine .t1 G (callOk_val (args := [.agg (api_Mark.c (gt (gt a_159 x_125) x_160)), .hp 0 0]) (l := [0]) rfl (SnL.cons (Sn.pure rfl) (SnL.cons (Sn.hp rfl (.inl rfl) (SnC.cons (Sn.pure rfl) (SnC.cons (Sn.pure rfl) SnC.nil))) SnL.nil)) (fiduciallaw26_TrackRenumbered_2_ok n (gt (gt a_159 x_125) x_160) by'.e0 by'.e1 v173 hc174)) (.mu 2 (.pure (v := .hp 1 (0 + x_125.toNat * 1)) (by kernel_rfl) (tr (ofP_guard hg171)) (by kernel_rfl) (.pure (v := .hs 3 0 (gt a_159 x_125).length 2) (by kernel_rfl) (Eq.trans (b := ORes.ofP (rcAt ((rws 2 api_Mark.c a_159).set x_125.toNat (.av (.hs 3 0 (gt a_159 x_125).length 2)))[0 + x_125.toNat * 1]?)) (by kernel_rfl) (rld hg171 (by omega))) (by kernel_rfl) (.mu 4 (.pure (v := .hp 1 (0 + x_125.toNat * 1)) (by kernel_rfl) (tr (ofP_guard hg171)) (by kernel_rfl) (.pure (v := .hs 3 0 (gt a_159 x_125).length 2) (by kernel_rfl) (Eq.trans (b := ORes.ofP (rcAt ((rws 2 api_Mark.c a_159).set x_125.toNat (.av (.hs 3 0 (gt a_159 x_125).length 2)))[0 + x_125.toNat * 1]?)) (by kernel_rfl) (rld hg171 (by omega))) (by kernel_rfl) (.mu 1 (.pure (v := .hp 3 (0 + x_160.toNat * 2)) (by kernel_rfl) (tr (ofP_guard hg172)) (by kernel_rfl) (.pure (v := .agg (api_Mark.c (gt (gt a_159 x_125) x_160))) (by kernel_rfl) (Eq.trans (b := ORes.ofP (guardV (decide (2 ≤ (((gt a_159 x_125).flatMap api_Mark.c).drop (0 + x_160.toNat * 2)).length)) (.agg ((((gt a_159 x_125).flatMap api_Mark.c).drop (0 + x_160.toNat * 2)).take 2)))) (by kernel_rfl) (flat_load api_Mark.len (inR_lt hg172) (by decide) (by omega : 0 + x_160.toNat * 2 = x_160.toNat * 2 + 0) (by kernel_rfl))) (by kernel_rfl) (.ca cf0 (.pure (v := .hp 3 (0 + x_160.toNat * 2)) (by kernel_rfl) (tr (ofP_guard hg172)) (by kernel_rfl) (.eff (v := .unk) (ws := [(3, .own (((gt a_159 x_125).set x_160.toNat v173).flatMap api_Mark.c))]) (by kernel_rfl) (tr (stO_t (and_t (flat_fits (n := 2) api_Mark.len (inR_lt hg172) (Nat.le_of_ble_eq_true rfl) (by omega : 0 + x_160.toNat * 2 = x_160.toNat * 2 + 0))) (congrArg Blk.own (flat_set (xs := (api_Mark.c v173)) api_Mark.len (inR_lt hg172) (Nat.le_of_ble_eq_true rfl) (by omega : 0 + x_160.toNat * 2 = x_160.toNat * 2 + 0) (by kernel_rfl))))) (by kernel_rfl) ?_))))))))))))
          refine .done ⟨by kernel_rfl, ?_⟩
          refine .pop (.ru G ?_)
          exact loopF_back (a_159.set x_125.toNat ((gt a_159 x_125).set x_160.toNat v173), wrapF .i64 (x_160 + 1)) hr ((Wk.closeT 1 3 (x := (gt a_159 x_125).set x_160.toNat v173) (es := 2) (c := api_Mark.c) (e := a_159) (i := x_125) (len := (gt a_159 x_125).length) api_Mark.pure hg171 (List.length_set.trans rfl)).trans ((Wk.relen 9 (b := 1) (es := 1) (len := a_159.length) (a_159.set x_125.toNat ((gt a_159 x_125).set x_160.toNat v173)).length (by kernel_rfl) (Eq.symm (List.length_set.trans rfl))).trans ((Wk.gc [5, 9, 10, 11, 12, 13, 62, 63, 78, 79] [(0, true), (1, false), (2, false)] rfl (pKt (pKr 2 api_Mark.c (a_159.set x_125.toNat ((gt a_159 x_125).set x_160.toNat v173)) (pKr 2 api_Mark.c v65.1 trivial)))).to)))
         ·refine .leave rfl ?_
          obtain rfl := oi hr
          exact ⟨rfl, ((Wk.gc [5, 9, 10, 11, 12, 62, 63] [(0, true), (1, false), (2, false)] rfl (pKt (pKr 2 api_Mark.c a_159 (pKr 2 api_Mark.c v65.1 trivial)))).to)⟩
        ·rintro x st' hq177
         clear hL176
         obtain ⟨rfl, hq177⟩ := hq177
         refine CQ_exit _ rfl (.pop (.wk hq177 (.ru G ?_)))
         exact loopF_back (a_167, wrapF .i64 (x_125 + 1)) hr ((Wk.gc [5, 9, 10, 11, 12, 62, 63] [(0, true), (1, false), (2, false)] rfl (pKt (pKr 2 api_Mark.c a_167 (pKr 2 api_Mark.c v65.1 trivial)))).to)
       ·refine .leave rfl ?_
        obtain rfl := oi hr
        exact ⟨rfl, ((Wk.gc [9, 10, 11, 12] [(1, false), (2, false)] rfl (pKr 2 api_Mark.c a_124 (pKr 2 api_Mark.c v65.1 trivial))).to)⟩
      ·rintro x st' hq180
       clear hL179
       obtain ⟨rfl, hq180⟩ := hq180
       refine CQ_exit _ rfl (.wk hq180 (.seq ?_))
       rcases Bool.eq_false_or_eq_true ((v63.2 : Int) == 0) with hb181 | hb181
       ·replace hr := cd_t hb181 hr
        rcases Bool.eq_false_or_eq_true ((v65.2 : Int) == 0) with hb182 | hb182
        ·replace hr := cd_t hb182 hr
         obtain ⟨v183, hc184, hr⟩ := bd hr
         refine .g1 G (callOk_val (args := [.hs 0 0 a_151.length 1, .hs 1 0 v65.1.length 1]) (l := [0, 1]) rfl (SnL.cons (Sn.rw (es := 2) (c := api_Mark.c) (e := a_151)) (SnL.cons (Sn.rw (es := 2) (c := api_Mark.c) (e := v65.1)) SnL.nil)) (fiduciallaw26_Same_ok n a_151 v65.1 v183 hc184)) (.mu 1 (.p0 (v := aB true) (eB hb181) (.mu 2 (.pure (v := aB true) (by kernel_rfl) (eB hb182) (.mu 4 (.ca cf0 (.mu 2 (.done (.ret ?_)))))))))
         obtain rfl := oi hr
         exact FinQ.r1 [aB v183]
        ·replace hr := cd_f hb182 hr
         refine .r0 G (.mu 1 (.p0 (v := aB true) (eB hb181) (.mu 2 (.pure (v := aB false) (by kernel_rfl) (eB hb182) (.mu 7 (.done (.ret ?_)))))))
         obtain rfl := oi hr
         exact FinQ.r1 [aB false]
       ·replace hr := cd_f hb181 hr
        refine .r0 G (.mu 1 (.p0 (v := aB false) (eB hb181) (.mu 10 (.done (.ret ?_)))))
        obtain rfl := oi hr
        exact FinQ.r1 [aB false]
end Go.L
